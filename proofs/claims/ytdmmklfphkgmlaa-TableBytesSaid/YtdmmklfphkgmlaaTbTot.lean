/- TableTotals: the law's walk. -/
import Derived.Test.YtdmmklfphkgmlaaTbTotP
namespace Go.Proofs.Ytdmmklfphkgmlaa.Tb
set_option linter.unusedSimpArgs false
open Go.Proofs.Ytdmmklfphkgmlaa.Seg Go.RowKit Go.Proofs.YtdmmklfphkgmlaaW.PrintWords Go.Proofs.YtdmmklfphkgmlaaW.PrintLast Go.Proofs.YtdmmklfphkgmlaaW.PrintMore Go.Proofs.Ytdmmklfphkgmlaa.Om

theorem wpList_load_row_w {P : Program} {ops : Array Oper} {rest : List Oper} {o : Oper} {a : Act} {w : World} {Q : Exit → Act → World → Prop} (hw : Region.wanted o (yielded ops a.tmps) = true) (ty : TypeId) (x : Operand) (ho : o.op = .load ty x)
    (g : Nat) (hx : a.eval x = .pointer (some ⟨g, 0, none⟩)) (t : TypeId) (cs : Array Value) (fr : Nat × Nat) (d : TypeDesc) (hg : w.heap[g]? = some (.cells cs t fr))
    (hu : P.underlying ty = some d) (hd : (match d with | .struct _ | .array _ _ => true | _ => false) = true) (hi : (P.info? ty).map (·.size) = some cs.size)
    (h : wpList P ops Q rest (a.put o.dst (.agg cs)) w) : wpList P ops Q (o :: rest) a w :=
  wpList_step fun _ hK => by rw [if_pos hw]; exact wp_load_row ty x ho g hx t cs fr d hg hu hd hi (hK _ _ h)
theorem wpList_load_seg_w {ops : Array Oper} {rest : List Oper} {o : Oper} {a : Act} {w : World} {Q : Exit → Act → World → Prop} (hw : Region.wanted o (yielded ops a.tmps) = true) (ty : TypeId) (x : Operand) (ho : o.op = .load ty x)
    (p : Value) (hx : a.eval x = p) (v : Value) (hl : (Instr.loadAt ty p).run Try.prog w = .ok v w)
    (h : wpList Try.prog ops Q rest (a.put o.dst v) w) : wpList Try.prog ops Q (o :: rest) a w :=
  wpList_step fun _ hK => by
    rw [if_pos hw]
    unfold Oper.wp execOp
    simp only [ho, hx, Sem.run_bind, hl, Result.andThen_ok, Sem.run_pure]
    exact hK _ _ h

set_option maxRecDepth 100000 in
theorem totals_great (A : Option Addr) (n c : Nat) (w : World) (h : 100 < n) :
    Calls Try.prog 8 #[.slice A n c] w fun e w' => e = .returned (.bool true) ∧ Below w.heap.size w w' := by
  have c1 : decide (100 < (n : Int)) = true := decide_eq_true (by omega)
  go_enter Try.func8, Try.ntmps8
  go_wp2_with fail
  refine (awake_calls _).mono ?_
  rintro r w1 ⟨rfl, h1⟩
  go_wp2
  go_ret
  exact ⟨rfl, h1⟩

/-- The first loop's state: the table and how many uses. -/
def NS (w : World) (n : Int) (W : World) : Prop :=
  Below w.heap.size w W ∧ ∃ ys, Tot ys n ∧ W.heap[w.heap.size]? = some (.cells (tabV ys 0) 39 (0, 0))
/-- Two boxes. -/
def BX (w : World) (p : Nat) (x s : Obj) (W : World) : Prop :=
  Below w.heap.size w W ∧ W.heap[w.heap.size]? = some x ∧ W.heap[p]? = some s
theorem BX.step {w W W' : World} {p : Nat} {x s : Obj} (h : BX w p x s W) (hb : Below W.heap.size W W') : BX w p x s W' :=
  ⟨h.1.trans (hb.mono h.1.size), (hb.block _ (Array.getElem?_eq_some_iff.1 h.2.1).1).trans h.2.1, (hb.block _ (Array.getElem?_eq_some_iff.1 h.2.2).1).trans h.2.2⟩

/-- The contacts' rows as one array, and one of them. -/
def segV (ys : List Int) : List Value := ((ys.drop 8).take 128).map (fun x => Value.int .u32 x)
theorem segV_len (ys : List Int) (hx : ys.length = 136) : (segV ys).length = 128 := by simp [segV]; omega
theorem segV_get (ys : List Int) (hx : ys.length = 136) (j : Nat) : (segV ys)[j]? = if j < 128 then some (.int .u32 (gx ys (8 + j))) else none := by
  simp only [segV, List.getElem?_map, List.getElem?_take, List.getElem?_drop]
  by_cases h : j < 128
  · rw [if_pos h, if_pos h, List.getElem?_eq_getElem (by omega)]
    simp [gx, List.getD, List.getElem?_eq_getElem (show 8 + j < ys.length by omega)]
  · rw [if_neg h, if_neg h]; rfl
theorem segV_at (ys : List Int) (l : Int) (hx : ys.length = 136) (j : Nat) (v : Value) (h : (segV ys)[j]? = some v) : (tabV ys l)[8 + j]? = some v := by
  rw [segV_get ys hx] at h
  by_cases hj : j < 128
  · rw [if_pos hj] at h
    rw [tabV_at ys l hx, if_pos (by omega), h]
  · rw [if_neg hj] at h; cases h
theorem segV_row (ys : List Int) (c : Nat) (hx : ys.length = 136) (hc : c < 16) : (segV ys).toArray.extract (c * 8) (c * 8 + 8) = rowV (rowI ys (8 + c * 8)) := by
  apply Array.ext_getElem?
  intro j
  have h1 : (rowV (rowI ys (8 + c * 8)))[j]? = (rowL ys (8 + c * 8))[j]? := by rw [← rowI_V]; simp
  rw [h1, rowL_get ys _ hx (by omega), Array.getElem?_extract]
  have h2 : (segV ys).toArray.size = 128 := by simp [segV_len ys hx]
  by_cases hj : j < 8
  · rw [if_pos (by rw [h2]; omega), if_pos hj, List.getElem?_toArray, segV_get ys hx, if_pos (by omega)]
    congr 3; omega
  · rw [if_neg (by rw [h2]; omega), if_neg hj]
theorem index_seg (ys : List Int) (c : Nat) (hx : ys.length = 136) (hc : c < 16) (w : World) :
    (Instr.index 37 (.agg (segV ys).toArray) (.int .i64 (c : Int))).run Try.prog w = .ok (.agg (rowV (rowI ys (8 + c * 8)))) w := by
  have h1 : (0 : Int) ≤ c ∧ (c : Int) < (16 : Nat) := by omega
  have hi := info36
  cases hq : Try.prog.info? 36 with
  | none => simp [hq] at hi
  | some i =>
    have hs : i.size = 8 := by simpa [hq] using hi
    simp only [Instr.index, asIntOf, Sem.run_bind, Sem.run_pure, Result.andThen_ok, run_underlying Try.underlying37, sizeOf, typeInfo, run_program, hq, hs, if_pos h1, Int.toNat_natCast]
    rw [run_part_agg Try.underlying36 info36, segV_row ys c hx hc]
/-- Three boxes. -/
def BX3 (w : World) (p r : Nat) (x s t : Obj) (W : World) : Prop := BX w p x s W ∧ W.heap[r]? = some t

set_option maxRecDepth 100000 in
set_option maxHeartbeats 1000000 in
theorem totals_small (A : Option Addr) (c : Nat) (st : List Stp) (w : World) (hA : StepsAt w A st) (hn : st.length ≤ 100) :
    Calls Try.prog 8 #[.slice A st.length c] w fun e w' => e = .returned (.bool true) ∧ Below w.heap.size w w' := by
  have c1 : decide (100 < (st.length : Int)) = false := decide_eq_false (by omega)
  have HA := Aside0.mk hA
  have HT := Aside0.mk (show NS w 0 (w.alloc (.cells Try.zeroCells39 39)) from ⟨below_alloc (Below.refl _ _) _, _, tot_zero, by rw [← zero39]; exact heap_alloc_new _ _⟩)
  clear hA
  go_enter Try.func8, Try.ntmps8
  go_wp2_with fail
  go_loopw [4, 19] (fun t i wr => ∃ (j : Nat) (n : Int), i = .int .i64 j ∧ j ≤ st.length ∧ t = .int .u64 n ∧ 0 ≤ n ∧ n ≤ j ∧ Aside0 (NS w n wr)) (fun _ i _ => st.length - (intOf i).toNat)
  case atStart => exact ⟨0, 0, rfl, by omega, rfl, by omega, by omega, HT⟩
  case round =>
    obtain ⟨j, n, rfl, hj, rfl, hn0, hnj, HS⟩ := hrel
    clear HT
    by_cases hlt : j < st.length
    · have hx1 : 0 ≤ (j : Int) := by omega
      have hx2 : (j : Int) < (st.length : Int) := by omega
      obtain ⟨hB, ys, hT, hR⟩ := HS.out
      obtain ⟨ad, rfl, hcs⟩ := (StepsAt.below HA.out hB) (by omega)
      obtain ⟨p, hp⟩ : ∃ p, st[j]? = some p := ⟨_, List.getElem?_eq_getElem hlt⟩
      obtain ⟨q0, q1, q2, q3⟩ := hcs j p hp
      obtain ⟨pc, pk, pr, ps⟩ := p
      simp only at q0 q1 q2 q3
      clear hcs
      have H0 : BX w wr.heap.size (.cells (tabV ys 0) 39 (0, 0)) (.cells #[.int .i64 pc, .int .i64 pk, .int .u64 pr, .bool ps] 47 (0, 0)) (wr.alloc (.cells #[.int .i64 pc, .int .i64 pk, .int .u64 pr, .bool ps] 47)) :=
        ⟨hB.alloc hB.size _, (heap_alloc_old _ _ (Array.getElem?_eq_some_iff.1 hR).1).trans hR, heap_alloc_new _ _⟩
      have hi := tab_info39 ys 0 hT.len
      have hT0 := H0.2.1
      have HH0 := Aside0.mk H0
      have HTT := Aside0.mk hT
      have KA := Aside0.mk (fun V => add_calls ys 0 pc pk V hT.len hT.rng)
      obtain ⟨hcov, hsame, htot⟩ := add_tot ys n pc pk hT
      obtain ⟨⟨zs, code⟩, hsx⟩ : ∃ x, addX ys pc pk = x := ⟨_, rfl⟩
      rw [hsx] at KA hcov hsame htot
      simp only at KA hcov hsame htot
      have HC := Aside0.mk hcov
      have HE := Aside0.mk hsame
      have HN := Aside0.mk htot
      clear hB hR H0 hsx hcov hsame htot hT
      go_wp2_with (refine wpList_load_row rfl 39 _ rfl w.heap.size rfl 39 _ (0, 0) _ hT0 Try.underlying39 rfl hi ?_)
      refine (KA.out _).mono ?_
      rintro x v1 ⟨rfl, h1⟩
      have H1 := HH0.out.step h1
      have hzl : zs.length = 136 := HN.out.len
      have hi' := tab_info39 zs 0 hzl
      have ho := tab_one zs 0
      have hz := tab_zero39 zs 0 hzl
      have hZ := heap_alloc_new v1 (.cells Try.zeroCells39 39)
      have hlt1 : w.heap.size < v1.heap.size := (Array.getElem?_eq_some_iff.1 H1.2.1).1
      have H2 : BX w v1.heap.size (.cells (tabV ys 0) 39 (0, 0)) (.cells (tabV zs 0) 39 (0, 0)) ((v1.alloc (.cells Try.zeroCells39 39)).setRow v1.heap.size (tabV zs 0)) :=
        ⟨below_setRow (H1.1.alloc H1.1.size _) H1.1.size _, (setRow_other _ _ _ _ (by omega)).trans ((heap_alloc_old _ _ hlt1).trans H1.2.1), setRow_heap _ _ _ _ _ _ hZ⟩
      have hT2 := H2.2.1
      have hZ2 := H2.2.2
      generalize hV : (v1.alloc (.cells Try.zeroCells39 39)).setRow v1.heap.size (tabV zs 0) = V at H2 hT2 hZ2
      have HH2 := Aside0.mk H2
      have KC := Aside0.mk (fun W => HC.out ▸ cov_calls zs ys 0 0 W hzl HTT.out.len)
      have hz9 : (tabV ys 0).size = (tabV zs 0).size := by rw [tabV_size, tabV_size, hzl, HTT.out.len]
      clear h1 H1 H2 HH0 hT0 q0 q1 q2 q3
      go_wp2_with (first | (refine wpList_store_row rfl 39 _ _ rfl v1.heap.size _ rfl rfl 39 _ hZ hi' hz ho ?_; rw [hV]; clear hV hZ) | refine wpList_load_row rfl 39 _ rfl v1.heap.size rfl 39 _ (0, 0) _ hZ2 Try.underlying39 rfl hi' ?_ | refine wpList_load_row rfl 39 _ rfl w.heap.size rfl 39 _ (0, 0) _ hT2 Try.underlying39 rfl hi ?_)
      refine (KC.out _).mono ?_
      rintro x v2 ⟨rfl, h2⟩
      have H3 := HH2.out.step h2
      have hT3 := H3.2.1
      have hZ3 := H3.2.2
      have H4 : NS w (if code = 0 then n + 1 else n) (v2.setRow w.heap.size (tabV zs 0)) := ⟨below_setRow H3.1 (Nat.le_refl _) _, zs, HN.out, setRow_heap _ _ _ _ _ _ hT3⟩
      have HH4 := Aside0.mk H4
      clear h2 H3 H4 HH2 hT2 hZ2
      by_cases hc : code = 0
      · subst hc
        rw [if_pos rfl] at HH4
        have e1 : (n + 1) % 18446744073709551616 = n + 1 := by omega
        go_wp2_with (first | refine wpList_load_row rfl 39 _ rfl v1.heap.size rfl 39 _ (0, 0) _ hZ3 Try.underlying39 rfl hi' ?_ | refine wpList_store_row rfl 39 _ _ rfl w.heap.size _ rfl rfl 39 _ hT3 hi' hz9 ho ?_)
        go_roundw
        case rel => exact ⟨j + 1, n + 1, by go_num, by omega, rfl, by omega, by omega, HH4⟩
        case measure => simp [intOf]; omega
      · rw [if_neg hc] at HH4
        obtain rfl := HE.out hc
        have k0 : (code == 0) = false := by simpa using hc
        have k1 : (code != 0) = true := by simpa using hc
        have keq : ∀ W : World, (Op.equalIn 10000 39 (.agg (tabV zs 0)) (.agg (tabV zs 0))).run Try.prog W = .ok true W := fun W => by rw [tabEq39 zs zs 0 0 hzl hzl, tabEq_refl]
        clear hc hz9
        go_wp2_with (first | refine wpList_load_row rfl 39 _ rfl v1.heap.size rfl 39 _ (0, 0) _ hZ3 Try.underlying39 rfl hi' ?_ | refine wpList_store_row rfl 39 _ _ rfl w.heap.size _ rfl rfl 39 _ hT3 hi' rfl ho ?_ |
          refine wpList_load_row_w rfl 39 _ rfl v1.heap.size rfl 39 _ (0, 0) _ hZ3 Try.underlying39 rfl hi' ?_ | refine wpList_load_row_w rfl 39 _ rfl w.heap.size rfl 39 _ (0, 0) _ hT3 Try.underlying39 rfl hi' ?_)
        go_roundw
        case rel => exact ⟨j + 1, n, by go_num, by omega, rfl, by omega, by omega, HH4⟩
        case measure => simp [intOf]; omega
    · have hge : j = st.length := by omega
      subst hge
      obtain ⟨hB, ys, hT, hR⟩ := HS.out
      have HTT := Aside0.mk hT
      have hR0 := (heap_alloc_old wr (.cells (rowV (runS ys 0 0)) 36) (Array.getElem?_eq_some_iff.1 hR).1).trans hR
      have hS0 := heap_alloc_new wr (.cells (rowV (runS ys 0 0)) 36)
      have hB0 := hB.alloc hB.size (.cells (rowV (runS ys 0 0)) 36)
      have hbw : w.heap.size < wr.heap.size := (Array.getElem?_eq_some_iff.1 hR).1
      rw [runS_zero] at hR0 hB0
      have hS1 : (wr.alloc (.cells #[.int .u32 0, .int .u32 0, .int .u32 0, .int .u32 0, .int .u32 0, .int .u32 0, .int .u32 0, .int .u32 0] 36)).heap[wr.heap.size]? = some (.cells (rowV (runS ys 0 0)) 36 (0, 0)) := by rw [← runS_zero ys]; exact hS0
      clear hS0 HS hT hB hR
      have hseg := segV_at ys 0 HTT.out.len
      have hi37 : (Try.prog.info? 37).map (·.size) = some (segV ys).length := by rw [segV_len ys HTT.out.len]; exact info37
      go_wp2_with (refine wpList_load_seg rfl 37 _ rfl w.heap.size 8 rfl 39 _ (0, 0) (segV ys) _ hR0 hseg Try.underlying37 rfl hi37 ?_)
      clear hseg hi37
      generalize wr.alloc (.cells #[.int .u32 0, .int .u32 0, .int .u32 0, .int .u32 0, .int .u32 0, .int .u32 0, .int .u32 0, .int .u32 0] 36) = W0 at hR0 hS1 hB0 ⊢
      obtain ⟨b, hb⟩ : ∃ b, wr.heap.size = b := ⟨_, rfl⟩
      rw [hb] at hS1 hbw ⊢
      have H0 := Aside0.mk (show BX w b (.cells (tabV ys 0) 39 (0, 0)) (.cells (rowV (runS ys 0 0)) 36 (0, 0)) W0 from ⟨hB0, hR0, hS1⟩)
      clear hb hB0 hS1 hR0
      go_loopw [53] (fun i wz => ∃ (j : Nat), i = .int .i64 j ∧ j ≤ 16 ∧ Aside0 (BX w b (.cells (tabV ys 0) 39 (0, 0)) (.cells (rowV (runS ys j 0)) 36 (0, 0)) wz)) (fun i _ => 16 - (intOf i).toNat)
      case atStart => exact ⟨0, rfl, by omega, H0⟩
      case round =>
        obtain ⟨j, rfl, hj, HS⟩ := hrel
        clear H0
        by_cases hlt2 : j < 16
        · have hx1 : 0 ≤ (j : Int) := by omega
          have hx2 : (j : Int) < 16 := by omega
          have hidx := index_seg ys j HTT.out.len hlt2
          have hrl := rowI_len ys (8 + j * 8) HTT.out.len (by omega)
          have hi36 : (Try.prog.info? 36).map (·.size) = some (rowV (rowI ys (8 + j * 8))).size := by simp only [rowV, List.size_toArray, List.length_map, hrl]; exact info36
          have ho : (rowV (rowI ys (8 + j * 8))).all (·.oneCell') = true := rowL_one ys (8 + j * 8)
          have hz : (#[.int .u32 0, .int .u32 0, .int .u32 0, .int .u32 0, .int .u32 0, .int .u32 0, .int .u32 0, .int .u32 0] : Array Value).size = (rowV (rowI ys (8 + j * 8))).size := by simp only [rowV, List.size_toArray, List.length_map, hrl]; rfl
          have hZ := heap_alloc_new wr (.cells #[.int .u32 0, .int .u32 0, .int .u32 0, .int .u32 0, .int .u32 0, .int .u32 0, .int .u32 0, .int .u32 0] 36)
          have hbr : b < wr.heap.size := (Array.getElem?_eq_some_iff.1 HS.out.2.2).1
          have H1 : BX3 w b wr.heap.size (.cells (tabV ys 0) 39 (0, 0)) (.cells (rowV (runS ys j 0)) 36 (0, 0)) (.cells (rowV (rowI ys (8 + j * 8))) 36 (0, 0)) ((wr.alloc (.cells #[.int .u32 0, .int .u32 0, .int .u32 0, .int .u32 0, .int .u32 0, .int .u32 0, .int .u32 0, .int .u32 0] 36)).setRow wr.heap.size (rowV (rowI ys (8 + j * 8)))) :=
            ⟨⟨below_setRow (HS.out.1.alloc HS.out.1.size _) HS.out.1.size _, (setRow_other _ _ _ _ (by omega)).trans ((heap_alloc_old _ _ (by omega)).trans HS.out.2.1), (setRow_other _ _ _ _ (by omega)).trans ((heap_alloc_old _ _ hbr).trans HS.out.2.2)⟩, setRow_heap _ _ _ _ _ _ hZ⟩
          generalize hV : (wr.alloc (.cells #[.int .u32 0, .int .u32 0, .int .u32 0, .int .u32 0, .int .u32 0, .int .u32 0, .int .u32 0, .int .u32 0] 36)).setRow wr.heap.size (rowV (rowI ys (8 + j * 8))) = V at H1
          have HH1 := Aside0.mk H1
          clear H1 HS hrl
          go_wp2_with (refine wpList_store_row rfl 36 _ _ rfl wr.heap.size _ rfl rfl 36 _ hZ hi36 hz ho ?_; rw [hV]; clear hV hZ)
          clear hidx hi36 hz ho
          obtain ⟨r, hr⟩ : ∃ r, wr.heap.size = r := ⟨_, rfl⟩
          rw [hr] at hbr HH1 ⊢
          have hs16 := (show 16 - (intOf (.int .i64 ((j : Int) + 1))).toNat < 16 - (intOf (.int .i64 (j : Int))).toNat by simp [intOf]; omega)
          have HM := Aside0.mk hs16
          clear hs16 hr
          go_loopw [56] (fun i wz => ∃ (k : Nat), i = .int .i64 k ∧ k ≤ 8 ∧ Aside0 (BX3 w b r (.cells (tabV ys 0) 39 (0, 0)) (.cells (rowV (runS ys j k)) 36 (0, 0)) (.cells (rowV (rowI ys (8 + j * 8))) 36 (0, 0)) wz)) (fun i _ => 8 - (intOf i).toNat)
          case atStart => exact ⟨0, rfl, by omega, HH1⟩
          case round =>
            obtain ⟨k, rfl, hk, HS⟩ := hrel
            clear HH1
            by_cases hlt3 : k < 8
            · have hx3 : 0 ≤ (k : Int) := by omega
              have hx4 : (k : Int) < 8 := by omega
              have g1 := (cell_of_row wr b k _ _ _ HS.out.1.2.2).trans (rowV_get (runS ys j k) k (by rw [runS_len]; omega))
              have g2 := (cell_of_row wr r k _ _ _ HS.out.2).trans ((rowV_get (rowI ys (8 + j * 8)) k (by rw [rowI_len ys (8 + j * 8) HTT.out.len (by omega)]; omega)).trans (by rw [gx_rowI _ _ _ hlt3]))
              have f1 := frozen_of_row wr b k _ _ HS.out.1.2.2
              have m1 := runS_wrap HTT.out j k hlt2 hlt3
              have e1 : (rowV (runS ys j k)).setIfInBounds k (.int .u32 (gx (runS ys j k) k + gx ys (8 + j * 8 + k))) = rowV (runS ys j (k + 1)) := by rw [rowV_set, runS_set _ _ _ hlt3]
              have H2 : BX3 w b r (.cells (tabV ys 0) 39 (0, 0)) (.cells (rowV (runS ys j (k + 1))) 36 (0, 0)) (.cells (rowV (rowI ys (8 + j * 8))) 36 (0, 0)) (wr.drew.setCell ⟨b, k, none⟩ (.int .u32 (gx (runS ys j k) k + gx ys (8 + j * 8 + k)))) :=
                ⟨⟨below_set (g := b) (j := k) HS.out.1.1.drew (by omega), (heap_setCell_other _ ⟨b, k, none⟩ w.heap.size _ (by simp; omega)).trans HS.out.1.2.1,
                  (heap_setCell_same wr.drew b k _ 36 _ HS.out.1.2.2).trans (congrArg (fun z => some (Obj.cells z 36 (0, 0))) e1)⟩, (heap_setCell_other _ ⟨b, k, none⟩ r _ (by simp; omega)).trans HS.out.2⟩
              have HH2 := Aside0.mk H2
              clear H2 e1 HS
              go_wp2
              go_still_tail 8, (by kernel_rfl)
              go_wp2
              go_roundw
              case rel => exact ⟨k + 1, by go_num, by omega, HH2⟩
              case measure => simp [intOf]; omega
            · have hge : k = 8 := by omega
              subst hge
              have HX := Aside0.mk (show BX w b (.cells (tabV ys 0) 39 (0, 0)) (.cells (rowV (runS ys (j + 1) 0)) 36 (0, 0)) wr from runS_next ys j ▸ HS.out.1)
              clear HS
              go_wp2
              go_roundw
              case rel => exact ⟨j + 1, by go_num, by omega, HX⟩
              case measure => simp [intOf]; omega
        · have hge : j = 16 := by omega
          subst hge
          have HX := Aside0.mk (show BX w b (.cells (tabV ys 0) 39 (0, 0)) (.cells (rowV (rowI ys 0)) 36 (0, 0)) wr from runS_all HTT.out ▸ HS.out)
          clear HS
          go_wp2_with fail
          refine (awake_calls _).mono ?_
          rintro x v1 ⟨rfl, h1⟩
          have HY := Aside0.mk (HX.out.step h1)
          have hA := HY.out.2.1
          have hB := HY.out.2.2
          have hL := load_seg Try.underlying36 info36 hA ys 0 HTT.out.len (show 0 ≤ 128 by omega)
          have hrl := rowI_len ys 0 HTT.out.len (by omega)
          have hi36 : (Try.prog.info? 36).map (·.size) = some (rowV (rowI ys 0)).size := by simp only [rowV, List.size_toArray, List.length_map, hrl]; exact info36
          have keq : ∀ W : World, (Op.equalIn 10000 36 (.agg (rowV (rowI ys 0))) (.agg (rowV (rowI ys 0)))).run Try.prog W = .ok true W := fun W => by
            have := rowEq_run 9998 ys ys 0 0 HTT.out.len HTT.out.len (by omega) (by omega) Try.underlying36 Try.underlying34 info34 W
            rw [rowEq_refl] at this
            exact this
          have KS := Aside0.mk (fun V => HTT.out.all ▸ sum_calls (rowI ys 0) V hrl (rowI_range HTT.out.rng 0))
          clear h1 HX hrl
          go_wp2_with (first | refine wpList_load_row_w rfl 36 _ rfl b rfl 36 _ (0, 0) _ hB Try.underlying36 rfl hi36 ?_ | refine wpList_load_seg_w rfl 36 _ rfl (.pointer (some ⟨w.heap.size, 0, none⟩)) rfl (.agg (rowV (rowI ys 0))) hL ?_)
          refine (KS.out _).mono ?_
          rintro x v2 ⟨rfl, h2⟩
          have HZ := Aside0.mk (HY.out.1.trans (h2.mono HY.out.1.size))
          clear h2
          go_wp2
          go_ret
          exact ⟨rfl, HZ.out⟩
theorem totals_walk (A : Option Addr) (c : Nat) (st : List Stp) (w : World) (hA : StepsAt w A st) :
    Calls Try.prog 8 #[.slice A st.length c] w fun e w' => e = .returned (.bool true) ∧ Below w.heap.size w w' := by
  by_cases h : 100 < st.length
  · exact totals_great A st.length c w h
  · exact totals_small A c st w hA (by omega)
end Go.Proofs.Ytdmmklfphkgmlaa.Tb
