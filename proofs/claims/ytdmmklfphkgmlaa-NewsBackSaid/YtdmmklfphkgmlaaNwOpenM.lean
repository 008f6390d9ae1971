/- news.OpenReport: the walk behind its first call of take. -/
import Derived.Test.YtdmmklfphkgmlaaNwOpenR
namespace Go.Proofs.Ytdmmklfphkgmlaa.Ba
open Go.RowKit Go.Proofs.YtdmmklfphkgmlaaW.PrintWords Go.Proofs.YtdmmklfphkgmlaaW.PrintLast Go.Proofs.YtdmmklfphkgmlaaW.PrintMore Go.Proofs.Ytdmmklfphkgmlaa.Om

/-- What OpenReport leaves: the rows of a slice of its own. -/
def OpenEnd (w : World) (ep : Int) (ps : List (Int × Int)) (err : Int) (r : Ending) (w' : World) : Prop :=
  ∃ (v : Value) (l : List S112), r = .returned (.tuple #[.agg #[.int .u32 ep, v], .int .i64 err]) ∧ l.map p112 = ps ∧ Kd.R k112 112 w' w.heap.size (fun _ => True) v l ∧ Below w.heap.size w w'

theorem info112 : (Try.prog.info? 112).map (fun i => (i.zero, i.size, i.bytes)) = some (some (.agg #[(.int .u32 0), (.int .u32 0)]), 2, 8) := by kernel_rfl
theorem takeN_two {s R : ByteArray} {a b : Int} {X : List Int} (h : takeN s [a, b] [] = (R, 0, X)) : ∃ x1 x2, X = [x1, x2] := by
  simp only [takeN] at h
  by_cases c1 : (takeS s a).2.2 = 0
  · rw [if_pos c1] at h
    by_cases c2 : (takeS (takeS s a).2.1 b).2.2 = 0
    · rw [if_pos c2] at h
      simp only [Prod.mk.injEq] at h
      exact ⟨_, _, h.2.2.symm⟩
    · rw [if_neg c2] at h
      simp only [Prod.mk.injEq] at h
      exact absurd h.2.1 c2
  · rw [if_neg c1] at h
    simp only [Prod.mk.injEq] at h
    exact absurd h.2.1 c1

theorem openM_shape {w1 : World} {base : Nat} {ok : Nat → Prop} {v : Value} {acc : List S112} {x : S112} (h : Kd.R k112 112 w1 base ok v (acc ++ [x])) : ∃ A c, v = .slice A (acc.length + 1) c := by
  obtain ⟨A, c, e, _⟩ := Kd.R_reads h
  rw [List.length_append] at e
  exact ⟨A, c, e⟩
theorem openM_block {w W w1 : World} {b8 : Nat} {ep : Int} {v : Value} {acc : List S112} {xs : List Int} (h : OpS w b8 ep v acc xs W) (hg : W.grownBy w1 v.ownBlock) : w1.heap[b8]? = some (.cells #[.int .u32 ep, v] 82 (0, 0)) :=
  (hg.block _ h.lt8 (fun e => (h.row.1 _ e.symm).2.2 rfl)).trans h.r8
theorem openM_cell {w W w1 : World} {b8 : Nat} {ep : Int} {v : Value} {acc : List S112} {xs : List Int} (h : OpS w b8 ep v acc xs W) (hg : W.grownBy w1 v.ownBlock) : w1.cell? ⟨b8, 1, none⟩ = some v :=
  cell_of_row w1 _ 1 _ _ _ (openM_block h hg)
theorem openM_frozen {w W w1 : World} {b8 : Nat} {ep : Int} {v : Value} {acc : List S112} {xs : List Int} (h : OpS w b8 ep v acc xs W) (hg : W.grownBy w1 v.ownBlock) : w1.frozen? ⟨b8, 1, none⟩ = false := by
  simp [World.frozen?, openM_block h hg]

set_option maxRecDepth 100000 in
set_option maxHeartbeats 4000000 in
theorem openReport_main (s h1 R Rn : ByteArray) (x0 : Int) (n : Nat) (En : Int) (PS : List (Int × Int)) (he : headS s ⟨#[72]⟩ = (h1, 0)) (ht : takeN h1 [4, 2] [] = (R, 0, [x0, (n : Int)])) (hn : n < 65536)
    (hT : rowsT n R [] = (Rn, En, PS)) (w : World) (ep : Int) (ps : List (Int × Int)) (err : Int)
    (hfin : (ep, ps, err) = if En ≠ 0 then (0, [], En) else if Rn.toList ≠ [] then (0, [], 11) else if mayB PS = true then ((x0 % 4294967296), PS, 0) else (0, [], 4)) :
    Calls Try.prog 41 #[.string s] w (OpenEnd w ep ps err) := by
  have A := Aside0.mk ((head_any s ⟨#[72]⟩).trans (congrArg some he))
  have T := Aside0.mk ht
  have HT := Aside0.mk hT
  have HFin := Aside0.mk hfin
  clear he ht hT hfin
  have hmf : ∀ (fn : Fn) (first cap : Array Value) (w : World), (Instr.makeFunc fn first cap).run Try.prog w = .ok (.func fn first cap) w := fun _ _ _ _ => rfl
  go_enter Try.func41, Try.ntmps41
  go_wp2_with fail
  refine (news_head.calls s ⟨#[72]⟩ h1 0 _ A.out).mono ?_
  rintro r w1 ⟨rfl, hb⟩
  obtain ⟨nd, rfl⟩ := hb
  go_wp2_with fail
  refine (take58_2 (opW w nd) w.heap.size (w.heap.size + 1) (w.heap.size + 1 + 1) h1 4 2 (opW_LAt w nd) (by omega) (by omega) (opW_sizes w nd) (opW_le w nd)).mono ?_
  rw [T.out]
  rintro r W1 ⟨rfl, hL, hF⟩
  have h2 := hF.keep w.heap.size _ 82 (0, 0) (by omega) (by decide) (opW_zero w nd)
  obtain ⟨g, cap, hg, hgn, hcap, ⟨cur, hcur⟩, cl, cx⟩ := hL.open (by simp)
  have d0 := cx 0 (by simp)
  have d1 := cx 1 (by simp)
  simp only [List.getD_cons_zero, List.getD_cons_succ, List.length_cons, List.length_nil, Nat.zero_add, Nat.reduceAdd] at d0 d1 cl hcap
  have hlt : w.heap.size + 1 < W1.heap.size := hL.lt
  have hgl : g < W1.heap.size := (Array.getElem?_eq_some_iff.1 hcur).1
  have HS := Aside0.mk (show OpS w W1.heap.size ((x0 % 4294967296)) (.slice none 0 0) [] [x0, (n : Int)] (W1.alloc (.cells #[.int .u32 ((x0 % 4294967296)), .slice none 0 0] 82)) from
    ⟨((opW_below w nd).trans hF.below).alloc (by omega) _, (heap_alloc_old _ _ (by omega)).trans h2, hL.below (below_alloc (Below.refl _ _) _), heap_alloc_new _ _, hlt, Kd.R_nil _ _ _ _ _⟩)
  clear hL hF h2 hcur cx hcap
  go_wp2
  obtain ⟨b8, hb8⟩ : ∃ b8, W1.heap.size = b8 := ⟨_, rfl⟩
  rw [hb8] at HS
  obtain ⟨e32, he32⟩ : ∃ e, x0 % 4294967296 = e := ⟨_, rfl⟩
  rw [he32] at HS HFin
  obtain ⟨W2, hW2⟩ : ∃ W, W1.alloc (.cells #[.int .u32 (x0 % 4294967296), .slice none 0 0] 82) = W := ⟨_, rfl⟩
  rw [he32] at hW2
  rw [hW2] at HS
  rw [hb8, he32, hW2]
  have hlt8 := HS.out.lt
  clear hb8 he32 hW2 d0 d1 cl hlt hgl hg hgn hmf T
  go_loopw [4, 7, 38] (fun ev rv iv wr => ∃ (i : Nat) (rest : ByteArray) (acc : List S112) (v : Value) (xs : List Int), ev = .int .i64 0 ∧ rv = .string rest ∧ iv = .int .u64 i ∧ i ≤ n ∧ acc.length = i ∧ xs.length = 2 ∧ Aside0 (rowsT (n - i) rest (acc.map p112) = (Rn, En, PS)) ∧ Aside0 (OpS w b8 e32 v acc xs wr)) (fun _ _ iv _ => n - (intOf iv).toNat)
  case atStart => exact ⟨0, R, [], _, _, rfl, rfl, rfl, Nat.zero_le _, rfl, rfl, HT, HS⟩
  case round =>
    obtain ⟨i, rest, acc, v, xs, rfl, rfl, rfl, hi, hacc, hxs, HTi, HSi⟩ := hrel
    by_cases hlt : i < n
    · obtain ⟨⟨R', E', X⟩, ht⟩ : ∃ p, takeN rest [4, 4] [] = p := ⟨_, rfl⟩
      have hTi := HTi.out
      rw [show n - i = (n - i - 1) + 1 by omega] at hTi
      simp only [rowsT, ht] at hTi
      have T := Aside0.mk ht
      obtain ⟨g, cap, hg, hgn, hcap, ⟨cur, hcur⟩, cl, _⟩ := HSi.out.l.open (by omega)
      have HSr := Aside0.mk (HSi.out.reset hgn cl)
      rw [hxs] at cl
      have zl : wr.frozen? ⟨w.heap.size + 1, 0, none⟩ = false := by
        obtain ⟨lv, q1, _⟩ := HSi.out.l; simp [World.frozen?, q1]
      obtain ⟨W3, hW3⟩ : ∃ W, wr.setCell ⟨w.heap.size + 1, 0, none⟩ (.slice (some ⟨g, 0, none⟩) 0 cap) = W := ⟨_, rfl⟩
      rw [hW3] at HSr
      by_cases hE : E' = 0
      · subst hE
        rw [if_pos rfl] at hTi
        have HTn := Aside0.mk hTi
        obtain ⟨x1, x2, rfl⟩ : ∃ x1 x2, X = [x1, x2] := takeN_two ht
        clear ht HTi hcur hcap HT hTi
        go_wp2_with fail
        have hlW3 := HSr.out.l.lt
        refine (take58_2 (W3.alloc (.cells #[.int .i64 4, .int .i64 4] 3)) w.heap.size (w.heap.size + 1) W3.heap.size rest 4 4 (HSr.out.l.below (below_alloc (Below.refl _ _) _)) (by omega) (by omega) (heap_alloc_new _ _) (by simp; omega)).mono ?_
        rw [T.out]
        rintro r W4 ⟨rfl, hL4, hF4⟩
        have HS4 := Aside0.mk ((HSr.out.step (below_alloc (Below.refl _ _) (.cells #[.int .i64 4, .int .i64 4] 3))).take hF4 hL4)
        clear hL4 hF4 hlW3
        clear cl zl hW3
        obtain ⟨g4, cap4, hg4, hgn4, hcap4, ⟨cur4, hcur4⟩, cl4, cx4⟩ := HS4.out.l.open (by simp)
        have d0 := cx4 0 (by simp)
        have d1 := cx4 1 (by simp)
        simp only [List.getD_cons_zero, List.getD_cons_succ, List.length_cons, List.length_nil, Nat.zero_add, Nat.reduceAdd] at d0 d1 cl4 hcap4
        obtain ⟨Av, cv', rfl⟩ : ∃ Av cv', v = .slice Av acc.length cv' := by
          obtain ⟨A2, c2, e, _⟩ := Kd.R_reads HS4.out.row; exact ⟨A2, c2, e⟩
        have k8 : W4.cell? ⟨b8, 1, none⟩ = some (.slice Av acc.length cv') := cell_of_row W4 _ 1 _ _ _ HS4.out.r8
        have z8 : W4.frozen? ⟨b8, 1, none⟩ = false := by simp [World.frozen?, HS4.out.r8]
        have hsz8 := HS4.out.lt8
        have hszg : g4 < W4.heap.size := (Array.getElem?_eq_some_iff.1 hcur4).1
        have HA := Aside0.mk hacc
        clear hcur4 cx4 hcap4 hg4 hgn4 hacc hxs
        go_wp2_with fail
        have hO := Aside0.mk (Kd.R_below HS4.out.row (below_drew (Below.refl _ _)))
        have hBB := Aside0.mk (below_drew HS4.out.below)
        have hFF : ∀ k, W4.drew.heap.size ≤ k → k ≠ w.heap.size ∧ k ≠ w.heap.size + 1 ∧ k ≠ b8 := fun k hk => by
          have hk' : W4.heap.size ≤ k := hk
          omega
        have hF' := Aside0.mk hFF
        have hSS := Aside0.mk HS4.out.below.size
        have hLL := Aside0.mk (show (acc.length + 1) * 8 ≤ 140737488355328 by rw [HA.out]; omega)
        clear hFF
        go_region_law (refine Kd.R_append_step k112 (w0 := w) (W := W4.drew) w.heap.size (by rfl) (.tmp 54) (.tmp 64) 80 112 (.agg #[(.int .u32 0), (.int .u32 0)]) 8 rfl Try.underlying80 info112 rfl (by decide) (by omega) (.slice Av acc.length cv') acc (⟨IntKind.u32.wrap x1, IntKind.u32.wrap x2⟩ : S112) [.int .u32 (IntKind.u32.wrap x1), .int .u32 (IntKind.u32.wrap x2)] (fun k => k ≠ w.heap.size ∧ k ≠ w.heap.size + 1 ∧ k ≠ b8) (fun _ => False) (by rfl) (by rfl) (k112_mkM _ _ _ (⟨IntKind.u32.wrap x1, IntKind.u32.wrap x2⟩ : S112)) (fun _ hk => hk.elim) hF'.out hO.out hBB.out hSS.out hLL.out ?_; intro v1 w1 hr hb hgw _; obtain ⟨Az, cz, rfl⟩ := openM_shape hr; have hP := Aside0.mk (OpS.put (HS4.out.step (below_drew (Below.refl _ _))) hr hb hgw); have m1 := openM_cell (HS4.out.step (below_drew (Below.refl _ _))) hgw; have m2 := openM_frozen (HS4.out.step (below_drew (Below.refl _ _))) hgw; clear hr hb hgw)
        all_goals
          go_wp2
          go_roundw
          case rel => exact ⟨i + 1, R', acc ++ [(⟨IntKind.u32.wrap x1, IntKind.u32.wrap x2⟩ : S112)], _, [x1, x2], rfl, rfl, by go_num, by omega, by rw [List.length_append, HA.out]; rfl, rfl, ⟨by rw [List.map_append]; exact HTn.out⟩, hP⟩
          case measure => simp [intOf]; omega
      · rw [if_neg hE] at hTi
        simp only [Prod.mk.injEq] at hTi
        obtain ⟨rfl, rfl, rfl⟩ := hTi
        have e1 : (E' != 0) = true := bne_iff_ne.mpr hE
        have hf := HFin.out
        rw [if_pos hE] at hf
        simp only [Prod.mk.injEq] at hf
        obtain ⟨rfl, rfl, rfl⟩ := hf
        clear hE ht HTi HFin hcur hcap HT
        go_wp2_with fail
        have hlW3 := HSr.out.l.lt
        refine (take58_2 (W3.alloc (.cells #[.int .i64 4, .int .i64 4] 3)) w.heap.size (w.heap.size + 1) W3.heap.size rest 4 4 (HSr.out.l.below (below_alloc (Below.refl _ _) _)) (by omega) (by omega) (heap_alloc_new _ _) (by simp; omega)).mono ?_
        rw [T.out]
        rintro r W4 ⟨rfl, hL4, hF4⟩
        have HS4 := Aside0.mk ((HSr.out.step (below_alloc (Below.refl _ _) (.cells #[.int .i64 4, .int .i64 4] 3))).take hF4 hL4)
        clear hL4 hF4 hlW3
        have q2 := HS4.out.b2
        have c0 : W4.cell? ⟨w.heap.size, 0, none⟩ = some (.int .u32 0) := by simp [World.cell?, q2]
        have c1 : W4.cell? ⟨w.heap.size, 1, none⟩ = some (.slice none 0 0) := by simp [World.cell?, q2]
        have z0 : W4.frozen? ⟨w.heap.size, 0, none⟩ = false := by simp [World.frozen?, q2]
        have z1 : W4.frozen? ⟨w.heap.size, 1, none⟩ = false := by simp [World.frozen?, q2]
        clear q2 cl zl hW3
        go_wp2
        exact bodyPost_ret (v := .tuple #[.agg #[.int .u32 0, .slice none 0 0], .int .i64 err]) (by simp [results, Try.results41, go_sem, c0, c1]) rfl
          ⟨.slice none 0 0, [], rfl, rfl, Kd.R_nil _ _ _ _ _, (HS4.out.below.setCell (Nat.le_refl _) _).setCell (Nat.le_refl _) _⟩
    · have hge : i = n := by omega
      have hTi := HTi.out
      rw [hge, Nat.sub_self] at hTi
      simp only [rowsT, Prod.mk.injEq] at hTi
      obtain ⟨rfl, rfl, rfl⟩ := hTi
      have hf := HFin.out
      rw [if_neg (show ¬ ((0 : Int) ≠ 0) by decide)] at hf
      have q2 := HSi.out.b2
      have c0 : wr.cell? ⟨w.heap.size, 0, none⟩ = some (.int .u32 0) := by simp [World.cell?, q2]
      have c1 : wr.cell? ⟨w.heap.size, 1, none⟩ = some (.slice none 0 0) := by simp [World.cell?, q2]
      have z0 : wr.frozen? ⟨w.heap.size, 0, none⟩ = false := by simp [World.frozen?, q2]
      have z1 : wr.frozen? ⟨w.heap.size, 1, none⟩ = false := by simp [World.frozen?, q2]
      clear HTi HFin hge HS HT q2
      by_cases hR : rest.toList = []
      · rw [if_neg (by simpa using hR)] at hf
        have e1 : (rest.toList == []) = true := beq_iff_eq.mpr hR
        have e2 : (rest.toList != []) = false := bne_eq_false_iff_eq.mpr hR
        have e3 : rest.toList.isEmpty = true := by rw [hR]; rfl
        obtain ⟨Av, cv', rfl⟩ : ∃ Av cv', v = .slice Av acc.length cv' := by
          obtain ⟨A2, c2, e, _⟩ := Kd.R_reads HSi.out.row; exact ⟨A2, c2, e⟩
        obtain ⟨_, hlc, hCC⟩ := Kd.R_reads' HSi.out.row
        have HC := Aside0.mk hCC
        have HLc := Aside0.mk hlc
        have k80 : wr.cell? ⟨b8, 0, none⟩ = some (.int .u32 e32) := cell_of_row wr _ 0 _ _ _ HSi.out.r8
        have k81 : wr.cell? ⟨b8, 1, none⟩ = some (.slice Av acc.length cv') := cell_of_row wr _ 1 _ _ _ HSi.out.r8
        have hl9 : acc.length ≤ 9223372036854775807 := by omega
        clear hR hCC hlc hacc hxs
        by_cases hM : mayB (acc.map p112) = true
        · rw [if_pos hM] at hf
          simp only [Prod.mk.injEq] at hf
          obtain ⟨rfl, rfl, rfl⟩ := hf
          have M := Aside0.mk ((may_any ep acc hl9 _ (.inl (Nat.le_refl _))).trans (congrArg some hM))
          clear hM
          go_wp2_with fail
          refine (news_Report_may.calls _ ep Av cv' acc true _ HC.out HLc.out M.out).mono ?_
          rintro r w5 ⟨rfl, h5⟩
          have HS5 := Aside0.mk (HSi.out.step h5)
          have q2 := HS5.out.b2
          have c05 : w5.cell? ⟨w.heap.size, 0, none⟩ = some (.int .u32 0) := by simp [World.cell?, q2]
          have c15 : w5.cell? ⟨w.heap.size, 1, none⟩ = some (.slice none 0 0) := by simp [World.cell?, q2]
          have z05 : w5.frozen? ⟨w.heap.size, 0, none⟩ = false := by simp [World.frozen?, q2]
          have z15 : w5.frozen? ⟨w.heap.size, 1, none⟩ = false := by simp [World.frozen?, q2]
          have k805 : w5.cell? ⟨b8, 0, none⟩ = some (.int .u32 ep) := cell_of_row w5 _ 0 _ _ _ HS5.out.r8
          have k815 : w5.cell? ⟨b8, 1, none⟩ = some (.slice Av acc.length cv') := cell_of_row w5 _ 1 _ _ _ HS5.out.r8
          clear q2 h5 c0 c1 z0 z1 k80 k81
          go_wp2
          exact bodyPost_ret (v := .tuple #[.agg #[.int .u32 ep, .slice Av acc.length cv'], .int .i64 0]) (by simp [results, Try.results41, go_sem, c05, c15]) rfl
            ⟨.slice Av acc.length cv', acc, rfl, rfl, Kd.R_mono (Kd.R_far (Kd.R_far HS5.out.row (fun k hk => hk.1) _) (fun k hk => hk.1) _) (fun _ _ => trivial), (HS5.out.below.setCell (Nat.le_refl _) _).setCell (Nat.le_refl _) _⟩
        · rw [if_neg hM] at hf
          simp only [Prod.mk.injEq] at hf
          obtain ⟨rfl, rfl, rfl⟩ := hf
          have M := Aside0.mk ((may_any e32 acc hl9 _ (.inl (Nat.le_refl _))).trans (congrArg some (Bool.eq_false_iff.2 hM)))
          clear hM
          go_wp2_with fail
          refine (news_Report_may.calls _ e32 Av cv' acc false _ HC.out HLc.out M.out).mono ?_
          rintro r w5 ⟨rfl, h5⟩
          have HS5 := Aside0.mk (HSi.out.step h5)
          have q2 := HS5.out.b2
          have c05 : w5.cell? ⟨w.heap.size, 0, none⟩ = some (.int .u32 0) := by simp [World.cell?, q2]
          have c15 : w5.cell? ⟨w.heap.size, 1, none⟩ = some (.slice none 0 0) := by simp [World.cell?, q2]
          have z05 : w5.frozen? ⟨w.heap.size, 0, none⟩ = false := by simp [World.frozen?, q2]
          have z15 : w5.frozen? ⟨w.heap.size, 1, none⟩ = false := by simp [World.frozen?, q2]
          clear q2 h5 c0 c1 z0 z1 k80 k81
          go_wp2
          exact bodyPost_ret (v := .tuple #[.agg #[.int .u32 0, .slice none 0 0], .int .i64 4]) (by simp [results, Try.results41, go_sem, c05, c15]) rfl
            ⟨.slice none 0 0, [], rfl, rfl, Kd.R_nil _ _ _ _ _, (HS5.out.below.setCell (Nat.le_refl _) _).setCell (Nat.le_refl _) _⟩
      · rw [if_pos hR] at hf
        simp only [Prod.mk.injEq] at hf
        obtain ⟨rfl, rfl, rfl⟩ := hf
        have e1 : (rest.toList == []) = false := beq_eq_false_iff_ne.mpr hR
        have e2 : (rest.toList != []) = true := bne_iff_ne.mpr hR
        have e3 : rest.toList.isEmpty = false := by cases h : rest.toList with | nil => exact absurd h hR | cons _ _ => rfl
        have E := Aside0.mk (show octet_End.f rest = some 11 by unfold octet_End.f; rw [if_neg hR])
        clear hR hacc hxs
        go_wp2_with fail
        refine (octet_End.calls rest 11 _ E.out).mono ?_
        rintro r w5 ⟨rfl, hd⟩
        obtain ⟨nd5, rfl⟩ := hd
        go_wp2
        exact bodyPost_ret (v := .tuple #[.agg #[.int .u32 0, .slice none 0 0], .int .i64 11]) (by simp [results, Try.results41, go_sem, c0, c1]) rfl
          ⟨.slice none 0 0, [], rfl, rfl, Kd.R_nil _ _ _ _ _, ((pw_below_drewN HSi.out.below _).setCell (Nat.le_refl _) _).setCell (Nat.le_refl _) _⟩

end Go.Proofs.Ytdmmklfphkgmlaa.Ba
