/- news.OpenRound: its walk, and what it answers. -/
import Derived.Test.YtdmmklfphkgmlaaNwTake
import Derived.Test.YtdmmklfphkgmlaaNwClose
import Derived.StillTailTactics
import Derived.Deep.Light
namespace Go.Proofs.Ytdmmklfphkgmlaa.Ba
open Go.RowKit Go.Proofs.YtdmmklfphkgmlaaW.PrintWords Go.Proofs.YtdmmklfphkgmlaaW.PrintLast Go.Proofs.YtdmmklfphkgmlaaW.PrintMore Go.Proofs.Ytdmmklfphkgmlaa.Om

theorem LAt.open {w : World} {base bl : Nat} {xs : List Int} (h : LAt w base bl xs) (h0 : 0 < xs.length) :
    ∃ g cap, base ≤ g ∧ g ≠ bl ∧ xs.length ≤ cap ∧ (∃ cur, w.heap[g]? = some (.cells cur 22 (0, 0))) ∧ w.cell? ⟨bl, 0, none⟩ = some (.slice (some ⟨g, 0, none⟩) xs.length cap) ∧ ∀ j, j < xs.length → w.cell? ⟨g, j, none⟩ = some (.int .u64 (xs.getD j 0)) := by
  obtain ⟨lv, h1, h2, h3⟩ := h
  rcases h2.2 with ⟨_, hz⟩ | ⟨g, cap, cur, rfl, hg1, hg2, hg3, _, hg5, hg6⟩
  · omega
  · refine ⟨g, cap, hg1, fun e => h3 (by simp [Value.ownBlock, e]), hg3, ⟨_, hg2⟩, by simp [World.cell?, h1], fun j hj => ?_⟩
    have hx : (cur.toList.take (xs.length * 1))[j]? = some (.int .u64 (xs.getD j 0)) := by
      rw [hg6]; simp [nums, List.getElem?_eq_getElem hj, List.getD]
    rw [List.getElem?_take, if_pos (by omega)] at hx
    simp only [World.cell?, hg2]
    simpa using hx

theorem LAt.nil (w : World) (base : Nat) (o : Nat) (h : w.heap[o]? = some (.cells #[.slice none 0 0] 106 (0, 0))) : LAt w base o [] :=
  ⟨_, h, own_nil _ _ _ _, by simp [Value.ownBlock]⟩

/-- What head answers. -/
def headS (s f : ByteArray) : ByteArray × Int := if s.toList = [] then (⟨#[]⟩, 10) else if (s.extract 0 1).toList = f.toList then (s.extract 1 s.size, 0) else (⟨#[]⟩, 4)
theorem toList_eq_nil (s : ByteArray) : s.toList = [] ↔ s.size = 0 := by
  rw [ByteArray.toList_eq]
  constructor
  · intro h
    have := congrArg List.length h
    simpa using this
  · intro h
    have : s.data.toList.length = 0 := by simpa using h
    exact List.eq_nil_of_length_eq_zero this
theorem head_any (s f : ByteArray) : news_head.f s f = some (headS s f) := by
  unfold news_head.f headS
  by_cases a : s.toList = []
  · rw [if_pos a, if_pos a]
  · rw [if_neg a, if_neg a, if_pos (by decide)]
    have hz : 1 ≤ (s.size : Int) := by
      have : s.size ≠ 0 := fun h => a ((toList_eq_nil s).2 h)
      omega
    rw [if_pos hz]
    by_cases b : (s.extract 0 1).toList = f.toList
    · rw [if_pos b, if_pos b]
    · rw [if_neg b, if_neg b]

set_option maxRecDepth 100000 in
theorem openRound_head (s h1 : ByteArray) (e : Int) (he : headS s ⟨#[82]⟩ = (h1, e)) (h0 : e ≠ 0) (w : World) :
    Calls Try.prog 34 #[.string s] w fun r w' => r = .returned (.tuple #[.agg #[.int .u64 0, .int .u32 0, .int .u8 0], .int .i64 e]) ∧ Below w.heap.size w w' := by
  have A := Aside0.mk ((head_any s ⟨#[82]⟩).trans (congrArg some he))
  have e1 : (e != 0) = true := bne_iff_ne.mpr h0
  clear he h0
  go_enter Try.func34, Try.ntmps34
  go_wp2_with fail
  refine (news_head.calls s ⟨#[82]⟩ h1 e _ A.out).mono ?_
  rintro r w1 ⟨rfl, hb⟩
  obtain ⟨nd, rfl⟩ := hb
  go_wp2
  exact bodyPost_ret (v := .tuple #[.agg #[.int .u64 0, .int .u32 0, .int .u8 0], .int .i64 e]) (by simp [results, Try.results34, go_sem]) rfl
    ⟨rfl, (((pw_below_drewN (below_alloc (Below.refl _ _) _) _).setCell (Nat.le_refl _) _).setCell (Nat.le_refl _) _).setCell (Nat.le_refl _) _⟩

theorem take52_3 (w : World) (base bl bs : Nat) (s : ByteArray) (a b c : Int) (h : LAt w base bl []) (hb : base ≤ bl) (hne : bs ≠ bl)
    (hbs : w.heap[bs]? = some (.cells #[.int .i64 a, .int .i64 b, .int .i64 c] 3 (0, 0))) (hbase : base ≤ w.heap.size) :
    Calls Try.prog 51 #[.string s, .func (.func 52) #[] #[.pointer (some ⟨bl, 0, none⟩)], .slice (some ⟨bs, 0, none⟩) 3 3] w fun e w' =>
      e = .returned (.tuple #[.string (takeN s [a, b, c] []).1, .int .i64 (takeN s [a, b, c] []).2.1]) ∧ LAt w' base bl (takeN s [a, b, c] []).2.2 ∧ Fr base bl w w' :=
  take52 w base bl bs s [a, b, c] [] h hb (by simp) (by simp) hne hbs hbase

theorem at_new {w : World} {o : Obj} {k : Nat} (h : k = w.heap.size) : (w.alloc o).heap[k]? = some o := by subst h; exact heap_alloc_new _ _
/-- The world ahead of OpenRound's call of take. -/
def orW (w : World) (nd : Nat) : World :=
  (((w.alloc (.cells #[.int .u64 0, .int .u32 0, .int .u8 0] 71)).drewN nd).alloc (.cells #[.slice none 0 0] 106)).alloc (.cells #[.int .i64 8, .int .i64 4, .int .i64 1] 3)
theorem orW_LAt (w : World) (nd : Nat) : LAt (orW w nd) w.heap.size (w.heap.size + 1) [] := LAt.nil _ _ _ (by unfold orW; rw [heap_alloc_old _ _ (by simp)]; exact at_new (by simp))
theorem orW_sizes (w : World) (nd : Nat) : (orW w nd).heap[w.heap.size + 1 + 1]? = some (.cells #[.int .i64 8, .int .i64 4, .int .i64 1] 3 (0, 0)) := by
  exact at_new (by simp)
theorem orW_zero (w : World) (nd : Nat) : (orW w nd).heap[w.heap.size]? = some (.cells #[.int .u64 0, .int .u32 0, .int .u8 0] 71 (0, 0)) := by
  unfold orW; rw [heap_alloc_old _ _ (by simp; omega), heap_alloc_old _ _ (by simp), World.heap_drewN, heap_alloc_new]
theorem orW_le (w : World) (nd : Nat) : w.heap.size ≤ (orW w nd).heap.size := by simp [orW]; omega
theorem orW_below (w : World) (nd : Nat) : Below w.heap.size w (orW w nd) := below_alloc (below_alloc (pw_below_drewN (below_alloc (Below.refl _ _) _) _) _) _

set_option maxRecDepth 100000 in
theorem openRound_short (s h1 R : ByteArray) (E : Int) (X : List Int) (he : headS s ⟨#[82]⟩ = (h1, 0)) (ht : takeN h1 [8, 4, 1] [] = (R, E, X)) (hE : E ≠ 0) (w : World) :
    Calls Try.prog 34 #[.string s] w fun r w' => r = .returned (.tuple #[.agg #[.int .u64 0, .int .u32 0, .int .u8 0], .int .i64 E]) ∧ Below w.heap.size w w' := by
  have A := Aside0.mk ((head_any s ⟨#[82]⟩).trans (congrArg some he))
  have T := Aside0.mk ht
  have e1 : (E != 0) = true := bne_iff_ne.mpr hE
  have e2 : (E == 0) = false := beq_eq_false_iff_ne.mpr hE
  clear hE
  clear he ht
  have hmf : ∀ (fn : Fn) (first cap : Array Value) (w : World), (Instr.makeFunc fn first cap).run Try.prog w = .ok (.func fn first cap) w := fun _ _ _ _ => rfl
  go_enter Try.func34, Try.ntmps34
  go_wp2_with fail
  refine (news_head.calls s ⟨#[82]⟩ h1 0 _ A.out).mono ?_
  rintro r w1 ⟨rfl, hb⟩
  obtain ⟨nd, rfl⟩ := hb
  go_wp2_with fail
  refine (take52_3 (orW w nd) w.heap.size (w.heap.size + 1) (w.heap.size + 1 + 1) h1 8 4 1 (orW_LAt w nd) (by omega) (by omega) (orW_sizes w nd) (orW_le w nd)).mono ?_
  rw [T.out]
  rintro r W1 ⟨rfl, hL, hF⟩
  have h2 := hF.keep w.heap.size _ 71 (0, 0) (by omega) (by decide) (orW_zero w nd)
  have c0 : W1.cell? ⟨w.heap.size, 0, none⟩ = some (.int .u64 0) := by simp [World.cell?, h2]
  have c1 : W1.cell? ⟨w.heap.size, 1, none⟩ = some (.int .u32 0) := by simp [World.cell?, h2]
  have c2 : W1.cell? ⟨w.heap.size, 2, none⟩ = some (.int .u8 0) := by simp [World.cell?, h2]
  have z0 : W1.frozen? ⟨w.heap.size, 0, none⟩ = false := by simp [World.frozen?, h2]
  have z1 : W1.frozen? ⟨w.heap.size, 1, none⟩ = false := by simp [World.frozen?, h2]
  have z2 : W1.frozen? ⟨w.heap.size, 2, none⟩ = false := by simp [World.frozen?, h2]
  have HL := Aside0.mk hL
  have HF := Aside0.mk ((orW_below w nd).trans hF.below)
  clear hL hF h2 hmf
  go_wp2
  exact bodyPost_ret (v := .tuple #[.agg #[.int .u64 0, .int .u32 0, .int .u8 0], .int .i64 E]) (by simp [results, Try.results34, go_sem, c0, c1, c2]) rfl
    ⟨rfl, ((HF.out.setCell (Nat.le_refl _) _).setCell (Nat.le_refl _) _).setCell (Nat.le_refl _) _⟩

set_option maxRecDepth 100000 in
theorem openRound_long (s h1 R : ByteArray) (X : List Int) (he : headS s ⟨#[82]⟩ = (h1, 0)) (ht : takeN h1 [8, 4, 1] [] = (R, 0, X)) (hR : R.toList ≠ []) (w : World) :
    Calls Try.prog 34 #[.string s] w fun r w' => r = .returned (.tuple #[.agg #[.int .u64 0, .int .u32 0, .int .u8 0], .int .i64 11]) ∧ Below w.heap.size w w' := by
  have A := Aside0.mk ((head_any s ⟨#[82]⟩).trans (congrArg some he))
  have T := Aside0.mk ht
  have E := Aside0.mk (show octet_End.f R = some 11 by unfold octet_End.f; rw [if_neg hR])
  clear hR
  clear he ht
  have hmf : ∀ (fn : Fn) (first cap : Array Value) (w : World), (Instr.makeFunc fn first cap).run Try.prog w = .ok (.func fn first cap) w := fun _ _ _ _ => rfl
  go_enter Try.func34, Try.ntmps34
  go_wp2_with fail
  refine (news_head.calls s ⟨#[82]⟩ h1 0 _ A.out).mono ?_
  rintro r w1 ⟨rfl, hb⟩
  obtain ⟨nd, rfl⟩ := hb
  go_wp2_with fail
  refine (take52_3 (orW w nd) w.heap.size (w.heap.size + 1) (w.heap.size + 1 + 1) h1 8 4 1 (orW_LAt w nd) (by omega) (by omega) (orW_sizes w nd) (orW_le w nd)).mono ?_
  rw [T.out]
  rintro r W1 ⟨rfl, hL, hF⟩
  have h2 := hF.keep w.heap.size _ 71 (0, 0) (by omega) (by decide) (orW_zero w nd)
  have c0 : W1.cell? ⟨w.heap.size, 0, none⟩ = some (.int .u64 0) := by simp [World.cell?, h2]
  have c1 : W1.cell? ⟨w.heap.size, 1, none⟩ = some (.int .u32 0) := by simp [World.cell?, h2]
  have c2 : W1.cell? ⟨w.heap.size, 2, none⟩ = some (.int .u8 0) := by simp [World.cell?, h2]
  have z0 : W1.frozen? ⟨w.heap.size, 0, none⟩ = false := by simp [World.frozen?, h2]
  have z1 : W1.frozen? ⟨w.heap.size, 1, none⟩ = false := by simp [World.frozen?, h2]
  have z2 : W1.frozen? ⟨w.heap.size, 2, none⟩ = false := by simp [World.frozen?, h2]
  have HL := Aside0.mk hL
  have HF := Aside0.mk ((orW_below w nd).trans hF.below)
  clear hL hF h2 hmf
  go_wp2_with fail
  refine (octet_End.calls R 11 _ E.out).mono ?_
  rintro r w2 ⟨rfl, hd⟩
  obtain ⟨nd2, rfl⟩ := hd
  go_wp2
  exact bodyPost_ret (v := .tuple #[.agg #[.int .u64 0, .int .u32 0, .int .u8 0], .int .i64 11]) (by simp [results, Try.results34, go_sem, c0, c1, c2]) rfl
    ⟨rfl, (((pw_below_drewN HF.out _).setCell (Nat.le_refl _) _).setCell (Nat.le_refl _) _).setCell (Nat.le_refl _) _⟩

set_option maxRecDepth 100000 in
theorem openRound_ok (s h1 R : ByteArray) (x0 x1 x2 : Int) (he : headS s ⟨#[82]⟩ = (h1, 0)) (ht : takeN h1 [8, 4, 1] [] = (R, 0, [x0, x1, x2])) (hR : R.toList = []) (w : World) :
    Calls Try.prog 34 #[.string s] w fun r w' => r = .returned (.tuple #[.agg #[.int .u64 x0, .int .u32 (IntKind.u32.wrap x1), .int .u8 (IntKind.u8.wrap x2)], .int .i64 0]) ∧ Below w.heap.size w w' := by
  have A := Aside0.mk ((head_any s ⟨#[82]⟩).trans (congrArg some he))
  have T := Aside0.mk ht
  have E := Aside0.mk (show octet_End.f R = some 0 by unfold octet_End.f; rw [if_pos hR])
  clear hR
  clear he ht
  have hmf : ∀ (fn : Fn) (first cap : Array Value) (w : World), (Instr.makeFunc fn first cap).run Try.prog w = .ok (.func fn first cap) w := fun _ _ _ _ => rfl
  go_enter Try.func34, Try.ntmps34
  go_wp2_with fail
  refine (news_head.calls s ⟨#[82]⟩ h1 0 _ A.out).mono ?_
  rintro r w1 ⟨rfl, hb⟩
  obtain ⟨nd, rfl⟩ := hb
  go_wp2_with fail
  refine (take52_3 (orW w nd) w.heap.size (w.heap.size + 1) (w.heap.size + 1 + 1) h1 8 4 1 (orW_LAt w nd) (by omega) (by omega) (orW_sizes w nd) (orW_le w nd)).mono ?_
  rw [T.out]
  rintro r W1 ⟨rfl, hL, hF⟩
  have h2 := hF.keep w.heap.size _ 71 (0, 0) (by omega) (by decide) (orW_zero w nd)
  have c0 : W1.cell? ⟨w.heap.size, 0, none⟩ = some (.int .u64 0) := by simp [World.cell?, h2]
  have c1 : W1.cell? ⟨w.heap.size, 1, none⟩ = some (.int .u32 0) := by simp [World.cell?, h2]
  have c2 : W1.cell? ⟨w.heap.size, 2, none⟩ = some (.int .u8 0) := by simp [World.cell?, h2]
  have z0 : W1.frozen? ⟨w.heap.size, 0, none⟩ = false := by simp [World.frozen?, h2]
  have z1 : W1.frozen? ⟨w.heap.size, 1, none⟩ = false := by simp [World.frozen?, h2]
  have z2 : W1.frozen? ⟨w.heap.size, 2, none⟩ = false := by simp [World.frozen?, h2]
  have HL := Aside0.mk hL
  have HF := Aside0.mk ((orW_below w nd).trans hF.below)
  have H2 := Aside0.mk h2
  clear hL hF h2 hmf
  obtain ⟨g, cap, hg, hgn, hcap, ⟨cur, hcur⟩, cl, cx⟩ := HL.out.open (by simp)
  have d0 := cx 0 (by simp)
  have d1 := cx 1 (by simp)
  have d2 := cx 2 (by simp)
  simp only [List.getD_cons_zero, List.getD_cons_succ, List.length_cons, List.length_nil, Nat.zero_add, Nat.reduceAdd] at d0 d1 d2 cl hcap
  have HC := Aside0.mk hcap
  have n0 : w.heap.size ≠ g := by
    intro e
    rw [← e, H2.out] at hcur
    injection hcur with hcur
    injection hcur with _ ht
    exact absurd ht (by decide)
  clear cx hcap hcur
  go_wp2_with fail
  refine (octet_End.calls R 0 _ E.out).mono ?_
  rintro r w2 ⟨rfl, hd⟩
  obtain ⟨nd2, rfl⟩ := hd
  go_wp2_with fail
  go_region_held3 (fun W => W.cell? ⟨w.heap.size + 1, 0, none⟩ = some (.slice (some ⟨g, 0, none⟩) 3 cap) ∧ W.cell? ⟨g, 0, none⟩ = some (.int .u64 x0) ∧ W.cell? ⟨g, 1, none⟩ = some (.int .u64 x1) ∧ W.cell? ⟨g, 2, none⟩ = some (.int .u64 x2)) (first | go_keep) (fail)
  go_wp2
  exact bodyPost_ret (v := .tuple #[.agg #[.int .u64 x0, .int .u32 (IntKind.u32.wrap x1), .int .u8 (IntKind.u8.wrap x2)], .int .i64 0]) (by simp [results, Try.results34, go_sem, c0, c1, c2]) rfl
    ⟨rfl, (((pw_below_drewN HF.out _).setCell (Nat.le_refl _) _).setCell (Nat.le_refl _) _).setCell (Nat.le_refl _) _⟩

end Go.Proofs.Ytdmmklfphkgmlaa.Ba
