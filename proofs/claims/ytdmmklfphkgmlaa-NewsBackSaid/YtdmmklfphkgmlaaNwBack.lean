/- NewsBack: the law's walk. -/
import Derived.Test.YtdmmklfphkgmlaaNwBackP
namespace Go.Proofs.Ytdmmklfphkgmlaa.Ba
open Go.RowKit Go.Proofs.YtdmmklfphkgmlaaW.PrintWords Go.Proofs.YtdmmklfphkgmlaaW.PrintLast Go.Proofs.YtdmmklfphkgmlaaW.PrintMore Go.Proofs.Ytdmmklfphkgmlaa.Om

set_option maxRecDepth 100000 in
theorem newsBack_great (n e c : Int) (ep : Int) (A : Option Addr) (m d : Nat) (s t : ByteArray) (w : World) (h : 400 < m ∨ 200 < s.size ∨ 3000 < t.size) :
    Calls Try.prog 11 #[.agg #[.int .u64 n, .int .u32 e, .int .u8 c], .agg #[.int .u32 ep, .slice A m d], .string s, .string t] w fun r w' => r = .returned (.bool true) ∧ Below w.heap.size w w' := by
  by_cases h1 : 400 < m
  · have c1 : decide (400 < (m : Int)) = true := decide_eq_true (by omega)
    clear h h1
    go_enter Try.func11, Try.ntmps11
    go_wp2_with fail
    refine (awake19_fin _).mono ?_
    rintro r w1 ⟨rfl, h1⟩
    go_wp2
    go_ret
    exact ⟨rfl, (below_alloc (below_alloc (Below.refl _ _) _) _).trans (h1.mono (by simp <;> omega))⟩
  · have c1 : decide (400 < (m : Int)) = false := decide_eq_false (by omega)
    by_cases h2 : 200 < s.size
    · have c2 : decide (200 < (s.size : Int)) = true := decide_eq_true (by omega)
      clear h h1 h2
      go_enter Try.func11, Try.ntmps11
      go_wp2_with fail
      refine (awake19_fin _).mono ?_
      rintro r w1 ⟨rfl, h1⟩
      go_wp2
      go_ret
      exact ⟨rfl, (below_alloc (below_alloc (Below.refl _ _) _) _).trans (h1.mono (by simp <;> omega))⟩
    · have c2 : decide (200 < (s.size : Int)) = false := decide_eq_false (by omega)
      have c3 : decide (3000 < (t.size : Int)) = true := decide_eq_true (by omega)
      clear h h1 h2
      go_enter Try.func11, Try.ntmps11
      go_wp2_with fail
      refine (awake19_fin _).mono ?_
      rintro r w1 ⟨rfl, h1⟩
      go_wp2
      go_ret
      exact ⟨rfl, (below_alloc (below_alloc (Below.refl _ _) _) _).trans (h1.mono (by simp <;> omega))⟩

theorem roundS_range (s : ByteArray) : (0 ≤ (roundS s).1 ∧ (roundS s).1 < 18446744073709551616) ∧ (0 ≤ (roundS s).2.1 ∧ (roundS s).2.1 < 4294967296) ∧ 0 ≤ (roundS s).2.2.1 ∧ (roundS s).2.2.1 < 256 := by
  obtain ⟨a0, a1⟩ := tv_range (s.extract 1 s.size) 8
  obtain ⟨b0, b1⟩ := tv_range (s.extract 9 s.size) 4
  obtain ⟨c0, c1⟩ := bt_range s 13
  simp at a1 b1
  unfold roundS
  repeat' split
  all_goals first | decide | (dsimp only; omega)

theorem rowsFrom_wide (s : ByteArray) : ∀ d i, Wide (rowsFrom s i d)
  | 0, _ => by simp [rowsFrom, Wide]
  | d + 1, i => by
    intro x hx
    simp only [rowsFrom, List.mem_cons] at hx
    rcases hx with rfl | hx
    · obtain ⟨a0, a1⟩ := tv_range (s.extract (7 + 8 * i) s.size) 4
      obtain ⟨b0, b1⟩ := tv_range (s.extract (11 + 8 * i) s.size) 4
      simp at a1 b1
      exact ⟨a0, a1, b0, b1⟩
    · exact rowsFrom_wide s d (i + 1) x hx
theorem openS_wide (s : ByteArray) : (0 ≤ (openS s).1 ∧ (openS s).1 < 4294967296) ∧ Wide (openS s).2.1 := by
  obtain ⟨a0, a1⟩ := tv_range (s.extract 1 s.size) 4
  simp at a1
  unfold openS
  repeat' split
  all_goals first | (refine ⟨by decide, ?_⟩; intro x hx; simp at hx; done) | exact ⟨⟨a0, a1⟩, rowsFrom_wide _ _ _⟩

/-- The two arguments' boxes. -/
def NB (w : World) (n e c ep : Int) (A : Option Addr) (m d : Nat) (W : World) : Prop :=
  Below w.heap.size w W ∧ W.heap[w.heap.size]? = some (.cells #[.int .u64 n, .int .u32 e, .int .u8 c] 71 (0, 0)) ∧ W.heap[w.heap.size + 1]? = some (.cells #[.int .u32 ep, .slice A m d] 82 (0, 0))
theorem NB.step {w W W' : World} {n e c ep : Int} {A : Option Addr} {m d : Nat} (h : NB w n e c ep A m d W) (hb : Below W.heap.size W W') : NB w n e c ep A m d W' :=
  ⟨h.1.trans (hb.mono h.1.size), (hb.block _ (Array.getElem?_eq_some_iff.1 h.2.1).1).trans h.2.1, (hb.block _ (Array.getElem?_eq_some_iff.1 h.2.2).1).trans h.2.2⟩
theorem NB.init (w : World) (n e c ep : Int) (A : Option Addr) (m d : Nat) : NB w n e c ep A m d ((w.alloc (.cells #[.int .u64 n, .int .u32 e, .int .u8 c] 71)).alloc (.cells #[.int .u32 ep, .slice A m d] 82)) :=
  ⟨below_alloc (below_alloc (Below.refl _ _) _) _, (heap_alloc_old _ _ (by simp)).trans (heap_alloc_new _ _), at_new (by simp)⟩

theorem of_calls' (ep : Int) (A : Option Addr) (c : Nat) (l : List S112) (W6 W : World) (h : Kd.C k112 W6 A l.length l) (hb : Below W6.heap.size W6 W) (hl : l.length ≤ 400) :
    Calls Try.prog 40 #[.agg #[.int .u32 ep, .slice A l.length c]] W fun e w' => (∃ B d, e = .returned (.agg #[.int .u32 ep, .slice B l.length d]) ∧ Kd.C k114 w' B l.length (l.map cv)) ∧ Below W.heap.size W w' := by
  refine (of_calls ep A c l W (Kd.C_below h hb) (by omega)).mono ?_
  rintro x w7 ⟨v7, rfl, hR7, hb7⟩
  obtain ⟨A7, d7, rfl, _, hC7⟩ := Kd.R_reads hR7
  rw [List.length_map] at hC7 ⊢
  exact ⟨⟨A7, d7, rfl, hC7⟩, hb7⟩

set_option maxRecDepth 100000 in
set_option maxHeartbeats 2000000 in
theorem newsBack_small (n e c : Int) (ep : Int) (A : Option Addr) (d : Nat) (l : List S112) (s t : ByteArray) (w : World) (hC : Kd.C k112 w A l.length l) (hc : l.length ≤ d) (hl : l.length ≤ 400) (hs : s.size ≤ 200) (ht : t.size ≤ 3000)
    (n0 : 0 ≤ n) (n1 : n < 18446744073709551616) (e0 : 0 ≤ e) (e1 : e < 4294967296) (c0 : 0 ≤ c) (c1 : c < 256) (p0 : 0 ≤ ep) (p1 : ep < 4294967296) (hw : Wide (l.map p112)) :
    Calls Try.prog 11 #[.agg #[.int .u64 n, .int .u32 e, .int .u8 c], .agg #[.int .u32 ep, .slice A l.length d], .string s, .string t] w fun r w' => r = .returned (.bool true) ∧ Below w.heap.size w w' := by
  obtain ⟨RB, hRB⟩ : ∃ x, roundB n e c = x := ⟨_, rfl⟩
  have K1 : ∀ W : World, Calls Try.prog 36 #[.agg #[.int .u64 n, .int .u32 e, .int .u8 c]] W fun r w' => r = .returned (.string RB) ∧ Below W.heap.size W w' := fun W => by
    have := closeRound_fin n e c n0 n1 e0 e1 c0 c1 W; rw [hRB] at this; exact this
  have K2 : ∀ W : World, Calls Try.prog 34 #[.string RB] W fun r w' => r = .returned (.tuple #[.agg #[.int .u64 n, .int .u32 e, .int .u8 c], .int .i64 0]) ∧ Below W.heap.size W w' := fun W => by
    have := openRound_fin (roundB n e c) n e c 0 (roundS_roundB n e c n0 n1 e0 e1 c0 c1) W; rw [hRB] at this; exact this
  obtain ⟨⟨CB, ce⟩, hcs⟩ : ∃ x, closeS ep (l.map p112) = x := ⟨_, rfl⟩
  have K3 : ∀ W : World, Kd.C k112 W A l.length l → Calls Try.prog 38 #[.agg #[.int .u32 ep, .slice A l.length d]] W fun e w' => e = .returned (.tuple #[.string CB, .int .i64 ce]) ∧ Below W.heap.size W w' := fun W h => by
    have := closeReport_fin ep A d l W h hc (by omega) p0 p1 hw; rw [hcs] at this; exact this
  have K4 : ce = 0 → ∀ W : World, Calls Try.prog 41 #[.string CB] W (OpenEnd W ep (l.map p112) 0) := fun hce W => by
    have hm : mayB (l.map p112) = true := by
      cases h : mayB (l.map p112) with
      | true => rfl
      | false => unfold closeS at hcs; rw [h] at hcs; simp only [Bool.false_eq_true, if_false, Prod.mk.injEq] at hcs; exact absurd (hcs.2.trans hce) (by decide)
    have h1 := openS_closeS ep (l.map p112) hm p0 p1 hw
    rw [hcs] at h1
    have := openReport_fin CB W; rw [h1] at this; exact this
  obtain ⟨⟨a, b, c', z⟩, hr⟩ : ∃ x, roundS s = x := ⟨_, rfl⟩
  have K5 := openRound_fin s a b c' z hr
  have K6 : z = 0 → ∀ W : World, Calls Try.prog 36 #[.agg #[.int .u64 a, .int .u32 b, .int .u8 c']] W fun r w' => r = .returned (.string s) ∧ Below W.heap.size W w' := fun hz W => by
    subst hz
    obtain ⟨⟨a0, a1⟩, ⟨b0, b1⟩, q0, q1⟩ := roundS_range s
    rw [hr] at a0 a1 b0 b1 q0 q1
    have := closeRound_fin a b c' a0 a1 b0 b1 q0 q1 W
    rw [roundB_roundS s a b c' hr] at this; exact this
  obtain ⟨⟨oe, ops, oerr⟩, ho⟩ : ∃ x, openS t = x := ⟨_, rfl⟩
  have K7 : ∀ W : World, Calls Try.prog 41 #[.string t] W (OpenEnd W oe ops oerr) := fun W => by
    have := openReport_fin t W; rw [ho] at this; exact this
  have K8 : oerr = 0 → ∀ (W : World) (B : Option Addr) (k : Nat) (l' : List S112), l'.map p112 = ops → Kd.C k112 W B l'.length l' → l'.length ≤ k → Calls Try.prog 38 #[.agg #[.int .u32 oe, .slice B l'.length k]] W fun e w' => e = .returned (.tuple #[.string t, .int .i64 0]) ∧ Below W.heap.size W w' := fun hz W B k l' hl' hB hk => by
    subst hz
    obtain ⟨⟨a0, a1⟩, hw'⟩ := openS_wide t
    rw [ho] at a0 a1 hw'
    have h1 := closeS_openS t oe ops ho
    have hm : mayB ops = true := by
      cases h : mayB ops with
      | true => rfl
      | false => unfold closeS at h1; rw [h] at h1; simp at h1
    obtain ⟨_, m2⟩ := mayB_len hm
    have m3 : ops.length = l'.length := by rw [← hl', List.length_map]
    have := closeReport_fin oe B k l' W hB hk (by omega) a0 a1 (by rw [hl']; exact hw')
    rw [hl', h1] at this; exact this
  have K9 : oerr ≠ 0 → ops = [] := openS_none t oe ops oerr ho
  have KK1 := Aside0.mk K1
  have KK2 := Aside0.mk K2
  have KK3 := Aside0.mk K3
  have KK4 := Aside0.mk K4
  have KK5 := Aside0.mk K5
  have KK6 := Aside0.mk K6
  have KK7 := Aside0.mk K7
  have KK8 := Aside0.mk K8
  have KK9 := Aside0.mk K9
  have HC := Aside0.mk hC
  have HL := Aside0.mk hl
  have cs1 : decide (400 < (l.length : Int)) = false := decide_eq_false (by omega)
  have cs2 : decide (200 < (s.size : Int)) = false := decide_eq_false (by omega)
  have cs3 : decide (3000 < (t.size : Int)) = false := decide_eq_false (by omega)
  clear K1 K2 K3 K4 K5 K6 K7 K8 K9 hRB hcs hr ho hC hc hl hs ht n0 n1 e0 e1 c0 c1 p0 p1 hw
  go_enter Try.func11, Try.ntmps11
  go_wp2_with fail
  refine (KK1.out _).mono ?_
  rintro x w1 ⟨rfl, h1⟩
  have B1 := Aside0.mk ((NB.init w n e c ep A l.length d).step h1)
  clear h1
  go_wp2_with fail
  refine (KK2.out _).mono ?_
  rintro x w2 ⟨rfl, h2⟩
  have B2 := Aside0.mk ((B1.out.step h2).step (below_alloc (Below.refl _ _) (.cells #[.int .u64 n, .int .u32 e, .int .u8 c] 71)))
  clear h2
  have g0 := cell_of_row _ _ 0 _ _ _ B2.out.2.1
  have g1 := cell_of_row _ _ 1 _ _ _ B2.out.2.1
  have g2 := cell_of_row _ _ 2 _ _ _ B2.out.2.1
  have f0 := cell_of_row _ _ 0 _ _ _ B2.out.2.2
  have f1 := cell_of_row _ _ 1 _ _ _ B2.out.2.2
  go_wp2_with fail
  refine (KK3.out _ (Kd.C_below HC.out B2.out.1)).mono ?_
  by_cases hce : ce = 0
  case' pos =>
    subst hce
    have KK4' := Aside0.mk (KK4.out rfl)
    clear KK4
    rintro x w3 ⟨rfl, h3⟩
    have B3 := Aside0.mk (B2.out.step h3)
    clear h3 g0 g1 g2 f0 f1
    go_wp2_with fail
    refine (KK4'.out _).mono ?_
    rintro x w4 ⟨v4, l4, rfl, hl4, hR4, h4⟩
    obtain ⟨A4, d4, rfl, hd4, hC4⟩ := Kd.R_reads hR4
    obtain rfl : l4 = l := by
      have : ∀ (a b : List S112), a.map p112 = b.map p112 → a = b := by
        intro a
        induction a with
        | nil => intro b h; cases b with
          | nil => rfl
          | cons y b => simp at h
        | cons x a ih => intro b h; cases b with
          | nil => simp at h
          | cons y b =>
            simp only [List.map_cons, List.cons.injEq] at h
            obtain ⟨h1, h2⟩ := h
            obtain ⟨x0, x1⟩ := x
            obtain ⟨y0, y1⟩ := y
            simp only [p112, Prod.mk.injEq] at h1
            obtain ⟨rfl, rfl⟩ := h1
            rw [ih b h2]
      exact this _ _ hl4
    have B4 := Aside0.mk (B3.out.step h4)
    have C4 := Aside0.mk hC4
    clear hR4 h4 hd4 hC4 hl4
    have hRP : RP (w4.alloc (.cells #[.int .u32 ep, .slice A4 l4.length d4] 82)) ep A4 l4.length d4 A l4.length d w4.heap.size (w.heap.size + 1) (w4.alloc (.cells #[.int .u32 ep, .slice A4 l4.length d4] 82)) := by
      have q := (B4.out.step (below_alloc (Below.refl _ _) (.cells #[.int .u32 ep, .slice A4 l4.length d4] 82))).2.2
      exact ⟨Below.refl _ _, cell_of_row _ _ 0 _ _ _ (heap_alloc_new _ _), cell_of_row _ _ 1 _ _ _ (heap_alloc_new _ _), cell_of_row _ _ 0 _ _ _ q, cell_of_row _ _ 1 _ _ _ q⟩
    have hC6 : Kd.C k112 (w4.alloc (.cells #[.int .u32 ep, .slice A4 l4.length d4] 82)) A4 l4.length l4 := Kd.C_below C4.out (below_alloc (Below.refl _ _) _)
    have hC7 : Kd.C k112 (w4.alloc (.cells #[.int .u32 ep, .slice A4 l4.length d4] 82)) A l4.length l4 := Kd.C_below HC.out (B4.out.step (below_alloc (Below.refl _ _) _)).1
    have hB6 := B4.out.step (below_alloc (Below.refl _ _) (.cells #[.int .u32 ep, .slice A4 l4.length d4] 82))
    go_wp2_with fail
    obtain ⟨W6, hW6⟩ : ∃ W, w4.alloc (.cells #[.int .u32 ep, .slice A4 l4.length d4] 82) = W := ⟨_, rfl⟩
    rw [hW6] at hRP hC6 hC7 hB6 ⊢
    have HRP := Aside0.mk hRP
    have B6 := Aside0.mk hB6
    have KA := Aside0.mk (fun (W : World) (h : Below W6.heap.size W6 W ∧ W.cell? ⟨w4.heap.size, 0, none⟩ = some (.int .u32 ep) ∧ W.cell? ⟨w4.heap.size, 1, none⟩ = some (.slice A4 l4.length d4) ∧ W.cell? ⟨w.heap.size + 1, 0, none⟩ = some (.int .u32 ep) ∧ W.cell? ⟨w.heap.size + 1, 1, none⟩ = some (.slice A l4.length d)) => of_calls' ep A4 d4 l4 W6 W hC6 h.1 HL.out)
    have KB := Aside0.mk (fun (W : World) (h : Below W6.heap.size W6 W ∧ W.cell? ⟨w4.heap.size, 0, none⟩ = some (.int .u32 ep) ∧ W.cell? ⟨w4.heap.size, 1, none⟩ = some (.slice A4 l4.length d4) ∧ W.cell? ⟨w.heap.size + 1, 0, none⟩ = some (.int .u32 ep) ∧ W.cell? ⟨w.heap.size + 1, 1, none⟩ = some (.slice A l4.length d)) => of_calls' ep A d l4 W6 W hC7 h.1 HL.out)
    have KS := Aside0.mk (fun (W : World) (A7 A8 : Option Addr) (d7 d8 : Nat) (h7 : Kd.C k114 W A7 l4.length (l4.map cv)) (h8 : Kd.C k114 W A8 l4.length (l4.map cv)) => same_calls' ep A7 A8 d7 d8 l4 W h7 h8 (by have := HL.out; omega))
    clear hRP hC6 hC7 hB6 hW6 KK1 KK2 HC B4 B3 B2 B1
    go_region_held3 (fun W => Below W6.heap.size W6 W ∧ W.cell? ⟨w4.heap.size, 0, none⟩ = some (.int .u32 ep) ∧ W.cell? ⟨w4.heap.size, 1, none⟩ = some (.slice A4 l4.length d4) ∧ W.cell? ⟨w.heap.size + 1, 0, none⟩ = some (.int .u32 ep) ∧ W.cell? ⟨w.heap.size + 1, 1, none⟩ = some (.slice A l4.length d))
      (first | exact HRP.out.step (below_drew (Below.refl _ _)) | exact RP.step (W := _) (by assumption) hb | go_keep)
      ((first | (go_at_call 40; with_reducible refine (KA.out _ (by assumption)).mono ?_; rintro x w7 ⟨⟨A7, d7, rfl, hC7⟩, hb⟩; have HC7 := Aside0.mk hC7; clear hC7) | (go_at_call 40; with_reducible refine (KB.out _ (by assumption)).mono ?_; rintro x w8 ⟨⟨A8, d8, rfl, hC8⟩, hb⟩; have HC8 := Aside0.mk hC8; have HC7' := Aside0.mk (Kd.C_below HC7.out hb); clear hC8) | (go_at_call 43; with_reducible refine (KS.out _ _ _ _ _ HC7'.out HC8.out).mono ?_; rintro x w9 ⟨rfl, hb⟩)))
    have BV := Aside0.mk (B6.out.1.trans (((show RP W6 ep A4 l4.length d4 A l4.length d w4.heap.size (w.heap.size + 1) w9 from by assumption).1).mono B6.out.1.size))
    clear KA KB KS HRP B6 HC7 HC7' HC8 HL C4
    clear KK4' KK3 cs1 cs2 cs3
    go_wp2_with fail
  case' neg =>
    rintro x w9 ⟨rfl, h3⟩
    have cz : (ce == 0) = false := by simpa using hce
    have cz2 : decide (ce = 0) = false := by simpa using hce
    have BV := Aside0.mk (B2.out.step h3).1
    clear h3 g0 g1 g2 f0 f1 KK1 KK2 KK3 KK4 HC HL B1 B2
    clear cs1 cs2 cs3
    go_wp2_with fail
  all_goals
    refine (KK5.out _).mono ?_
    rintro x w13 ⟨rfl, h13⟩
    have BX := Aside0.mk (BV.out.trans (h13.mono BV.out.size))
    clear h13 BV KK5
    by_cases hz : z = 0
    case' pos =>
      subst hz
      have KK6' := Aside0.mk (KK6.out rfl)
      clear KK6
      go_wp2_with fail
      refine (KK6'.out _).mono ?_
      rintro x v1 ⟨rfl, h14⟩
      have BY := Aside0.mk (BX.out.trans (((below_alloc (Below.refl _ _) _).trans (h14.mono (by simp))).mono BX.out.size))
      clear h14 BX KK6'
      go_wp2_with fail
    case' neg =>
      have zz : (z == 0) = false := by simpa using hz
      have zz2 : decide (z = 0) = false := by simpa using hz
      go_wp2_with fail
      have hBY := BX.out.trans ((below_alloc (Below.refl _ _) (.cells #[.int .u64 a, .int .u32 b, .int .u8 c'] 71)).mono BX.out.size)
      obtain ⟨v1, hv1⟩ : ∃ v1, w13.alloc (.cells #[.int .u64 a, .int .u32 b, .int .u8 c'] 71) = v1 := ⟨_, rfl⟩
      rw [hv1] at hBY ⊢
      have BY := Aside0.mk hBY
      clear hBY hv1 BX KK6 zz zz2
  all_goals
    refine (KK7.out _).mono ?_
    rintro x w15 ⟨v5, l5, rfl, hl5, hR5, h5⟩
    obtain ⟨A5, d5, rfl, hd5, hC5⟩ := Kd.R_reads hR5
    have BZ := Aside0.mk (BY.out.trans (h5.mono BY.out.size))
    have C5 := Aside0.mk hC5
    clear hR5 h5 hC5 BY KK7
    by_cases ho : oerr = 0
    case' pos =>
      subst ho
      have KK8' := Aside0.mk (KK8.out rfl _ A5 d5 l5 hl5 (Kd.C_below C5.out (below_alloc (Below.refl _ _) (.cells #[.int .u32 oe, .slice A5 l5.length d5] 82))) hd5)
      clear KK8 KK9 hd5 hl5
      go_wp2_with fail
      refine KK8'.out.mono ?_
      rintro x w16 ⟨rfl, h16⟩
      have BW := Aside0.mk (BZ.out.trans (((below_alloc (Below.refl _ _) _).trans (h16.mono (by simp))).mono BZ.out.size))
      clear h16 BZ KK8' C5
      go_wp2_with fail
      refine (awake19_fin _).mono ?_
      rintro x w17 ⟨rfl, h17⟩
      have BE := Aside0.mk (BW.out.trans (h17.mono BW.out.size))
      clear h17 BW
      go_wp2
      go_ret
      exact ⟨rfl, BE.out⟩
    case' neg =>
      have q : l5 = [] := by
        have := KK9.out ho
        rw [← hl5] at this
        exact List.map_eq_nil_iff.1 this
      subst q
      have oo : (oerr == 0) = false := by simpa using ho
      have oo2 : decide (oerr = 0) = false := by simpa using ho
      clear KK8 KK9 hl5 hd5 C5
      go_wp2_with fail
      refine (awake19_fin _).mono ?_
      rintro x w17 ⟨rfl, h17⟩
      have BE := Aside0.mk (BZ.out.trans (((below_alloc (Below.refl _ _) _).trans (h17.mono (by simp))).mono BZ.out.size))
      have y1 : w17.cell? ⟨w15.heap.size, 1, none⟩ = some (.slice A5 0 d5) := pw_cell_below h17 (cell_of_row _ _ 1 _ _ _ (heap_alloc_new _ _))
      clear h17 BZ
      go_wp2
      go_ret
      exact ⟨rfl, BE.out⟩

theorem newsBack_walk (n e c : Int) (ep : Int) (A : Option Addr) (d : Nat) (l : List S112) (s t : ByteArray) (w : World) (hC : Kd.C k112 w A l.length l) (hc : l.length ≤ d)
    (n0 : 0 ≤ n) (n1 : n < 18446744073709551616) (e0 : 0 ≤ e) (e1 : e < 4294967296) (c0 : 0 ≤ c) (c1 : c < 256) (p0 : 0 ≤ ep) (p1 : ep < 4294967296) (hw : Wide (l.map p112)) :
    Calls Try.prog 11 #[.agg #[.int .u64 n, .int .u32 e, .int .u8 c], .agg #[.int .u32 ep, .slice A l.length d], .string s, .string t] w fun r w' => r = .returned (.bool true) ∧ Below w.heap.size w w' := by
  by_cases h : 400 < l.length ∨ 200 < s.size ∨ 3000 < t.size
  · exact newsBack_great n e c ep A l.length d s t w h
  · exact newsBack_small n e c ep A d l s t w hC hc (by omega) (by omega) (by omega) n0 n1 e0 e1 c0 c1 p0 p1 hw
end Go.Proofs.Ytdmmklfphkgmlaa.Ba
