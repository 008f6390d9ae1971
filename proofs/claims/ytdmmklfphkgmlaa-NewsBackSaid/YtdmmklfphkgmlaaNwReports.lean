/- NewsReports: the law's walk. -/
import Derived.Test.YtdmmklfphkgmlaaNwFin
namespace Go.Proofs.Ytdmmklfphkgmlaa.Ba
open Go.RowKit Go.Proofs.YtdmmklfphkgmlaaW.PrintWords Go.Proofs.YtdmmklfphkgmlaaW.PrintLast Go.Proofs.YtdmmklfphkgmlaaW.PrintMore Go.Proofs.Ytdmmklfphkgmlaa.Om

theorem C_some {l : List S112} {A : Option Addr} {w : World} (h : Kd.C k112 w A l.length l) (h0 : 0 < l.length) : ∃ ad, A = some ad := by
  obtain ⟨ad, e, _⟩ := h.2.2 h0; exact ⟨ad, e⟩
theorem C_some4 {l : List S114} {A : Option Addr} {w : World} (h : Kd.C k114 w A l.length l) (h0 : 0 < l.length) : ∃ ad, A = some ad := by
  obtain ⟨ad, e, _⟩ := h.2.2 h0; exact ⟨ad, e⟩
theorem mayB_len {ps : List (Int × Int)} (h : mayB ps = true) : 1 ≤ ps.length ∧ ps.length ≤ 256 := by
  unfold mayB at h
  simp only [Bool.and_eq_true, decide_eq_true_eq] at h
  exact h.1

theorem closeReport_fin (ep : Int) (A : Option Addr) (c : Nat) (l : List S112) (w : World) (hC : Kd.C k112 w A l.length l) (hc : l.length ≤ c) (hl : l.length ≤ 9223372036854775807) (e0 : 0 ≤ ep) (e1 : ep < 4294967296) (hw : Wide (l.map p112)) :
    Calls Try.prog 38 #[.agg #[.int .u32 ep, .slice A l.length c]] w fun e w' => e = .returned (.tuple #[.string (closeS ep (l.map p112)).1, .int .i64 (closeS ep (l.map p112)).2]) ∧ Below w.heap.size w w' := by
  unfold closeS
  by_cases h : mayB (l.map p112) = true
  · rw [if_pos h]
    obtain ⟨h1, h2⟩ := mayB_len h
    rw [List.length_map] at h1 h2
    obtain ⟨ad, rfl⟩ := C_some hC (by omega)
    exact closeReport_ok ep ad c l w hC hc h2 h e0 e1 hw
  · rw [if_neg h]
    exact closeReport_bad ep A c l w hC hc hl (Bool.eq_false_iff.2 h)
theorem rcloseReport_fin (ep : Int) (A : Option Addr) (c : Nat) (l : List S114) (w : World) (hC : Kd.C k114 w A l.length l) (hc : l.length ≤ c) (hl : l.length ≤ 9223372036854775807) (e0 : 0 ≤ ep) (e1 : ep < 4294967296) (hw : Wide (l.map p114)) :
    Calls Try.prog 39 #[.agg #[.int .u32 ep, .slice A l.length c]] w fun e w' => e = .returned (.tuple #[.string (closeS ep (l.map p114)).1, .int .i64 (closeS ep (l.map p114)).2]) ∧ Below w.heap.size w w' := by
  unfold closeS
  by_cases h : mayB (l.map p114) = true
  · rw [if_pos h]
    obtain ⟨h1, h2⟩ := mayB_len h
    rw [List.length_map] at h1 h2
    obtain ⟨ad, rfl⟩ := C_some4 hC (by omega)
    exact rcloseReport_ok ep ad c l w hC hc h2 h e0 e1 hw
  · rw [if_neg h]
    exact rcloseReport_bad ep A c l w hC hc hl (Bool.eq_false_iff.2 h)

set_option maxRecDepth 100000 in
theorem newsReports_great (ep : Int) (A : Option Addr) (n c : Nat) (s : ByteArray) (w : World) (h : 3000 < s.size ∨ 400 < n) :
    Calls Try.prog 10 #[.agg #[.int .u32 ep, .slice A n c], .string s] w fun r w' => r = .returned (.bool true) ∧ Below w.heap.size w w' := by
  by_cases h1 : 3000 < s.size
  · have c1 : decide (3000 < (s.size : Int)) = true := decide_eq_true (by omega)
    clear h h1
    go_enter Try.func10, Try.ntmps10
    go_wp2_with fail
    refine (awake19_fin _).mono ?_
    rintro r w1 ⟨rfl, h1⟩
    go_wp2
    go_ret
    exact ⟨rfl, (below_alloc (Below.refl _ _) _).trans (h1.mono (by simp))⟩
  · have c1 : decide (3000 < (s.size : Int)) = false := decide_eq_false (by omega)
    have c2 : decide (400 < (n : Int)) = true := decide_eq_true (by omega)
    clear h h1
    go_enter Try.func10, Try.ntmps10
    go_wp2_with fail
    refine (awake19_fin _).mono ?_
    rintro r w1 ⟨rfl, h1⟩
    go_wp2
    go_ret
    exact ⟨rfl, (below_alloc (Below.refl _ _) _).trans (h1.mono (by simp))⟩

/-- What the region at the law's end reads. -/
def RP (W6 : World) (oe : Int) (A4 : Option Addr) (n4 d4 : Nat) (A5 : Option Addr) (n5 d5 : Nat) (b9 b11 : Nat) (W : World) : Prop :=
  Below W6.heap.size W6 W ∧ W.cell? ⟨b9, 0, none⟩ = some (.int .u32 oe) ∧ W.cell? ⟨b9, 1, none⟩ = some (.slice A4 n4 d4) ∧ W.cell? ⟨b11, 0, none⟩ = some (.int .u32 oe) ∧ W.cell? ⟨b11, 1, none⟩ = some (.slice A5 n5 d5)
theorem RP.step {W6 W W' : World} {oe : Int} {A4 A5 : Option Addr} {n4 d4 n5 d5 b9 b11 : Nat} (h : RP W6 oe A4 n4 d4 A5 n5 d5 b9 b11 W) (hb : Below W.heap.size W W') : RP W6 oe A4 n4 d4 A5 n5 d5 b9 b11 W' := by
  obtain ⟨h0, h1, h2, h3, h4⟩ := h
  exact ⟨h0.trans (hb.mono h0.size), pw_cell_below hb h1, pw_cell_below hb h2, pw_cell_below hb h3, pw_cell_below hb h4⟩
theorem reports_RP {w w4 w5 : World} (oe : Int) (A4 : Option Addr) (n4 d4 : Nat) (A5 : Option Addr) (n5 d5 : Nat) (hb : Below w.heap.size w w4)
    (h5 : Below (w4.alloc (.cells #[.int .u32 oe, .slice A4 n4 d4] 82)).heap.size (w4.alloc (.cells #[.int .u32 oe, .slice A4 n4 d4] 82)) w5) :
    Below w.heap.size w (w5.alloc (.cells #[.int .u32 oe, .slice A5 n5 d5] 87)) ∧ RP (w5.alloc (.cells #[.int .u32 oe, .slice A5 n5 d5] 87)) oe A4 n4 d4 A5 n5 d5 w4.heap.size w5.heap.size (w5.alloc (.cells #[.int .u32 oe, .slice A5 n5 d5] 87)) := by
  have k4 : w4.heap.size < w5.heap.size := by have := h5.size; simp at this; omega
  have hs := hb.size
  have b1 : Below w.heap.size w w5 := (hb.alloc hs _).trans (h5.mono (by simp; omega))
  have kA : w5.heap[w4.heap.size]? = some (.cells #[.int .u32 oe, .slice A4 n4 d4] 82 (0, 0)) := (h5.block _ (by simp)).trans (heap_alloc_new _ _)
  have kA' := (heap_alloc_old w5 (.cells #[.int .u32 oe, .slice A5 n5 d5] 87) k4).trans kA
  have kB := heap_alloc_new w5 (.cells #[.int .u32 oe, .slice A5 n5 d5] 87)
  exact ⟨b1.alloc (by omega) _, Below.refl _ _, cell_of_row _ _ 0 _ _ _ kA', cell_of_row _ _ 1 _ _ _ kA', cell_of_row _ _ 0 _ _ _ kB, cell_of_row _ _ 1 _ _ _ kB⟩

theorem same_calls' (ep : Int) (A B : Option Addr) (c d : Nat) (l : List S112) (w : World) (hA : Kd.C k114 w A l.length (l.map cv)) (hB : Kd.C k114 w B l.length (l.map cv)) (hl : l.length ≤ 100000) :
    Calls Try.prog 43 #[.agg #[.int .u32 ep, .slice A l.length c], .agg #[.int .u32 ep, .slice B l.length d]] w fun r w' => r = .returned (.bool true) ∧ Below w.heap.size w w' := by
  have e : (l.map cv).length = l.length := List.length_map _
  have := same_calls ep A B c d (l.map cv) w (by rw [e]; exact hA) (by rw [e]; exact hB) (by rw [e]; exact hl)
  rw [e] at this; exact this

set_option maxRecDepth 100000 in
set_option maxHeartbeats 2000000 in
theorem newsReports_small (ep : Int) (A : Option Addr) (c : Nat) (l : List S112) (s : ByteArray) (w : World) (hC : Kd.C k112 w A l.length l) (hc : l.length ≤ c) (hl : l.length ≤ 400) (hs : s.size ≤ 3000)
    (e0 : 0 ≤ ep) (e1 : ep < 4294967296) (hw : Wide (l.map p112)) :
    Calls Try.prog 10 #[.agg #[.int .u32 ep, .slice A l.length c], .string s] w fun r w' => r = .returned (.bool true) ∧ Below w.heap.size w w' := by
  obtain ⟨⟨CB, ce⟩, hcs⟩ : ∃ x, closeS ep (l.map p112) = x := ⟨_, rfl⟩
  obtain ⟨⟨oe, ops, oerr⟩, ho⟩ : ∃ x, openS s = x := ⟨_, rfl⟩
  have K1 : ∀ W : World, Kd.C k112 W A l.length l → Calls Try.prog 38 #[.agg #[.int .u32 ep, .slice A l.length c]] W fun e w' => e = .returned (.tuple #[.string CB, .int .i64 ce]) ∧ Below W.heap.size W w' := fun W h => by
    have := closeReport_fin ep A c l W h hc (by omega) e0 e1 hw; rw [hcs] at this; exact this
  have K2 : ∀ (W : World) (B : Option Addr) (d : Nat), Kd.C k114 W B l.length (l.map cv) → l.length ≤ d → Calls Try.prog 39 #[.agg #[.int .u32 ep, .slice B l.length d]] W fun e w' => e = .returned (.tuple #[.string CB, .int .i64 ce]) ∧ Below W.heap.size W w' := fun W B d h hd => by
    have hlen : (l.map cv).length = l.length := List.length_map _
    have := rcloseReport_fin ep B d (l.map cv) W (by rw [hlen]; exact h) (by omega) (by omega) e0 e1 (by rw [p114_cv]; exact hw)
    rw [p114_cv, hcs, hlen] at this; exact this
  have K3 : ∀ W : World, Calls Try.prog 41 #[.string s] W (OpenEnd W oe ops oerr) := fun W => by
    have := openReport_fin s W; rw [ho] at this; exact this
  have K4 := (ropen_any s 140000 (by omega))
  rw [ho] at K4
  have KK1 := Aside0.mk K1
  have KK2 := Aside0.mk K2
  have KK3 := Aside0.mk K3
  have KK4 := Aside0.mk K4
  have HC := Aside0.mk hC
  have cs1 : decide (3000 < (s.size : Int)) = false := decide_eq_false (by omega)
  have cs2 : decide (400 < (l.length : Int)) = false := decide_eq_false (by omega)
  have hops : ops.length ≤ 65536 := by
    have : ops = (openS s).2.1 := by rw [ho]
    rw [this]; unfold openS
    have := rowsN_lt s
    repeat' split
    all_goals first | simp; done | (simp only [rowsFrom_len]; omega)
  clear K1 K2 K3 K4 hC hcs ho hs e0 e1 hw hc
  go_enter Try.func10, Try.ntmps10
  go_wp2_with fail
  refine (KK1.out _ (Kd.C_below HC.out (below_alloc (Below.refl _ _) _))).mono ?_
  rintro x w1 ⟨rfl, h1⟩
  have B1 := Aside0.mk (CR.step (w := w) (b := w.heap.size) (o := .cells #[.int .u32 ep, .slice A l.length c] 82 (0, 0)) ⟨below_alloc (Below.refl _ _) _, heap_alloc_new _ _⟩ h1)
  have c0 : w1.cell? ⟨w.heap.size, 0, none⟩ = some (.int .u32 ep) := cell_of_row w1 _ 0 _ _ _ B1.out.2
  have c1 : w1.cell? ⟨w.heap.size, 1, none⟩ = some (.slice A l.length c) := cell_of_row w1 _ 1 _ _ _ B1.out.2
  clear h1
  go_wp2_with fail
  refine (of_calls ep A c l _ (Kd.C_below HC.out B1.out.1) (by omega)).mono ?_
  rintro x w2 ⟨v2, rfl, hR2, h2⟩
  obtain ⟨A2, d2, rfl, hd2, hC2⟩ := Kd.R_reads hR2
  rw [List.length_map] at hd2 hC2
  have e2 : Value.slice A2 (List.map cv l).length d2 = Value.slice A2 l.length d2 := by rw [List.length_map]
  rw [e2]
  have B2 := Aside0.mk (B1.out.step h2)
  have HC2 := Aside0.mk hC2
  have HD2 := Aside0.mk hd2
  clear hR2 h2 hd2 hC2 e2 c0 c1
  go_wp2_with fail
  refine (KK2.out _ A2 d2 HC2.out HD2.out).mono ?_
  rintro x w3 ⟨rfl, h3⟩
  have B3 := Aside0.mk (B2.out.step h3)
  clear h3
  go_wp2_with fail
  refine (KK3.out _).mono ?_
  rintro x w4 ⟨v4, l4, rfl, hl4, hR4, h4⟩
  obtain ⟨A4, d4, rfl, hd4, hC4⟩ := Kd.R_reads hR4
  have B4 := Aside0.mk (B3.out.step h4)
  have HC4 := Aside0.mk hC4
  have HL4 := Aside0.mk hl4
  have HD4 := Aside0.mk hd4
  clear hR4 h4 hd4 hC4 hl4
  go_wp2_with fail
  have e4 : to114 ops = l4.map cv := by rw [← HL4.out]; unfold to114; rw [List.map_map]; rfl
  refine (chaffref19_OpenReport.calls 140000 s oe (to114 ops) oerr _ KK4.out).mono ?_
  rw [e4]
  rintro x w5 ⟨v5, rfl, hR5, h5⟩
  obtain ⟨A5, d5, rfl, hd5, hC5⟩ := Kd.R_reads hR5
  have e5 : (l4.map cv).length = l4.length := List.length_map _
  rw [e5] at hC5 hd5 ⊢
  have hl4 : l4.length ≤ 100000 := by
    have : ops.length = l4.length := by rw [← HL4.out, List.length_map]
    omega
  have k4 : w4.heap.size < w5.heap.size := by have := h5.size; simp at this; omega
  have hRP := reports_RP (w := w) oe A4 l4.length d4 A5 l4.length d5 B4.out.1 h5
  have hC6 : Kd.C k112 (w5.alloc (.cells #[.int .u32 oe, .slice A5 l4.length d5] 87)) A4 l4.length l4 := Kd.C_below (Kd.C_below (Kd.C_below HC4.out (below_alloc (Below.refl _ _) _)) h5) (below_alloc (Below.refl _ _) _)
  have hC7 : Kd.C k114 (w5.alloc (.cells #[.int .u32 oe, .slice A5 l4.length d5] 87)) A5 l4.length (l4.map cv) := Kd.C_below hC5 (below_alloc (Below.refl _ _) _)
  obtain ⟨hbw, hRP⟩ := hRP
  clear hR5 hd5 hC5 e4 h5 hops
  go_wp2_with fail
  obtain ⟨W6, hW6⟩ : ∃ W, w5.alloc (.cells #[.int .u32 oe, .slice A5 l4.length d5] 87) = W := ⟨_, rfl⟩
  rw [hW6] at hRP hC6 hC7 hbw ⊢
  have HRP := Aside0.mk hRP
  have H6 := Aside0.mk hC6
  have H7 := Aside0.mk hC7
  have HB := Aside0.mk hbw
  clear hRP hC6 hC7 hbw hW6 k4
  go_region_held3 (fun W => Below W6.heap.size W6 W ∧ W.cell? ⟨w4.heap.size, 0, none⟩ = some (.int .u32 oe) ∧ W.cell? ⟨w4.heap.size, 1, none⟩ = some (.slice A4 l4.length d4) ∧ W.cell? ⟨w5.heap.size, 0, none⟩ = some (.int .u32 oe) ∧ W.cell? ⟨w5.heap.size, 1, none⟩ = some (.slice A5 l4.length d5))
    (first | exact HRP.out.step (below_drew (Below.refl _ _)) | exact RP.step (W := _) (by assumption) hb | go_keep)
    ((first | (go_at_call 33; with_reducible refine (awake19_fin _).mono ?_; rintro x w7 ⟨rfl, hb⟩) | (go_at_call 40; refine (of_calls oe A4 d4 l4 _ (Kd.C_below H6.out (show RP W6 oe A4 l4.length d4 A5 l4.length d5 w4.heap.size w5.heap.size _ from by assumption).1) hl4).mono ?_; rintro x w7 ⟨v7, rfl, hR7, hb⟩; obtain ⟨A7, d7, rfl, hd7, hC7⟩ := Kd.R_reads hR7; rw [e5] at hC7 ⊢; have HC7 := Aside0.mk hC7; clear hR7 hd7 hC7) | (go_at_call 43; refine (same_calls' oe A7 A5 d7 d5 l4 _ HC7.out (Kd.C_below H7.out (show RP W6 oe A4 l4.length d4 A5 l4.length d5 w4.heap.size w5.heap.size _ from by assumption).1) hl4).mono ?_; rintro x w8 ⟨rfl, hb⟩)))
  all_goals
    go_wp2
    go_ret
    exact ⟨rfl, HB.out.trans ((show RP W6 oe A4 l4.length d4 A5 l4.length d5 w4.heap.size w5.heap.size _ from by assumption).1.mono HB.out.size)⟩

theorem newsReports_walk (ep : Int) (A : Option Addr) (c : Nat) (l : List S112) (s : ByteArray) (w : World) (hC : Kd.C k112 w A l.length l) (hc : l.length ≤ c)
    (e0 : 0 ≤ ep) (e1 : ep < 4294967296) (hw : Wide (l.map p112)) :
    Calls Try.prog 10 #[.agg #[.int .u32 ep, .slice A l.length c], .string s] w fun r w' => r = .returned (.bool true) ∧ Below w.heap.size w w' := by
  by_cases h : 3000 < s.size ∨ 400 < l.length
  · exact newsReports_great ep A l.length c s w h
  · exact newsReports_small ep A c l s w hC hc (by omega) (by omega) e0 e1 hw

end Go.Proofs.Ytdmmklfphkgmlaa.Ba
