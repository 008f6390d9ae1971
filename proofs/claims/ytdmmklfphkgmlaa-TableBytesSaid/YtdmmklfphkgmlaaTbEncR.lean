/- table: the document's Encode. -/
import Derived.Test.YtdmmklfphkgmlaaTbTClip
import Derived.Test.YtdmmklfphkgmlaaBcOctR
namespace Go.Proofs.Ytdmmklfphkgmlaa.Tb
set_option linter.unusedSimpArgs false
open Go.Proofs.Ytdmmklfphkgmlaa.Ba Go.Proofs.Ytdmmklfphkgmlaa.Seg Go.RowKit Go.Proofs.YtdmmklfphkgmlaaW.PrintWords Go.Proofs.YtdmmklfphkgmlaaW.PrintLast Go.Proofs.YtdmmklfphkgmlaaW.PrintMore Go.Proofs.Ytdmmklfphkgmlaa.Om

theorem lt8 {v : Int} (h : v < 18446744073709551616) : v < 256 ^ 8 := by rw [show (256 : Int) ^ 8 = 18446744073709551616 by decide]; exact h
theorem lt4 {v : Int} (h : v < 4294967296) : v < 256 ^ 4 := by rw [show (256 : Int) ^ 4 = 4294967296 by decide]; exact h
theorem rput_calls (v : Int) (n : Int) (w : World) (h0 : 0 ≤ v) (h1 : v < 18446744073709551616) :
    Calls Try.prog 15 #[.int .u64 v, .int .i64 n] w fun e w' => e = .returned (.tuple #[.string (putS v n).1, .int .i64 (putS v n).2]) ∧ Below w.heap.size w w' :=
  chaffref17_Put.calls 10 v n _ _ w (rput_any v n h0 h1 10 (Nat.le_refl _))
theorem rnum_calls (v : Int) (n : Nat) (w : World) (h0 : 0 ≤ v) (h1 : v < 18446744073709551616) (hn1 : 1 ≤ n) (hn : n ≤ 8) (hv : v < 256 ^ n) :
    Calls Try.prog 15 #[.int .u64 v, .int .i64 (n : Int)] w fun e w' => e = .returned (.tuple #[.string (num n v), .int .i64 0]) ∧ Below w.heap.size w w' := by
  have := rput_calls v n w h0 h1
  have e1 : putS v n = (num n v, 0) := by unfold putS; rw [Int.toNat_natCast, if_pos ⟨by omega, by omega, hv⟩]
  rw [e1] at this
  exact this

/-- How many counts are written ahead of row j's k-th. -/
def entN (m n j k : Nat) : Nat := if j ≤ m then n * j + min k n else n * (m + 1)
/-- The places ahead of it fit. -/
def FitTo (xs : List Int) (m n t : Nat) : Prop := ∀ q, q < t → q < 136 → ¬ (q / 8 ≤ m ∧ q % 8 < n) → gx xs q = 0
theorem fit_all {xs : List Int} {m n : Nat} (hx : xs.length = 136) (h : FitTo xs m n 136) : fitsB xs m n = true := by
  apply decide_eq_true
  apply ext_gx hx (clipL_len _ _ _)
  intro q hq
  rw [gx_clipL _ _ _ _ hq]
  by_cases c : q / 8 ≤ m ∧ q % 8 < n
  · rw [if_pos c]
  · rw [if_neg c]; exact h q hq hq c
theorem fit_not {xs : List Int} {m n q : Nat} (hq : q < 136) (h : ¬ (q / 8 ≤ m ∧ q % 8 < n)) (hv : gx xs q ≠ 0) : fitsB xs m n = false := by
  apply decide_eq_false
  intro e
  apply hv
  have := gx_clipL xs m n q hq
  rw [if_neg h, ← e] at this
  exact this
theorem fit_next {xs : List Int} {m n j k : Nat} (h : FitTo xs m n (8 * j + k)) (hk : k < 8) (hv : (j ≤ m ∧ k < n) ∨ gx xs (8 * j + k) = 0) : FitTo xs m n (8 * j + (k + 1)) := by
  intro q h1 h2 h3
  by_cases e : q = 8 * j + k
  · subst e
    rcases hv with hv | hv
    · exact absurd (by omega : (8 * j + k) / 8 ≤ m ∧ (8 * j + k) % 8 < n) h3
    · exact hv
  · exact h q (by omega) h2 h3
theorem ent_put (xs : List Int) (l : Int) (m n j k : Nat) (hj : j ≤ m) (hk : k < n) : num 8 l ++ seqB xs n (entN m n j k) ++ num 4 (gx xs (j * 8 + k)) = num 8 l ++ seqB xs n (entN m n j (k + 1)) := by
  unfold entN
  rw [if_pos hj, if_pos hj, Nat.min_eq_left (Nat.le_of_lt hk), Nat.min_eq_left hk, show n * j + k.succ = n * j + k + 1 from rfl, seqB, ByteArray.append_assoc, Nat.mul_add_div (by omega), Nat.div_eq_of_lt hk, Nat.mul_add_mod, Nat.mod_eq_of_lt hk, Nat.add_zero]
theorem ent_skip (m n j k : Nat) (h : ¬ (j ≤ m ∧ k < n)) : entN m n j (k + 1) = entN m n j k := by
  unfold entN
  by_cases hj : j ≤ m
  · rw [if_pos hj, if_pos hj, Nat.min_eq_right (by omega), Nat.min_eq_right (by omega)]
  · rw [if_neg hj, if_neg hj]
theorem ent_row (m n j : Nat) (hn : n ≤ 8) : entN m n j 8 = entN m n (j + 1) 0 := by
  unfold entN
  rw [Nat.min_eq_right hn, Nat.zero_min]
  by_cases hj : j + 1 ≤ m
  · rw [if_pos (show j ≤ m by omega), if_pos hj, Nat.mul_add, Nat.mul_one, Nat.add_zero]
  · rw [if_neg hj]
    by_cases hj2 : j ≤ m
    · rw [if_pos hj2, show j = m by omega, Nat.mul_add, Nat.mul_one]
    · rw [if_neg hj2]

theorem ent_le (m n j k : Nat) (hm : m ≤ 16) (hn : n ≤ 8) : entN m n j k ≤ 1000 := by
  unfold entN
  by_cases h : j ≤ m
  · rw [if_pos h]; have : n * j ≤ 8 * 16 := Nat.mul_le_mul hn (by omega)
    omega
  · rw [if_neg h]; have : n * (m + 1) ≤ 8 * 17 := Nat.mul_le_mul hn (by omega)
    omega
theorem index41 (r : List Int) (k : Nat) (hk : k < 8) (hl : r.length = 8) (w : World) : (Instr.index 41 (.agg (rowV r)) (.int .i64 (k : Int))).run Try.prog w = .ok (.int .u32 (gx r k)) w :=
  index_row Try.underlying41 Try.underlying34 info34 r k hk hl w

def encS (xs : List Int) (l : Int) (M N : Nat) : ByteArray × Int := if fitsB xs M N = true then (encB xs l M N, 0) else (⟨#[]⟩, 4)
theorem encS_true {xs : List Int} {M N : Nat} (l : Int) (h : fitsB xs M N = true) : encS xs l M N = (encB xs l M N, 0) := if_pos h
theorem encS_false {xs : List Int} {M N : Nat} (l : Int) (h : fitsB xs M N = false) : encS xs l M N = (⟨#[]⟩, 4) := if_neg (by rw [h]; simp)
/-- Where the document's Encode says that there is no such size. -/
theorem rencode_bad (xs : List Int) (l m n : Int) (w : World) (h : szB m n = false) :
    Calls Try.prog 45 #[.agg (tabV xs l), .int .i64 m, .int .i64 n] w fun e w' => e = .returned (.tuple #[.string ⟨#[]⟩, .int .i64 5]) ∧ Below w.heap.size w w' := by
  have h := of_decide_eq_false h
  by_cases h1 : m < 1
  · have c1 : decide (m < 1) = true := decide_eq_true h1
    clear h
    go_enter Try.func45, Try.ntmps45
    go_wp2
    go_ret2
    exact ⟨rfl, below_alloc (Below.refl _ _) _⟩
  have c1 : decide (m < 1) = false := decide_eq_false h1
  by_cases h2 : 16 < m
  · have c2 : decide (16 < m) = true := decide_eq_true h2
    clear h
    go_enter Try.func45, Try.ntmps45
    go_wp2
    go_ret2
    exact ⟨rfl, below_alloc (Below.refl _ _) _⟩
  have c2 : decide (16 < m) = false := decide_eq_false h2
  by_cases h3 : n < 1
  · have c3 : decide (n < 1) = true := decide_eq_true h3
    clear h
    go_enter Try.func45, Try.ntmps45
    go_wp2
    go_ret2
    exact ⟨rfl, below_alloc (Below.refl _ _) _⟩
  have c3 : decide (n < 1) = false := decide_eq_false h3
  have c4 : decide (8 < n) = true := decide_eq_true (by omega)
  clear h
  go_enter Try.func45, Try.ntmps45
  go_wp2
  go_ret2
  exact ⟨rfl, below_alloc (Below.refl _ _) _⟩

/-- The table's box. -/
def TB4 (w : World) (x : Array Value) (W : World) : Prop := Below w.heap.size w W ∧ W.heap[w.heap.size]? = some (.cells x 44 (0, 0))
theorem TB4.step {w W W' : World} {x : Array Value} (h : TB4 w x W) (hb : Below W.heap.size W W') : TB4 w x W' :=
  ⟨h.1.trans (hb.mono h.1.size), (hb.block _ (Array.getElem?_eq_some_iff.1 h.2).1).trans h.2⟩

set_option maxRecDepth 100000 in
set_option maxHeartbeats 1000000 in
theorem rencode_good (xs : List Int) (l : Int) (M N : Nat) (w : World) (hx : xs.length = 136) (hr : ∀ x ∈ xs, 0 ≤ x ∧ x < 4294967296) (hl0 : 0 ≤ l) (hl : l < 18446744073709551616) (a1 : 1 ≤ M) (a2 : M ≤ 16) (a3 : 1 ≤ N) (a4 : N ≤ 8) :
    Calls Try.prog 45 #[.agg (tabV xs l), .int .i64 (M : Int), .int .i64 (N : Int)] w fun e w' => e = .returned (.tuple #[.string (encS xs l M N).1, .int .i64 (encS xs l M N).2]) ∧ Below w.heap.size w w' := by
  have c1 : decide ((M : Int) < 1) = false := decide_eq_false (by omega)
  have c2 : decide (16 < (M : Int)) = false := decide_eq_false (by omega)
  have c3 : decide ((N : Int) < 1) = false := decide_eq_false (by omega)
  have c4 : decide (8 < (N : Int)) = false := decide_eq_false (by omega)
  have hA := heap_alloc_new w (.cells (tabV xs l) 44)
  have H0 := Aside0.mk (show TB4 w (tabV xs l) (w.alloc (.cells (tabV xs l) 44)) from ⟨below_alloc (Below.refl _ _) _, hA⟩)
  have q1 := cell_of_row _ w.heap.size 136 _ _ _ hA
  rw [tabV_at xs l hx] at q1
  simp only [show ¬ (136 < 136) by omega, if_false, if_true] at q1
  have KP := Aside0.mk (fun V => rnum_calls l 8 V hl0 hl (by omega) (by omega) (lt8 hl))
  clear hA
  go_enter Try.func45, Try.ntmps45
  go_wp2_with fail
  generalize w.alloc (.cells (tabV xs l) 44) = W0 at H0 q1 ⊢
  refine (KP.out _).mono ?_
  rintro x w1 ⟨rfl, h1⟩
  have H1 := Aside0.mk (H0.out.step h1)
  have HF := Aside0.mk (show FitTo xs M N (8 * 0 + 0) from fun q h => by omega)
  have HE := Aside0.mk (show num 8 l = num 8 l ++ seqB xs N (entN M N 0 0) by rw [entN, if_pos (by omega), Nat.zero_min]; exact (ByteArray.append_empty).symm)
  clear h1 H0 q1 KP c1 c2 c3 c4
  go_wp2_with fail
  go_loopw [8, 10] (fun s i wr => ∃ (j : Nat), i = .int .i64 j ∧ j ≤ 17 ∧ s = .string (num 8 l ++ seqB xs N (entN M N j 0)) ∧ Aside0 (FitTo xs M N (8 * j + 0)) ∧ Aside0 (TB4 w (tabV xs l) wr)) (fun _ i _ => 17 - (intOf i).toNat)
  case atStart => exact ⟨0, rfl, by omega, congrArg Value.string HE.out, HF, H1⟩
  case round =>
    obtain ⟨j, rfl, hj, rfl, HQ, HS⟩ := hrel
    clear HF HE H1
    by_cases hlt : j < 17
    · have hx1 : 0 ≤ (j : Int) := by omega
      have hx2 : (j : Int) < 17 := by omega
      go_wp2_with fail
      have HM := Aside0.mk (show 17 - (intOf (.int .i64 ((j : Int) + 1))).toNat < 17 - (intOf (.int .i64 (j : Int))).toNat by simp [intOf]; omega)
      go_loopw [8, 11] (fun s i wz => ∃ (k : Nat), i = .int .i64 k ∧ k ≤ 8 ∧ s = .string (num 8 l ++ seqB xs N (entN M N j k)) ∧ Aside0 (FitTo xs M N (8 * j + k)) ∧ Aside0 (TB4 w (tabV xs l) wz)) (fun _ i _ => 8 - (intOf i).toNat)
      case atStart => exact ⟨0, rfl, by omega, rfl, HQ, HS⟩
      case round =>
        obtain ⟨k, rfl, hk, rfl, HQ2, HS2⟩ := hrel
        clear HQ HS
        by_cases hlt2 : k < 8
        · have hy1 : 0 ≤ (k : Int) := by omega
          have hy2 : (k : Int) < 8 := by omega
          have hA := HS2.out.2
          have hi44 := tab_info44 xs l hx
          have KR := Aside0.mk (fun V => row_calls xs l j V hx hlt)
          have hidx : ∀ W : World, (Instr.index 41 (.agg (rowV (rowI xs (j * 8)))) (.int .i64 (k : Int))).run Try.prog W = .ok (.int .u32 (gx xs (j * 8 + k))) W := fun W => by
            rw [index41 _ k hlt2 (rowI_len xs _ hx (by omega)), gx_rowI _ _ _ hlt2]
          have g2 := gx_range hr (j * 8 + k)
          have e1 : gx xs (j * 8 + k) % 18446744073709551616 = gx xs (j * 8 + k) := by omega
          have h84 : 8 * j + k = j * 8 + k := by omega
          by_cases hA1 : j ≤ M ∧ k < N
          · have d1 : decide ((M : Int) < (j : Int)) = false := decide_eq_false (by omega)
            have d2 : decide (M < j) = false := decide_eq_false (by omega)
            have d3 : decide ((N : Int) ≤ (k : Int)) = false := decide_eq_false (by omega)
            have d4 : decide (N ≤ k) = false := decide_eq_false (by omega)
            have KP := Aside0.mk (fun V => rnum_calls (gx xs (j * 8 + k)) 4 V g2.1 (by omega) (by omega) (by omega) (lt4 g2.2))
            have E := Aside0.mk (ent_put xs l M N j k hA1.1 hA1.2)
            have F2 := Aside0.mk (fit_next HQ2.out hlt2 (.inl hA1))
            have hsz : ¬ 9223372036854775807 < (num 8 l).size + (seqB xs N (entN M N j k)).size + (num 4 (gx xs (j * 8 + k))).size := by
              rw [num_size, num_size, seqB_size]
              have := ent_le M N j k (by omega) a4
              omega
            clear HQ2 g2 hA1 h84
            go_wp2_with (refine wpList_load_row rfl 44 _ rfl w.heap.size rfl 44 _ (0, 0) _ hA Try.underlying44 rfl hi44 ?_)
            refine (KR.out _).mono ?_
            rintro x w5 ⟨rfl, h5⟩
            have H5 := Aside0.mk (HS2.out.step h5)
            clear h5 HS2 hA
            go_wp2_with fail
            refine (KP.out _).mono ?_
            rintro x w6 ⟨rfl, h6⟩
            have H6 := Aside0.mk (H5.out.step h6)
            clear h6 H5
            go_wp2_with fail
            go_roundw
            case rel => exact ⟨k + 1, by go_num, by omega, congrArg Value.string E.out, F2, H6⟩
            case measure => simp [intOf]; omega
          · have E := Aside0.mk (ent_skip M N j k hA1)
            by_cases hv : gx xs (j * 8 + k) = 0
            · have v1 : (gx xs (j * 8 + k) != 0) = false := by simpa using hv
              have F2 := Aside0.mk (fit_next HQ2.out hlt2 (.inr (by rw [h84]; exact hv)))
              by_cases hM : M < j
              · have d1 : decide ((M : Int) < (j : Int)) = true := decide_eq_true (by omega)
                have d2 : decide (M < j) = true := decide_eq_true hM
                clear HQ2 g2 hA1 h84 hv hM
                go_wp2_with (refine wpList_load_row rfl 44 _ rfl w.heap.size rfl 44 _ (0, 0) _ hA Try.underlying44 rfl hi44 ?_)
                refine (KR.out _).mono ?_
                rintro x w5 ⟨rfl, h5⟩
                have H5 := Aside0.mk (HS2.out.step h5)
                clear h5 HS2 hA
                go_wp2_with fail
                go_roundw
                case rel => exact ⟨k + 1, by go_num, by omega, by rw [E.out], F2, H5⟩
                case measure => simp [intOf]; omega
              · have d1 : decide ((M : Int) < (j : Int)) = false := decide_eq_false (by omega)
                have d2 : decide (M < j) = false := decide_eq_false hM
                have d3 : decide ((N : Int) ≤ (k : Int)) = true := decide_eq_true (by omega)
                have d4 : decide (N ≤ k) = true := decide_eq_true (by omega)
                clear HQ2 g2 hA1 h84 hv hM
                go_wp2_with (refine wpList_load_row rfl 44 _ rfl w.heap.size rfl 44 _ (0, 0) _ hA Try.underlying44 rfl hi44 ?_)
                refine (KR.out _).mono ?_
                rintro x w5 ⟨rfl, h5⟩
                have H5 := Aside0.mk (HS2.out.step h5)
                clear h5 HS2 hA
                go_wp2_with fail
                go_roundw
                case rel => exact ⟨k + 1, by go_num, by omega, by rw [E.out], F2, H5⟩
                case measure => simp [intOf]; omega
            · have v1 : (gx xs (j * 8 + k) != 0) = true := by simpa using hv
              have F2 := Aside0.mk (encS_false l (fit_not (q := j * 8 + k) (m := M) (n := N) (by omega) (by omega) hv))
              by_cases hM : M < j
              · have d1 : decide ((M : Int) < (j : Int)) = true := decide_eq_true (by omega)
                have d2 : decide (M < j) = true := decide_eq_true hM
                clear HQ2 g2 hA1 h84 hv hM
                go_wp2_with (refine wpList_load_row rfl 44 _ rfl w.heap.size rfl 44 _ (0, 0) _ hA Try.underlying44 rfl hi44 ?_)
                refine (KR.out _).mono ?_
                rintro x w5 ⟨rfl, h5⟩
                have H5 := Aside0.mk (HS2.out.step h5)
                clear h5 HS2 hA
                go_wp2_with fail
                go_ret2
                exact ⟨by rw [F2.out]; rfl, H5.out.1⟩
              · have d1 : decide ((M : Int) < (j : Int)) = false := decide_eq_false (by omega)
                have d2 : decide (M < j) = false := decide_eq_false hM
                have d3 : decide ((N : Int) ≤ (k : Int)) = true := decide_eq_true (by omega)
                have d4 : decide (N ≤ k) = true := decide_eq_true (by omega)
                clear HQ2 g2 hA1 h84 hv hM
                go_wp2_with (refine wpList_load_row rfl 44 _ rfl w.heap.size rfl 44 _ (0, 0) _ hA Try.underlying44 rfl hi44 ?_)
                refine (KR.out _).mono ?_
                rintro x w5 ⟨rfl, h5⟩
                have H5 := Aside0.mk (HS2.out.step h5)
                clear h5 HS2 hA
                go_wp2_with fail
                go_ret2
                exact ⟨by rw [F2.out]; rfl, H5.out.1⟩
        · have hge : k = 8 := by omega
          subst hge
          have E := Aside0.mk (show Value.string (num 8 l ++ seqB xs N (entN M N j 8)) = .string (num 8 l ++ seqB xs N (entN M N (j + 1) 0)) by rw [ent_row M N j a4])
          have F2 := Aside0.mk (show FitTo xs M N (8 * (j + 1) + 0) from by have := HQ2.out; rwa [show 8 * (j + 1) + 0 = 8 * j + 8 by omega])
          clear HQ2
          go_wp2_with fail
          go_roundw
          case rel => exact ⟨j + 1, by go_num, by omega, E.out, F2, HS2⟩
          case measure => simp [intOf]; omega
    · have hge : j = 17 := by omega
      subst hge
      have e1 := Aside0.mk (encS_true l (fit_all hx HQ.out))
      have e2 : entN M N 17 0 = N * (M + 1) := by rw [entN, if_neg (by omega)]
      rw [e2]
      go_wp2
      go_ret2
      exact ⟨by rw [e1.out]; rfl, HS.out.1⟩
theorem rencode_calls (xs : List Int) (l m n : Int) (w : World) (hx : xs.length = 136) (hr : ∀ x ∈ xs, 0 ≤ x ∧ x < 4294967296) (hl0 : 0 ≤ l) (hl : l < 18446744073709551616) :
    Calls Try.prog 45 #[.agg (tabV xs l), .int .i64 m, .int .i64 n] w fun e w' => e = .returned (.tuple #[.string (encX xs l m n).1, .int .i64 (encX xs l m n).2]) ∧ Below w.heap.size w w' := by
  unfold encX
  by_cases hs : szB m n = true
  · rw [if_pos hs]
    obtain ⟨a1, a2, a3, a4⟩ := of_decide_eq_true hs
    obtain ⟨M, rfl⟩ := Int.eq_ofNat_of_zero_le (show 0 ≤ m by omega)
    obtain ⟨N, rfl⟩ := Int.eq_ofNat_of_zero_le (show 0 ≤ n by omega)
    rw [Int.toNat_natCast, Int.toNat_natCast]
    exact rencode_good xs l M N w hx hr hl0 hl (by omega) (by omega) (by omega) (by omega)
  · have hs : szB m n = false := by simpa using hs
    rw [hs, if_neg (by simp)]
    exact rencode_bad xs l m n w hs
end Go.Proofs.Ytdmmklfphkgmlaa.Tb
