/- seal.Open. -/
import Derived.Test.YtombochecgjmjaaDoorSlVal
import Derived.Test.YtombochecgjmjaaDoorCel
namespace Go.Proofs.YtombochecgjmjaaDoor.Sl
set_option linter.unusedSimpArgs false
set_option linter.unusedVariables false
open Go.RowKit

/-- The number of bytes, the lowest first: the first d behind place p. -/
def low (l : List UInt8) (p : Nat) : Nat → Nat
  | 0 => 0
  | d + 1 => low l p d + (l.getD (p + d) 0).toNat * 256 ^ d
theorem low_lt (l : List UInt8) (p : Nat) : ∀ d, low l p d < 256 ^ d
  | 0 => by simp [low]
  | d + 1 => by
    have := low_lt l p d
    have hb := (l.getD (p + d) 0).toNat_lt
    rw [low, Nat.pow_succ, Nat.mul_comm (256 ^ d)]
    have h2 : (l.getD (p + d) 0).toNat * 256 ^ d ≤ 255 * 256 ^ d := Nat.mul_le_mul_right _ (by omega)
    omega
structure Rec where
  k : Nat
  g : Nat
  i : Nat
  d : ByteArray
def Rec.zero : Rec := ⟨0, 0, 0, ⟨#[]⟩⟩
def recV (r : Rec) : Array Value := #[.int .u8 (r.k : Int), .int .u64 (r.g : Int), .int .u32 (r.i : Int), .string r.d]
/-- What is in a sector. -/
def openS (s : ByteArray) : Rec × Int :=
  if s.size ≠ 128 then (.zero, 4) else if blankB s.data.toList = true then (.zero, 16)
  else if sumN (s.extract 0 124).data.toList ≠ low s.data.toList 124 4 then (.zero, 8)
  else if (s.data.toList.getD 13 0).toNat > 110 ∨ blankB (s.extract (14 + (s.data.toList.getD 13 0).toNat) 124).data.toList = false then (.zero, 4)
  else (⟨(s.data.toList.getD 0 0).toNat, val (s.extract 1 9).data.toList, val (s.extract 9 13).data.toList, s.extract 14 (14 + (s.data.toList.getD 13 0).toNat)⟩, 0)

theorem at_getD (s : ByteArray) (j : Nat) (h : j < s.size) : s.data.toList.getD j 0 = s[j]'h := by
  rw [List.getD_eq_getElem?_getD, List.getElem?_eq_getElem (by simpa using h)]; rfl

theorem infoR : (Tryd.prog.info? 29).map (·.size) = some 4 := by kernel_rfl
theorem recV_one (r : Rec) : (recV r).all (·.oneCell') = true := by
  rw [Array.all_eq_true_iff_forall_mem]
  intro v hv
  simp only [recV, List.mem_toArray, List.mem_cons, List.not_mem_nil, or_false] at hv
  rcases hv with rfl | rfl | rfl | rfl <;> rfl
theorem low_step (s : ByteArray) (j : Nat) (h : 124 + j < s.size) : low s.data.toList 124 (j + 1) = low s.data.toList 124 j + (s[124 + j]'h).toNat * 256 ^ j := by
  rw [low, at_getD s _ h]
theorem or_low (x b j : Nat) (hx : x < 256 ^ j) : x ||| b * 256 ^ j = x + b * 256 ^ j := by
  have e : (256 : Nat) ^ j = 2 ^ (8 * j) := by rw [Nat.pow_mul]
  rw [e] at hx ⊢
  have := Nat.shiftLeft_add_eq_or_of_lt (i := 8 * j) (a := b) (b := x) hx
  rw [Nat.shiftLeft_eq] at this
  rw [Nat.or_comm, ← this, Nat.add_comm]

theorem or_u32_low {x b j : Nat} (hx : x < 256 ^ j) (hb : b < 256) (hj : j < 4) : bits .or .u32 (x : Int) ((b : Int) % 4294967296 * 2 ^ (8 * j) % 4294967296) = ((x + b * 256 ^ j : Nat) : Int) := by
  have h1 : b * 256 ^ j < 4294967296 := by
    have : j = 0 ∨ j = 1 ∨ j = 2 ∨ j = 3 := by omega
    rcases this with rfl | rfl | rfl | rfl <;> omega
  have h2 : x < 4294967296 := Nat.lt_of_lt_of_le hx (by
    have : j = 0 ∨ j = 1 ∨ j = 2 ∨ j = 3 := by omega
    rcases this with rfl | rfl | rfl | rfl <;> omega)
  have e : (b : Int) % 4294967296 * 2 ^ (8 * j) % 4294967296 = ((b * 256 ^ j : Nat) : Int) := by
    rw [show (b : Int) % 4294967296 = (b : Int) by omega, Int.pow_mul, show (2 : Int) ^ 8 = ((256 : Nat) : Int) by decide, ← Int.natCast_pow, ← Int.natCast_mul]
    omega
  rw [e, u32_or_nat x _ h2 h1, or_low x b j hx]

theorem openS_len {s : ByteArray} (h : s.size ≠ 128) : openS s = (.zero, 4) := by unfold openS; rw [if_pos h]
theorem openS_blank {s : ByteArray} (h : s.size = 128) (h2 : blankB s.data.toList = true) : openS s = (.zero, 16) := by unfold openS; rw [if_neg (by omega), if_pos h2]
theorem openS_sum {s : ByteArray} (h : s.size = 128) (h2 : blankB s.data.toList = false) (h3 : sumN (s.extract 0 124).data.toList ≠ low s.data.toList 124 4) : openS s = (.zero, 8) := by
  unfold openS; rw [if_neg (by omega), if_neg (by simp [h2]), if_pos h3]
theorem openS_form {s : ByteArray} (h : s.size = 128) (h2 : blankB s.data.toList = false) (h3 : sumN (s.extract 0 124).data.toList = low s.data.toList 124 4)
    (h4 : (s.data.toList.getD 13 0).toNat > 110 ∨ blankB (s.extract (14 + (s.data.toList.getD 13 0).toNat) 124).data.toList = false) : openS s = (.zero, 4) := by
  unfold openS; rw [if_neg (by omega), if_neg (by simp [h2]), if_neg (fun e => e h3), if_pos h4]
theorem openS_ok {s : ByteArray} (h : s.size = 128) (h2 : blankB s.data.toList = false) (h3 : sumN (s.extract 0 124).data.toList = low s.data.toList 124 4)
    (h4 : (s.data.toList.getD 13 0).toNat ≤ 110) (h5 : blankB (s.extract (14 + (s.data.toList.getD 13 0).toNat) 124).data.toList = true) :
    openS s = (⟨(s.data.toList.getD 0 0).toNat, val (s.extract 1 9).data.toList, val (s.extract 9 13).data.toList, s.extract 14 (14 + (s.data.toList.getD 13 0).toNat)⟩, 0) := by
  unfold openS; rw [if_neg (by omega), if_neg (by simp [h2]), if_neg (fun e => e h3), if_neg (fun e => e.elim (fun e => absurd e (by omega)) (fun e => by rw [h5] at e; cases e))]

/-- The record's box, whatever it holds. -/
def RB4 (w : World) (W : World) : Prop := Below w.heap.size w W ∧ ∃ cs : Array Value, W.heap[w.heap.size]? = some (.cells cs 29 (0, 0)) ∧ cs.size = 4
/-- The record's box. -/
def RB (w : World) (W : World) : Prop := Below w.heap.size w W ∧ W.heap[w.heap.size]? = some (.cells #[.int .u8 0, .int .u64 0, .int .u32 0, .string ⟨#[]⟩] 29 (0, 0))
theorem RB.step {w W W' : World} (h : RB w W) (hb : W' = W ∨ W' = W.drew) : RB w W' := by
  rcases hb with rfl | rfl
  · exact h
  · exact ⟨h.1.drew, h.2⟩

set_option maxRecDepth 100000 in
set_option maxHeartbeats 1000000 in
theorem open_calls (s : ByteArray) (w : World) (hs : s.size ≤ 1000) :
    Calls Tryd.prog 8 #[.string s] w fun e w' => e = .returned (.tuple #[.agg (recV (openS s).1), .int .i64 (openS s).2]) ∧ Below w.heap.size w w' := by
  have hz := heap_alloc_new w (.cells #[.int .u8 0, .int .u64 0, .int .u32 0, .string ⟨#[]⟩] 29)
  have hi : (Tryd.prog.info? 29).map (·.size) = some (#[.int .u8 0, .int .u64 0, .int .u32 0, .string ⟨#[]⟩] : Array Value).size := infoR
  have ho : (#[.int .u8 0, .int .u64 0, .int .u32 0, .string ⟨#[]⟩] : Array Value).all (·.oneCell') = true := recV_one .zero
  by_cases h1 : s.size = 128
  · have c1 : ((s.size : Int) != 128) = false := by simp [h1]
    have c1' : (s.size != 128) = false := by simp [h1]
    have KB := Aside0.mk (fun V => blank_calls s V (by omega))
    obtain ⟨bl, hbl⟩ : ∃ b, blankB s.data.toList = b := ⟨_, rfl⟩
    rw [hbl] at KB
    have H1 := Aside0.mk h1
    have HBL := Aside0.mk hbl
    have HZ := Aside0.mk (show RB w (w.alloc (.cells #[.int .u8 0, .int .u64 0, .int .u32 0, .string ⟨#[]⟩] 29)) from ⟨(Below.refl _ _).alloc (Nat.le_refl _) _, hz⟩)
    clear h1 hs hbl hz
    go_enter Tryd.func8, Tryd.ntmps8
    go_wp2_with fail
    refine (KB.out _).mono ?_
    rintro x w1 ⟨rfl, hw1⟩
    have B1 := Aside0.mk (HZ.out.step hw1)
    have hZ1 := B1.out.2
    clear hw1 KB HZ
    cases bl with
    | true =>
      have E := Aside0.mk (openS_blank H1.out HBL.out)
      go_wp2_with (refine wpList_store_row rfl 29 _ _ rfl w.heap.size #[.int .u8 0, .int .u64 0, .int .u32 0, .string ⟨#[]⟩] rfl rfl 29 _ hZ1 hi rfl ho ?_)
      exact bodyPost_ret (Cel.end_cell rfl _ _ _ _ _ hZ1 rfl Tryd.underlying29 rfl hi) rfl ⟨by rw [E.out]; rfl, below_setRow B1.out.1 (Nat.le_refl _) _⟩
    | false =>
      have KS := Aside0.mk (fun V => sum_calls (s.extract 0 124) V (by rw [ByteArray.size_extract]; have := H1.out; omega))
      have hsl := sumN_lt (s.extract 0 124).data.toList
      obtain ⟨S, hS⟩ : ∃ S, sumN (s.extract 0 124).data.toList = S := ⟨_, rfl⟩
      obtain ⟨T, hT⟩ : ∃ T, low s.data.toList 124 4 = T := ⟨_, rfl⟩
      rw [hS] at KS hsl
      have HS := Aside0.mk hS
      have HT := Aside0.mk hT
      have HSl := Aside0.mk hsl
      clear hS hT hsl hZ1
      go_wp2_with fail
      go_loop [4, 16] (fun t i => ∃ (j : Nat), i = .int .i64 j ∧ j ≤ 4 ∧ t = .int .u32 (low s.data.toList 124 j : Nat)) (fun _ i => 4 - (intOf i).toNat)
      case atStart => exact ⟨0, rfl, by omega, rfl⟩
      case round =>
        obtain ⟨j, rfl, hj, rfl⟩ := hrel
        by_cases hlt : j < 4
        · have hx1 : 0 ≤ (j : Int) := by omega
          have hx2 : (j : Int) < 4 := by omega
          have hj2 : 124 + j < s.size := by have := H1.out; omega
          have hj3 : (124 : Int) + (j : Int) < (s.size : Int) := by omega
          have hb := (s[124 + j]'hj2).toNat_lt
          have E := Aside0.mk (show Value.int .u32 (bits .or .u32 (low s.data.toList 124 j : Nat) (((s[124 + j]'hj2).toNat : Int) % 4294967296 * 2 ^ (8 * j) % 4294967296)) = .int .u32 (low s.data.toList 124 (j + 1) : Nat) by
            rw [or_u32_low (low_lt _ _ _) hb hlt, low_step s j hj2])
          clear hb
          go_wp2
          go_round
          case rel => exact ⟨j + 1, by go_num, by omega, E.out⟩
          case measure => simp [intOf]; omega
        · have hge : j = 4 := by omega
          subst hge
          rw [HT.out]
          have hsz : (s.size : Int) = 128 := by have := H1.out; omega
          have hle : 124 ≤ s.size := by have := H1.out; omega
          by_cases hST : S = T
          · subst hST
            have t1 : ((S : Int) != (S : Int)) = false := by simp
            have hST : sumN (s.extract 0 124).data.toList = low s.data.toList 124 4 := by rw [HS.out, HT.out]
            have hl0 : 0 < s.size := by omega
            have hl13 : 13 < s.size := by omega
            have hn8 := (s[13]'hl13).toNat_lt
            have hat := at_getD s 13 hl13
            obtain ⟨n, hn⟩ : ∃ n, (s[13]'hl13).toNat = n := ⟨_, rfl⟩
            rw [hn] at hn8
            have HST := Aside0.mk hST
            have HAT := Aside0.mk (show (s.data.toList.getD 13 0).toNat = n by rw [hat, hn])
            have HN := Aside0.mk hn
            clear hST hat hn
            by_cases hn1 : 110 < n
            · have t2 : decide (110 < (n : Int)) = true := decide_eq_true (by omega)
              have t3 : decide (110 < n) = true := decide_eq_true hn1
              have E := Aside0.mk (openS_form H1.out HBL.out HST.out (.inl (by rw [HAT.out]; exact hn1)))
              have hZ1 := B1.out.2
              have hn := HN.out
              go_wp2_with fail
              refine (KS.out _).mono ?_
              rintro x w2 ⟨rfl, rfl⟩
              go_wp2_with (refine wpList_store_row rfl 29 _ _ rfl w.heap.size #[.int .u8 0, .int .u64 0, .int .u32 0, .string ⟨#[]⟩] rfl rfl 29 _ hZ1 hi rfl ho ?_)
              exact bodyPost_ret (Cel.end_cell rfl _ _ _ _ _ hZ1 rfl Tryd.underlying29 rfl hi) rfl ⟨by rw [E.out]; rfl, below_setRow B1.out.1 (Nat.le_refl _) _⟩
            · have t2 : decide (110 < (n : Int)) = false := decide_eq_false (by omega)
              have t3 : decide (110 < n) = false := decide_eq_false hn1
              have hn2 : 14 + n ≤ 124 := by omega
              have hn3 : (14 : Int) + (n : Int) ≤ 124 := by omega
              have K2 := Aside0.mk (fun V => blank_calls (s.extract (14 + n) 124) V (by rw [ByteArray.size_extract]; omega))
              obtain ⟨b2, hb2⟩ : ∃ b, blankB (s.extract (14 + n) 124).data.toList = b := ⟨_, rfl⟩
              rw [hb2] at K2
              have HB2 := Aside0.mk hb2
              clear hb2
              have hn := HN.out
              have hslice : ∀ W : World, (Instr.slice 9 (.string s) (some (.int .i64 (14 + (n : Int)))) (some (.int .i64 124)) none).run Tryd.prog W = .ok (.string (s.extract (14 + n) 124)) W := fun W => by
                have := run_slice_string (P := Tryd.prog) 9 s .i64 .i64 (14 + (n : Int)) 124 Tryd.underlying9 (by omega) (by omega) (by omega) (w := W)
                rw [show (14 + (n : Int)).toNat = 14 + n by omega] at this
                exact this
              go_wp2_with fail
              refine (KS.out _).mono ?_
              rintro x w1' ⟨rfl, rfl⟩
              go_wp2_with fail
              refine (K2.out _).mono ?_
              rintro x w2 ⟨rfl, hw2⟩
              have B2 := Aside0.mk (B1.out.step hw2)
              have hZ1 := B2.out.2
              clear hw2 B1 K2
              cases b2 with
              | false =>
                have E := Aside0.mk (openS_form H1.out HBL.out HST.out (.inr (by rw [HAT.out]; exact HB2.out)))
                go_wp2_with (refine wpList_store_row rfl 29 _ _ rfl w.heap.size #[.int .u8 0, .int .u64 0, .int .u32 0, .string ⟨#[]⟩] rfl rfl 29 _ hZ1 hi rfl ho ?_)
                exact bodyPost_ret (Cel.end_cell rfl _ _ _ _ _ hZ1 rfl Tryd.underlying29 rfl hi) rfl ⟨by rw [E.out]; rfl, below_setRow B2.out.1 (Nat.le_refl _) _⟩
              | true =>
                have E := Aside0.mk (openS_ok H1.out HBL.out HST.out (by rw [HAT.out]; omega) (by rw [HAT.out]; exact HB2.out))
                rw [HAT.out, at_getD s 0 hl0] at E
                have KG := Aside0.mk (fun V => number2_calls (s.extract 1 9) V (by rw [ByteArray.size_extract]; omega))
                have KI := Aside0.mk (fun V => number2_calls (s.extract 9 13) V (by rw [ByteArray.size_extract]; omega))
                have hi0 := val_lt (s.extract 9 13).data.toList
                obtain ⟨g0, hg0⟩ : ∃ g, val (s.extract 1 9).data.toList = g := ⟨_, rfl⟩
                obtain ⟨i0, hi0'⟩ : ∃ g, val (s.extract 9 13).data.toList = g := ⟨_, rfl⟩
                rw [hg0] at KG E
                rw [hi0'] at KI E hi0
                have hi1 : i0 < 4294967296 := Nat.lt_of_lt_of_le hi0 (by
                  have : (s.extract 9 13).data.toList.length ≤ 4 := by rw [Array.length_toList]; show (s.extract 9 13).size ≤ 4; rw [ByteArray.size_extract]; omega
                  exact Nat.pow_le_pow_right (by omega) this)
                have e5 : (i0 : Int) % 4294967296 = (i0 : Int) := by omega
                have hn4 : 14 + n ≤ s.size := by omega
                clear hg0 hi0 hi0' hi1 hn
                go_wp2_with fail
                clear hslice
                have hwrap : IntKind.i64.wrap (14 + (n : Int)) = 14 + (n : Int) := by rw [IntKind.wrap_i64]; omega
                have hwrap2 : IntKind.u32.wrap (i0 : Int) = (i0 : Int) := by rw [IntKind.wrap_u32]; omega
                have hslice2 : ∀ W : World, (Instr.slice 9 (.string s) (some (.int .i64 14)) (some (.int .i64 (14 + (n : Int)))) none).run Tryd.prog W = .ok (.string (s.extract 14 (14 + n))) W := fun W => by
                  have := run_slice_string (P := Tryd.prog) 9 s .i64 .i64 14 (14 + (n : Int)) Tryd.underlying9 (by omega) (by omega) (by omega) (w := W)
                  rw [show (14 + (n : Int)).toNat = 14 + n by omega] at this
                  exact this
                refine wp_region_held_drew (S := fun V => RB4 w V) (by kernel_rfl) ⟨B2.out.1.drew, _, hZ1, rfl⟩ (fun hH => ?_)
                refine Cel.take_at (i := 0) (some 50) (.string s) rfl rfl (by kernel_rfl) (by kernel_rfl) (by kernel_rfl) (fun _ _ _ h => h) (Or.inl ⟨by rfl, fun w hSw => by go_simp⟩) hH ?_
                refine Cel.take_at (i := 1) (some 51) (.int .u8 ((s[0]'hl0).toNat : Nat)) rfl rfl (by kernel_rfl) (by kernel_rfl) (by kernel_rfl) (fun _ _ _ h => h) (Or.inl ⟨by rfl, fun w hSw => by go_simp⟩) hH ?_
                try simp only [Act.put, List.setIfInBounds_toArray, List.set_cons_zero, List.set_cons_succ]
                refine Cel.take_at (i := 2) (some 52) (.string s) rfl rfl (by kernel_rfl) (by kernel_rfl) (by kernel_rfl) (fun _ _ _ h => h) (Or.inl ⟨by rfl, fun w hSw => by go_simp⟩) hH ?_
                refine Cel.take_at (i := 3) (some 53) (.string (s.extract 1 9)) rfl rfl (by kernel_rfl) (by kernel_rfl) (by kernel_rfl) (fun _ _ _ h => h) (Or.inl ⟨by rfl, fun w hSw => by go_simp⟩) hH ?_
                try simp only [Act.put, List.setIfInBounds_toArray, List.set_cons_zero, List.set_cons_succ]
                refine Cel.take_at (i := 5) (some 55) (.string s) rfl rfl (by kernel_rfl) (by kernel_rfl) (by kernel_rfl) (fun _ _ _ h => h) (Or.inl ⟨by rfl, fun w hSw => by go_simp⟩) hH ?_
                refine Cel.take_at (i := 6) (some 56) (.string (s.extract 9 13)) rfl rfl (by kernel_rfl) (by kernel_rfl) (by kernel_rfl) (fun _ _ _ h => h) (Or.inl ⟨by rfl, fun w hSw => by go_simp⟩) hH ?_
                try simp only [Act.put, List.setIfInBounds_toArray, List.set_cons_zero, List.set_cons_succ]
                refine Cel.take_at (i := 9) (some 59) (.string s) rfl rfl (by kernel_rfl) (by kernel_rfl) (by kernel_rfl) (fun _ _ _ h => h) (Or.inl ⟨by rfl, fun w hSw => by go_simp⟩) hH ?_
                refine Cel.take_at (i := 10) (some 60) (.int .i64 (n : Int)) rfl rfl (by kernel_rfl) (by kernel_rfl) (by kernel_rfl) (fun _ _ _ h => h) (Or.inl ⟨by rfl, fun w hSw => by go_simp⟩) hH ?_
                try simp only [Act.put, List.setIfInBounds_toArray, List.set_cons_zero, List.set_cons_succ]
                refine Cel.take_at (i := 11) (some 61) (.int .i64 (14 + (n : Int))) rfl rfl (by kernel_rfl) (by kernel_rfl) (by kernel_rfl) (fun _ _ _ h => h) (Or.inl ⟨by rfl, fun w hSw => by go_simp⟩) hH ?_
                refine Cel.take_at (i := 12) (some 62) (.string (s.extract 14 (14 + n))) rfl rfl (by kernel_rfl) (by kernel_rfl) (by kernel_rfl) (fun _ _ _ h => h) (Or.inl ⟨by rfl, fun w hSw => by go_simp⟩) hH ?_
                try simp only [Act.put, List.setIfInBounds_toArray, List.set_cons_zero, List.set_cons_succ]
                generalize w2.drew = V0 at hH ⊢
                try simp only [Act.put, List.setIfInBounds_toArray, List.set_cons_zero, List.set_cons_succ]
                refine wpAnyH_ready (rs := [4]) (by kernel_rfl) (by simp) (AllReadyH.cons rfl (fun K hK => ?_) AllReadyH.nil)
                go_simp
                refine (KG.out _).mono ?_
                rintro x v4 ⟨rfl, rfl⟩
                refine hK.out _ _ hH (fun hH => ?_)
                clear hK K
                try simp only [Act.put, List.setIfInBounds_toArray, List.set_cons_zero, List.set_cons_succ]
                refine wpAnyH_ready (rs := [7]) (by kernel_rfl) (by simp) (AllReadyH.cons rfl (fun K hK => ?_) AllReadyH.nil)
                go_simp
                refine (KI.out _).mono ?_
                rintro x v7 ⟨rfl, rfl⟩
                refine hK.out _ _ hH (fun hH => ?_)
                clear hK K
                try simp only [Act.put, List.setIfInBounds_toArray, List.set_cons_zero, List.set_cons_succ]
                refine Cel.take_at (i := 8) (some 58) (.int .u32 (i0 : Nat)) rfl rfl (by kernel_rfl) (by kernel_rfl) (by kernel_rfl) (fun _ _ _ h => h) (Or.inl ⟨by rfl, fun w hSw => by go_simp⟩) hH ?_
                try simp only [Act.put, List.setIfInBounds_toArray, List.set_cons_zero, List.set_cons_succ]
                refine Cel.take_at (i := 13) (some 63) (.agg #[.int .u8 ((s[0]'hl0).toNat : Nat), .int .u64 (g0 : Nat), .int .u32 (i0 : Nat), .string (s.extract 14 (14 + n))]) rfl rfl (by kernel_rfl) (by kernel_rfl) (by kernel_rfl) (fun _ _ _ h => h) (Or.inl ⟨by rfl, fun w hSw => by go_simp⟩) hH ?_
                try simp only [Act.put, List.setIfInBounds_toArray, List.set_cons_zero, List.set_cons_succ]
                obtain ⟨hb0, cs0, hc0, hl0'⟩ := hH
                have hif : (Tryd.prog.info? 29).map (·.size) = some (#[.int .u8 ((s[0]'hl0).toNat : Nat), .int .u64 (g0 : Nat), .int .u32 (i0 : Nat), .string (s.extract 14 (14 + n))] : Array Value).size := infoR
                have hof : (#[.int .u8 ((s[0]'hl0).toNat : Nat), .int .u64 (g0 : Nat), .int .u32 (i0 : Nat), .string (s.extract 14 (14 + n))] : Array Value).all (·.oneCell') = true := recV_one ⟨(s[0]'hl0).toNat, g0, i0, s.extract 14 (14 + n)⟩
                refine wpAnyH_ready (rs := [14]) (by kernel_rfl) (by simp) (AllReadyH.cons rfl (fun K hK => ?_) AllReadyH.nil)
                rw [if_pos (by rfl)]
                refine Cel.wp_store_none rfl 29 (.tmp 2) (.tmp 63) rfl w.heap.size _ rfl rfl 29 _ hc0 hif hl0' hof ?_
                have hR := setRow_heap V0 w.heap.size _ #[.int .u8 ((s[0]'hl0).toNat : Nat), .int .u64 (g0 : Nat), .int .u32 (i0 : Nat), .string (s.extract 14 (14 + n))] 29 (0, 0) hc0
                have hbz := below_setRow hb0 (Nat.le_refl _) #[.int .u8 ((s[0]'hl0).toNat : Nat), .int .u64 (g0 : Nat), .int .u32 (i0 : Nat), .string (s.extract 14 (14 + n))]
                refine hK.out _ _ ⟨hbz, _, hR, rfl⟩ (fun hH => ?_)
                clear hK K
                try simp only [Act.put, List.setIfInBounds_toArray, List.set_cons_zero, List.set_cons_succ]
                refine Cel.take_at (i := 15) (some 3) (.int .i64 0) rfl rfl (by kernel_rfl) (by kernel_rfl) (by kernel_rfl) (fun _ _ _ h => h) (Or.inl ⟨by rfl, fun w hSw => by go_simp⟩) hH ?_
                refine wpAnyH_done (by kernel_rfl) ?_ _
                try simp only [Act.put, List.setIfInBounds_toArray, List.set_cons_zero, List.set_cons_succ]
                have HR := Aside0.mk hc0
                have HBZ := Aside0.mk hbz
                clear hH hR hbz hb0
                go_wp2
                exact bodyPost_ret (Cel.end_cell rfl _ _ _ _ _ HR.out rfl Tryd.underlying29 rfl hif) rfl ⟨by rw [E.out]; rfl, HBZ.out⟩
          · have t1 : ((S : Int) != (T : Int)) = true := by simp; omega
            have t1' : (S != T) = true := by simpa using hST
            have E := Aside0.mk (openS_sum H1.out HBL.out (by rw [HS.out, HT.out]; exact hST))
            clear hST
            have hZ1 := B1.out.2
            go_wp2_with fail
            refine (KS.out _).mono ?_
            rintro x w2 ⟨rfl, rfl⟩
            go_wp2_with (refine wpList_store_row rfl 29 _ _ rfl w.heap.size #[.int .u8 0, .int .u64 0, .int .u32 0, .string ⟨#[]⟩] rfl rfl 29 _ hZ1 hi rfl ho ?_)
            exact bodyPost_ret (Cel.end_cell rfl _ _ _ _ _ hZ1 rfl Tryd.underlying29 rfl hi) rfl ⟨by rw [E.out]; rfl, below_setRow B1.out.1 (Nat.le_refl _) _⟩
  · have c1 : ((s.size : Int) != 128) = true := by simp; omega
    have c1' : (s.size != 128) = true := by simp [h1]
    have E := Aside0.mk (openS_len h1)
    go_enter Tryd.func8, Tryd.ntmps8
    go_wp2_with (refine wpList_store_row rfl 29 _ _ rfl w.heap.size #[.int .u8 0, .int .u64 0, .int .u32 0, .string ⟨#[]⟩] rfl rfl 29 _ hz hi rfl ho ?_)
    exact bodyPost_ret (Cel.end_cell rfl _ _ _ _ _ hz rfl Tryd.underlying29 rfl hi) rfl ⟨by rw [E.out]; rfl, below_setRow ((Below.refl _ _).alloc (Nat.le_refl _) _) (Nat.le_refl _) _⟩
end Go.Proofs.YtombochecgjmjaaDoor.Sl
