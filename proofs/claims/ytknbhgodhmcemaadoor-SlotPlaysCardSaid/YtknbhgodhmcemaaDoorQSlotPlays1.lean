/- Texts of the seat, as far as the row needs them. -/
import Derived.Below
import Derived.BigQuiet
import Derived.Deep.CutBlock
import Derived.Deep.DeepCutAuto
import Derived.Deep.DeepFit
import Derived.Deep.Light
import Derived.Deep.LoopGhost
import Derived.Deep.QuietTactic
import Derived.Deep.RegionHeld3
import Derived.Ground.Names2Prog
import Derived.Laws.AppendOwn
import Derived.Laws.BitsAllLaws
import Derived.Laws.BitsLemmas
import Derived.Laws.CopyOwn
import Derived.Laws.Externs
import Derived.Laws.IdiomCopy
import Derived.Laws.IdiomStrings
import Derived.Laws.OwnMore
import Derived.Laws.ResultCell
import Derived.Laws.Rows
import Derived.Laws.StructEq
import Derived.Laws.Tables
import Derived.Lib.AppendStr
import Derived.Lib.FrozenHead2
import Derived.Lib.OthersKept
import Derived.Lib.RepeatB
import Derived.Lib.TrimByte
import Derived.Lib.UnsafeStr
import Derived.Maps.Own
import Derived.Maps.OwnOps
import Derived.Maps.OwnSet
import Derived.Maps.Views
import Derived.OrdersHeld
import Derived.Outline
import Derived.OwnWalk
import Derived.Shelf.Bits.Mul64
import Derived.Shelf.Slices.Clone
import Derived.Shelf.Small.Strs
import Derived.Shelf.Small.Utf8
import Derived.Shelf.Strings.AsciiSet
import Derived.Shelf.Strings.Builder1
import Derived.Shelf.Strings.Builder2
import Derived.Shelf.Strings.Builder2Cap
import Derived.Shelf.Strings.BuilderCap
import Derived.Shelf.Strings.BuilderF
import Derived.Shelf.Strings.BuilderK
import Derived.Shelf.Strings.Prefix
import Derived.Shelf.Strings.Repeat
import Derived.Shelf.Strings.Runes
import Derived.Shelf.Strings.Search1
import Derived.Shelf.Strings.Trim
import Derived.Shelf.Unicode.DecodeSlow
import Derived.StillTailTactics
import Derived.Test.YtknbhgodhmcemaaDoorProg
import Derived.WalkKit
import Derived.Test.YtknbhgodhmcemaaDoorQSlotPlays0
set_option linter.unusedVariables false
set_option linter.unusedSimpArgs false
namespace Go.Proofs.YtknbhgodhmcemaaDoor.Sl
set_option linter.unusedSimpArgs false
set_option linter.unusedVariables false
set_option maxRecDepth 100000
open Go.RowKit
def low (l : List UInt8) (p : Nat) : Nat → Nat
  | 0 => 0
  | d + 1 => low l p d + (l.getD (p + d) 0).toNat * 256 ^ d
theorem low_lt (l : List UInt8) (p : Nat) : ∀ d, low l p d < 256 ^ d
  | 0 => by simp [low]
  | d + 1 => by
    have := low_lt l p d
    have hb := (l.getD (p + d) 0).toNat_lt
    rw [low, Nat.pow_succ, Nat.mul_comm (256 ^ d)]
    have h2 : (l.getD (p + d) 0).toNat * 256 ^ d ≤ 255 * 256 ^ d := Nat.mul_le_mul_right _ (by omega)
    omega
structure Rec where
  k : Nat
  g : Nat
  i : Nat
  d : ByteArray
def Rec.zero : Rec := ⟨0, 0, 0, ⟨#[]⟩⟩
def recV (r : Rec) : Array Value := #[.int .u8 (r.k : Int), .int .u64 (r.g : Int), .int .u32 (r.i : Int), .string r.d]
def openS (s : ByteArray) : Rec × Int :=
  if s.size ≠ 128 then (.zero, 4) else if blankB s.data.toList = true then (.zero, 16)
  else if sumN (s.extract 0 124).data.toList ≠ low s.data.toList 124 4 then (.zero, 8)
  else if (s.data.toList.getD 13 0).toNat > 110 ∨ blankB (s.extract (14 + (s.data.toList.getD 13 0).toNat) 124).data.toList = false then (.zero, 4)
  else (⟨(s.data.toList.getD 0 0).toNat, val (s.extract 1 9).data.toList, val (s.extract 9 13).data.toList, s.extract 14 (14 + (s.data.toList.getD 13 0).toNat)⟩, 0)
theorem at_getD (s : ByteArray) (j : Nat) (h : j < s.size) : s.data.toList.getD j 0 = s[j]'h := by
  rw [List.getD_eq_getElem?_getD, List.getElem?_eq_getElem (by simpa using h)]; rfl
theorem infoR : (Tryd.prog.info? 64).map (·.size) = some 4 := by kernel_rfl
theorem recV_one (r : Rec) : (recV r).all (·.oneCell') = true := by
  rw [Array.all_eq_true_iff_forall_mem]
  intro v hv
  simp only [recV, List.mem_toArray, List.mem_cons, List.not_mem_nil, or_false] at hv
  rcases hv with rfl | rfl | rfl | rfl <;> rfl
theorem low_step (s : ByteArray) (j : Nat) (h : 124 + j < s.size) : low s.data.toList 124 (j + 1) = low s.data.toList 124 j + (s[124 + j]'h).toNat * 256 ^ j := by
  rw [low, at_getD s _ h]
theorem or_low (x b j : Nat) (hx : x < 256 ^ j) : x ||| b * 256 ^ j = x + b * 256 ^ j := by
  have e : (256 : Nat) ^ j = 2 ^ (8 * j) := by rw [Nat.pow_mul]
  rw [e] at hx ⊢
  have := Nat.shiftLeft_add_eq_or_of_lt (i := 8 * j) (a := b) (b := x) hx
  rw [Nat.shiftLeft_eq] at this
  rw [Nat.or_comm, ← this, Nat.add_comm]
theorem or_u32_low {x b j : Nat} (hx : x < 256 ^ j) (hb : b < 256) (hj : j < 4) : bits .or .u32 (x : Int) ((b : Int) % 4294967296 * 2 ^ (8 * j) % 4294967296) = ((x + b * 256 ^ j : Nat) : Int) := by
  have h1 : b * 256 ^ j < 4294967296 := by
    have : j = 0 ∨ j = 1 ∨ j = 2 ∨ j = 3 := by omega
    rcases this with rfl | rfl | rfl | rfl <;> omega
  have h2 : x < 4294967296 := Nat.lt_of_lt_of_le hx (by
    have : j = 0 ∨ j = 1 ∨ j = 2 ∨ j = 3 := by omega
    rcases this with rfl | rfl | rfl | rfl <;> omega)
  have e : (b : Int) % 4294967296 * 2 ^ (8 * j) % 4294967296 = ((b * 256 ^ j : Nat) : Int) := by
    rw [show (b : Int) % 4294967296 = (b : Int) by omega, Int.pow_mul, show (2 : Int) ^ 8 = ((256 : Nat) : Int) by decide, ← Int.natCast_pow, ← Int.natCast_mul]
    omega
  rw [e, u32_or_nat x _ h2 h1, or_low x b j hx]
theorem openS_len {s : ByteArray} (h : s.size ≠ 128) : openS s = (.zero, 4) := by unfold openS; rw [if_pos h]
theorem openS_blank {s : ByteArray} (h : s.size = 128) (h2 : blankB s.data.toList = true) : openS s = (.zero, 16) := by unfold openS; rw [if_neg (by omega), if_pos h2]
theorem openS_sum {s : ByteArray} (h : s.size = 128) (h2 : blankB s.data.toList = false) (h3 : sumN (s.extract 0 124).data.toList ≠ low s.data.toList 124 4) : openS s = (.zero, 8) := by
  unfold openS; rw [if_neg (by omega), if_neg (by simp [h2]), if_pos h3]
theorem openS_form {s : ByteArray} (h : s.size = 128) (h2 : blankB s.data.toList = false) (h3 : sumN (s.extract 0 124).data.toList = low s.data.toList 124 4)
    (h4 : (s.data.toList.getD 13 0).toNat > 110 ∨ blankB (s.extract (14 + (s.data.toList.getD 13 0).toNat) 124).data.toList = false) : openS s = (.zero, 4) := by
  unfold openS; rw [if_neg (by omega), if_neg (by simp [h2]), if_neg (fun e => e h3), if_pos h4]
theorem openS_ok {s : ByteArray} (h : s.size = 128) (h2 : blankB s.data.toList = false) (h3 : sumN (s.extract 0 124).data.toList = low s.data.toList 124 4)
    (h4 : (s.data.toList.getD 13 0).toNat ≤ 110) (h5 : blankB (s.extract (14 + (s.data.toList.getD 13 0).toNat) 124).data.toList = true) :
    openS s = (⟨(s.data.toList.getD 0 0).toNat, val (s.extract 1 9).data.toList, val (s.extract 9 13).data.toList, s.extract 14 (14 + (s.data.toList.getD 13 0).toNat)⟩, 0) := by
  unfold openS; rw [if_neg (by omega), if_neg (by simp [h2]), if_neg (fun e => e h3), if_neg (fun e => e.elim (fun e => absurd e (by omega)) (fun e => by rw [h5] at e; cases e))]
def RB4 (w : World) (W : World) : Prop := Below w.heap.size w W ∧ ∃ cs : Array Value, W.heap[w.heap.size]? = some (.cells cs 64 (0, 0)) ∧ cs.size = 4
def RB (w : World) (W : World) : Prop := Below w.heap.size w W ∧ W.heap[w.heap.size]? = some (.cells #[.int .u8 0, .int .u64 0, .int .u32 0, .string ⟨#[]⟩] 64 (0, 0))
theorem RB.step {w W W' : World} (h : RB w W) (hb : W' = W ∨ W' = W.drew) : RB w W' := by
  rcases hb with rfl | rfl
  · exact h
  · exact ⟨h.1.drew, h.2⟩
set_option maxHeartbeats 1000000 in
theorem open_calls (s : ByteArray) (w : World) (hs : s.size ≤ 1000) :
    Calls Tryd.prog 47 #[.string s] w fun e w' => e = .returned (.tuple #[.agg (recV (openS s).1), .int .i64 (openS s).2]) ∧ Below w.heap.size w w' := by
  have hz := heap_alloc_new w (.cells #[.int .u8 0, .int .u64 0, .int .u32 0, .string ⟨#[]⟩] 64)
  have hi : (Tryd.prog.info? 64).map (·.size) = some (#[.int .u8 0, .int .u64 0, .int .u32 0, .string ⟨#[]⟩] : Array Value).size := infoR
  have ho : (#[.int .u8 0, .int .u64 0, .int .u32 0, .string ⟨#[]⟩] : Array Value).all (·.oneCell') = true := recV_one .zero
  by_cases h1 : s.size = 128
  · have c1 : ((s.size : Int) != 128) = false := by simp [h1]
    have c1' : (s.size != 128) = false := by simp [h1]
    have KB := Aside0.mk (fun V => blank_calls s V (by omega))
    obtain ⟨bl, hbl⟩ : ∃ b, blankB s.data.toList = b := ⟨_, rfl⟩
    rw [hbl] at KB
    have H1 := Aside0.mk h1
    have HBL := Aside0.mk hbl
    have HZ := Aside0.mk (show RB w (w.alloc (.cells #[.int .u8 0, .int .u64 0, .int .u32 0, .string ⟨#[]⟩] 64)) from ⟨(Below.refl _ _).alloc (Nat.le_refl _) _, hz⟩)
    clear h1 hs hbl hz
    go_enter Tryd.func47, Tryd.ntmps47
    go_wp2_with fail
    refine (KB.out _).mono ?_
    rintro x w1 ⟨rfl, hw1⟩
    have B1 := Aside0.mk (HZ.out.step hw1)
    have hZ1 := B1.out.2
    clear hw1 KB HZ
    cases bl with
    | true =>
      have E := Aside0.mk (openS_blank H1.out HBL.out)
      go_wp2_with (refine wpList_store_row rfl 64 _ _ rfl w.heap.size #[.int .u8 0, .int .u64 0, .int .u32 0, .string ⟨#[]⟩] rfl rfl 64 _ hZ1 hi rfl ho ?_)
      exact bodyPost_ret (Cel.end_cell rfl _ _ _ _ _ hZ1 rfl Tryd.underlying64 rfl hi) rfl ⟨by rw [E.out]; rfl, below_setRow B1.out.1 (Nat.le_refl _) _⟩
    | false =>
      have KS := Aside0.mk (fun V => sum_calls (s.extract 0 124) V (by rw [ByteArray.size_extract]; have := H1.out; omega))
      have hsl := sumN_lt (s.extract 0 124).data.toList
      obtain ⟨S, hS⟩ : ∃ S, sumN (s.extract 0 124).data.toList = S := ⟨_, rfl⟩
      obtain ⟨T, hT⟩ : ∃ T, low s.data.toList 124 4 = T := ⟨_, rfl⟩
      rw [hS] at KS hsl
      have HS := Aside0.mk hS
      have HT := Aside0.mk hT
      have HSl := Aside0.mk hsl
      clear hS hT hsl hZ1
      go_wp2_with fail
      go_loop [4, 16] (fun t i => ∃ (j : Nat), i = .int .i64 j ∧ j ≤ 4 ∧ t = .int .u32 (low s.data.toList 124 j : Nat)) (fun _ i => 4 - (intOf i).toNat)
      case atStart => exact ⟨0, rfl, by omega, rfl⟩
      case round =>
        obtain ⟨j, rfl, hj, rfl⟩ := hrel
        by_cases hlt : j < 4
        · have hx1 : 0 ≤ (j : Int) := by omega
          have hx2 : (j : Int) < 4 := by omega
          have hj2 : 124 + j < s.size := by have := H1.out; omega
          have hj3 : (124 : Int) + (j : Int) < (s.size : Int) := by omega
          have hb := (s[124 + j]'hj2).toNat_lt
          have E := Aside0.mk (show Value.int .u32 (bits .or .u32 (low s.data.toList 124 j : Nat) (((s[124 + j]'hj2).toNat : Int) % 4294967296 * 2 ^ (8 * j) % 4294967296)) = .int .u32 (low s.data.toList 124 (j + 1) : Nat) by
            rw [or_u32_low (low_lt _ _ _) hb hlt, low_step s j hj2])
          clear hb
          go_wp2
          go_round
          case rel => exact ⟨j + 1, by go_num, by omega, E.out⟩
          case measure => simp [intOf]; omega
        · have hge : j = 4 := by omega
          subst hge
          rw [HT.out]
          have hsz : (s.size : Int) = 128 := by have := H1.out; omega
          have hle : 124 ≤ s.size := by have := H1.out; omega
          by_cases hST : S = T
          · subst hST
            have t1 : ((S : Int) != (S : Int)) = false := by simp
            have hST : sumN (s.extract 0 124).data.toList = low s.data.toList 124 4 := by rw [HS.out, HT.out]
            have hl0 : 0 < s.size := by omega
            have hl13 : 13 < s.size := by omega
            have hn8 := (s[13]'hl13).toNat_lt
            have hat := at_getD s 13 hl13
            obtain ⟨n, hn⟩ : ∃ n, (s[13]'hl13).toNat = n := ⟨_, rfl⟩
            rw [hn] at hn8
            have HST := Aside0.mk hST
            have HAT := Aside0.mk (show (s.data.toList.getD 13 0).toNat = n by rw [hat, hn])
            have HN := Aside0.mk hn
            clear hST hat hn
            by_cases hn1 : 110 < n
            · have t2 : decide (110 < (n : Int)) = true := decide_eq_true (by omega)
              have t3 : decide (110 < n) = true := decide_eq_true hn1
              have E := Aside0.mk (openS_form H1.out HBL.out HST.out (.inl (by rw [HAT.out]; exact hn1)))
              have hZ1 := B1.out.2
              have hn := HN.out
              go_wp2_with fail
              refine (KS.out _).mono ?_
              rintro x w2 ⟨rfl, rfl⟩
              go_wp2_with (refine wpList_store_row rfl 64 _ _ rfl w.heap.size #[.int .u8 0, .int .u64 0, .int .u32 0, .string ⟨#[]⟩] rfl rfl 64 _ hZ1 hi rfl ho ?_)
              exact bodyPost_ret (Cel.end_cell rfl _ _ _ _ _ hZ1 rfl Tryd.underlying64 rfl hi) rfl ⟨by rw [E.out]; rfl, below_setRow B1.out.1 (Nat.le_refl _) _⟩
            · have t2 : decide (110 < (n : Int)) = false := decide_eq_false (by omega)
              have t3 : decide (110 < n) = false := decide_eq_false hn1
              have hn2 : 14 + n ≤ 124 := by omega
              have hn3 : (14 : Int) + (n : Int) ≤ 124 := by omega
              have K2 := Aside0.mk (fun V => blank_calls (s.extract (14 + n) 124) V (by rw [ByteArray.size_extract]; omega))
              obtain ⟨b2, hb2⟩ : ∃ b, blankB (s.extract (14 + n) 124).data.toList = b := ⟨_, rfl⟩
              rw [hb2] at K2
              have HB2 := Aside0.mk hb2
              clear hb2
              have hn := HN.out
              have hslice : ∀ W : World, (Instr.slice 9 (.string s) (some (.int .i64 (14 + (n : Int)))) (some (.int .i64 124)) none).run Tryd.prog W = .ok (.string (s.extract (14 + n) 124)) W := fun W => by
                have := run_slice_string (P := Tryd.prog) 9 s .i64 .i64 (14 + (n : Int)) 124 Tryd.underlying9 (by omega) (by omega) (by omega) (w := W)
                rw [show (14 + (n : Int)).toNat = 14 + n by omega] at this
                exact this
              go_wp2_with fail
              refine (KS.out _).mono ?_
              rintro x w1' ⟨rfl, rfl⟩
              go_wp2_with fail
              refine (K2.out _).mono ?_
              rintro x w2 ⟨rfl, hw2⟩
              have B2 := Aside0.mk (B1.out.step hw2)
              have hZ1 := B2.out.2
              clear hw2 B1 K2
              cases b2 with
              | false =>
                have E := Aside0.mk (openS_form H1.out HBL.out HST.out (.inr (by rw [HAT.out]; exact HB2.out)))
                go_wp2_with (refine wpList_store_row rfl 64 _ _ rfl w.heap.size #[.int .u8 0, .int .u64 0, .int .u32 0, .string ⟨#[]⟩] rfl rfl 64 _ hZ1 hi rfl ho ?_)
                exact bodyPost_ret (Cel.end_cell rfl _ _ _ _ _ hZ1 rfl Tryd.underlying64 rfl hi) rfl ⟨by rw [E.out]; rfl, below_setRow B2.out.1 (Nat.le_refl _) _⟩
              | true =>
                have E := Aside0.mk (openS_ok H1.out HBL.out HST.out (by rw [HAT.out]; omega) (by rw [HAT.out]; exact HB2.out))
                rw [HAT.out, at_getD s 0 hl0] at E
                have KG := Aside0.mk (fun V => number2_calls (s.extract 1 9) V (by rw [ByteArray.size_extract]; omega))
                have KI := Aside0.mk (fun V => number2_calls (s.extract 9 13) V (by rw [ByteArray.size_extract]; omega))
                have hi0 := val_lt (s.extract 9 13).data.toList
                obtain ⟨g0, hg0⟩ : ∃ g, val (s.extract 1 9).data.toList = g := ⟨_, rfl⟩
                obtain ⟨i0, hi0'⟩ : ∃ g, val (s.extract 9 13).data.toList = g := ⟨_, rfl⟩
                rw [hg0] at KG E
                rw [hi0'] at KI E hi0
                have hi1 : i0 < 4294967296 := Nat.lt_of_lt_of_le hi0 (by
                  have : (s.extract 9 13).data.toList.length ≤ 4 := by rw [Array.length_toList]; show (s.extract 9 13).size ≤ 4; rw [ByteArray.size_extract]; omega
                  exact Nat.pow_le_pow_right (by omega) this)
                have e5 : (i0 : Int) % 4294967296 = (i0 : Int) := by omega
                have hn4 : 14 + n ≤ s.size := by omega
                clear hg0 hi0 hi0' hi1 hn
                go_wp2_with fail
                clear hslice
                have hwrap : IntKind.i64.wrap (14 + (n : Int)) = 14 + (n : Int) := by rw [IntKind.wrap_i64]; omega
                have hwrap2 : IntKind.u32.wrap (i0 : Int) = (i0 : Int) := by rw [IntKind.wrap_u32]; omega
                have hslice2 : ∀ W : World, (Instr.slice 9 (.string s) (some (.int .i64 14)) (some (.int .i64 (14 + (n : Int)))) none).run Tryd.prog W = .ok (.string (s.extract 14 (14 + n))) W := fun W => by
                  have := run_slice_string (P := Tryd.prog) 9 s .i64 .i64 14 (14 + (n : Int)) Tryd.underlying9 (by omega) (by omega) (by omega) (w := W)
                  rw [show (14 + (n : Int)).toNat = 14 + n by omega] at this
                  exact this
                refine wp_region_held_drew (S := fun V => RB4 w V) (by kernel_rfl) ⟨B2.out.1.drew, _, hZ1, rfl⟩ (fun hH => ?_)
                refine Cel.take_at (i := 0) (some 50) (.string s) rfl rfl (by kernel_rfl) (by kernel_rfl) (by kernel_rfl) (fun _ _ _ h => h) (Or.inl ⟨by rfl, fun w hSw => by go_simp⟩) hH ?_
                refine Cel.take_at (i := 1) (some 51) (.int .u8 ((s[0]'hl0).toNat : Nat)) rfl rfl (by kernel_rfl) (by kernel_rfl) (by kernel_rfl) (fun _ _ _ h => h) (Or.inl ⟨by rfl, fun w hSw => by go_simp⟩) hH ?_
                try simp only [Act.put, List.setIfInBounds_toArray, List.set_cons_zero, List.set_cons_succ]
                refine Cel.take_at (i := 2) (some 52) (.string s) rfl rfl (by kernel_rfl) (by kernel_rfl) (by kernel_rfl) (fun _ _ _ h => h) (Or.inl ⟨by rfl, fun w hSw => by go_simp⟩) hH ?_
                refine Cel.take_at (i := 3) (some 53) (.string (s.extract 1 9)) rfl rfl (by kernel_rfl) (by kernel_rfl) (by kernel_rfl) (fun _ _ _ h => h) (Or.inl ⟨by rfl, fun w hSw => by go_simp⟩) hH ?_
                try simp only [Act.put, List.setIfInBounds_toArray, List.set_cons_zero, List.set_cons_succ]
                refine Cel.take_at (i := 5) (some 55) (.string s) rfl rfl (by kernel_rfl) (by kernel_rfl) (by kernel_rfl) (fun _ _ _ h => h) (Or.inl ⟨by rfl, fun w hSw => by go_simp⟩) hH ?_
                refine Cel.take_at (i := 6) (some 56) (.string (s.extract 9 13)) rfl rfl (by kernel_rfl) (by kernel_rfl) (by kernel_rfl) (fun _ _ _ h => h) (Or.inl ⟨by rfl, fun w hSw => by go_simp⟩) hH ?_
                try simp only [Act.put, List.setIfInBounds_toArray, List.set_cons_zero, List.set_cons_succ]
                refine Cel.take_at (i := 9) (some 59) (.string s) rfl rfl (by kernel_rfl) (by kernel_rfl) (by kernel_rfl) (fun _ _ _ h => h) (Or.inl ⟨by rfl, fun w hSw => by go_simp⟩) hH ?_
                refine Cel.take_at (i := 10) (some 60) (.int .i64 (n : Int)) rfl rfl (by kernel_rfl) (by kernel_rfl) (by kernel_rfl) (fun _ _ _ h => h) (Or.inl ⟨by rfl, fun w hSw => by go_simp⟩) hH ?_
                try simp only [Act.put, List.setIfInBounds_toArray, List.set_cons_zero, List.set_cons_succ]
                refine Cel.take_at (i := 11) (some 61) (.int .i64 (14 + (n : Int))) rfl rfl (by kernel_rfl) (by kernel_rfl) (by kernel_rfl) (fun _ _ _ h => h) (Or.inl ⟨by rfl, fun w hSw => by go_simp⟩) hH ?_
                refine Cel.take_at (i := 12) (some 62) (.string (s.extract 14 (14 + n))) rfl rfl (by kernel_rfl) (by kernel_rfl) (by kernel_rfl) (fun _ _ _ h => h) (Or.inl ⟨by rfl, fun w hSw => by go_simp⟩) hH ?_
                try simp only [Act.put, List.setIfInBounds_toArray, List.set_cons_zero, List.set_cons_succ]
                generalize w2.drew = V0 at hH ⊢
                try simp only [Act.put, List.setIfInBounds_toArray, List.set_cons_zero, List.set_cons_succ]
                refine wpAnyH_ready (rs := [4]) (by kernel_rfl) (by simp) (AllReadyH.cons rfl (fun K hK => ?_) AllReadyH.nil)
                go_simp
                refine (KG.out _).mono ?_
                rintro x v4 ⟨rfl, rfl⟩
                refine hK.out _ _ hH (fun hH => ?_)
                clear hK K
                try simp only [Act.put, List.setIfInBounds_toArray, List.set_cons_zero, List.set_cons_succ]
                refine wpAnyH_ready (rs := [7]) (by kernel_rfl) (by simp) (AllReadyH.cons rfl (fun K hK => ?_) AllReadyH.nil)
                go_simp
                refine (KI.out _).mono ?_
                rintro x v7 ⟨rfl, rfl⟩
                refine hK.out _ _ hH (fun hH => ?_)
                clear hK K
                try simp only [Act.put, List.setIfInBounds_toArray, List.set_cons_zero, List.set_cons_succ]
                refine Cel.take_at (i := 8) (some 58) (.int .u32 (i0 : Nat)) rfl rfl (by kernel_rfl) (by kernel_rfl) (by kernel_rfl) (fun _ _ _ h => h) (Or.inl ⟨by rfl, fun w hSw => by go_simp⟩) hH ?_
                try simp only [Act.put, List.setIfInBounds_toArray, List.set_cons_zero, List.set_cons_succ]
                refine Cel.take_at (i := 13) (some 63) (.agg #[.int .u8 ((s[0]'hl0).toNat : Nat), .int .u64 (g0 : Nat), .int .u32 (i0 : Nat), .string (s.extract 14 (14 + n))]) rfl rfl (by kernel_rfl) (by kernel_rfl) (by kernel_rfl) (fun _ _ _ h => h) (Or.inl ⟨by rfl, fun w hSw => by go_simp⟩) hH ?_
                try simp only [Act.put, List.setIfInBounds_toArray, List.set_cons_zero, List.set_cons_succ]
                obtain ⟨hb0, cs0, hc0, hl0'⟩ := hH
                have hif : (Tryd.prog.info? 64).map (·.size) = some (#[.int .u8 ((s[0]'hl0).toNat : Nat), .int .u64 (g0 : Nat), .int .u32 (i0 : Nat), .string (s.extract 14 (14 + n))] : Array Value).size := infoR
                have hof : (#[.int .u8 ((s[0]'hl0).toNat : Nat), .int .u64 (g0 : Nat), .int .u32 (i0 : Nat), .string (s.extract 14 (14 + n))] : Array Value).all (·.oneCell') = true := recV_one ⟨(s[0]'hl0).toNat, g0, i0, s.extract 14 (14 + n)⟩
                refine wpAnyH_ready (rs := [14]) (by kernel_rfl) (by simp) (AllReadyH.cons rfl (fun K hK => ?_) AllReadyH.nil)
                rw [if_pos (by rfl)]
                refine Cel.wp_store_none rfl 64 (.tmp 2) (.tmp 63) rfl w.heap.size _ rfl rfl 64 _ hc0 hif hl0' hof ?_
                have hR := setRow_heap V0 w.heap.size _ #[.int .u8 ((s[0]'hl0).toNat : Nat), .int .u64 (g0 : Nat), .int .u32 (i0 : Nat), .string (s.extract 14 (14 + n))] 64 (0, 0) hc0
                have hbz := below_setRow hb0 (Nat.le_refl _) #[.int .u8 ((s[0]'hl0).toNat : Nat), .int .u64 (g0 : Nat), .int .u32 (i0 : Nat), .string (s.extract 14 (14 + n))]
                refine hK.out _ _ ⟨hbz, _, hR, rfl⟩ (fun hH => ?_)
                clear hK K
                try simp only [Act.put, List.setIfInBounds_toArray, List.set_cons_zero, List.set_cons_succ]
                refine Cel.take_at (i := 15) (some 3) (.int .i64 0) rfl rfl (by kernel_rfl) (by kernel_rfl) (by kernel_rfl) (fun _ _ _ h => h) (Or.inl ⟨by rfl, fun w hSw => by go_simp⟩) hH ?_
                refine wpAnyH_done (by kernel_rfl) ?_ _
                try simp only [Act.put, List.setIfInBounds_toArray, List.set_cons_zero, List.set_cons_succ]
                have HR := Aside0.mk hc0
                have HBZ := Aside0.mk hbz
                clear hH hR hbz hb0
                go_wp2
                exact bodyPost_ret (Cel.end_cell rfl _ _ _ _ _ HR.out rfl Tryd.underlying64 rfl hif) rfl ⟨by rw [E.out]; rfl, HBZ.out⟩
          · have t1 : ((S : Int) != (T : Int)) = true := by simp; omega
            have t1' : (S != T) = true := by simpa using hST
            have E := Aside0.mk (openS_sum H1.out HBL.out (by rw [HS.out, HT.out]; exact hST))
            clear hST
            have hZ1 := B1.out.2
            go_wp2_with fail
            refine (KS.out _).mono ?_
            rintro x w2 ⟨rfl, rfl⟩
            go_wp2_with (refine wpList_store_row rfl 64 _ _ rfl w.heap.size #[.int .u8 0, .int .u64 0, .int .u32 0, .string ⟨#[]⟩] rfl rfl 64 _ hZ1 hi rfl ho ?_)
            exact bodyPost_ret (Cel.end_cell rfl _ _ _ _ _ hZ1 rfl Tryd.underlying64 rfl hi) rfl ⟨by rw [E.out]; rfl, below_setRow B1.out.1 (Nat.le_refl _) _⟩
  · have c1 : ((s.size : Int) != 128) = true := by simp; omega
    have c1' : (s.size != 128) = true := by simp [h1]
    have E := Aside0.mk (openS_len h1)
    go_enter Tryd.func47, Tryd.ntmps47
    go_wp2_with (refine wpList_store_row rfl 64 _ _ rfl w.heap.size #[.int .u8 0, .int .u64 0, .int .u32 0, .string ⟨#[]⟩] rfl rfl 64 _ hz hi rfl ho ?_)
    exact bodyPost_ret (Cel.end_cell rfl _ _ _ _ _ hz rfl Tryd.underlying64 rfl hi) rfl ⟨by rw [E.out]; rfl, below_setRow ((Below.refl _ _).alloc (Nat.le_refl _) _) (Nat.le_refl _) _⟩
end Go.Proofs.YtknbhgodhmcemaaDoor.Sl
namespace Go.Proofs.YtknbhgodhmcemaaDoor.Sl
set_option linter.unusedSimpArgs false
set_option linter.unusedVariables false
set_option maxRecDepth 100000
open Go.RowKit
theorem infoQ : (Tryd.prog.info? 119).map (·.size) = some 4 := by kernel_rfl
theorem val_low (s : ByteArray) (h : 127 < s.size) : val [s[127]'h, s[126]'(by omega), s[125]'(by omega), s[124]'(by omega)] = low s.data.toList 124 4 := by
  have e0 := at_getD s 124 (by omega)
  have e1 := at_getD s 125 (by omega)
  have e2 := at_getD s 126 (by omega)
  have e3 := at_getD s 127 (by omega)
  simp only [val, low, List.foldl_cons, List.foldl_nil, e0, show 124 + 0 = 124 by rfl, show 124 + 1 = 125 by rfl, show 124 + 2 = 126 by rfl, show 124 + 3 = 127 by rfl, e1, e2, e3]
  omega
theorem rblank2_calls (s : ByteArray) (V : World) (hs : s.size ≤ 9223372036854775807) :
    Calls Tryd.prog 89 #[.string s] V fun e w' => e = .returned (.bool (blankB s.data.toList)) ∧ (w' = V ∨ w' = V.drew) := by
  refine (rblank_calls s V hs).mono ?_
  rintro e w' ⟨h1, h2⟩
  exact ⟨h1, .inl h2.symm⟩
def QB4 (w : World) (W : World) : Prop := Below w.heap.size w W ∧ ∃ cs : Array Value, W.heap[w.heap.size]? = some (.cells cs 119 (0, 0)) ∧ cs.size = 4
def QB (w : World) (W : World) : Prop := Below w.heap.size w W ∧ W.heap[w.heap.size]? = some (.cells #[.int .u8 0, .int .u64 0, .int .u32 0, .string ⟨#[]⟩] 119 (0, 0))
theorem QB.step {w W W' : World} (h : QB w W) (hb : W' = W ∨ W' = W.drew) : QB w W' := by
  rcases hb with rfl | rfl
  · exact h
  · exact ⟨h.1.drew, h.2⟩
set_option maxHeartbeats 1000000 in
theorem ropen_calls (s : ByteArray) (w : World) (hs : s.size ≤ 1000) :
    Calls Tryd.prog 72 #[.string s] w fun e w' => e = .returned (.tuple #[.agg (recV (openS s).1), .int .i64 (openS s).2]) ∧ Below w.heap.size w w' := by
  have hz := heap_alloc_new w (.cells #[.int .u8 0, .int .u64 0, .int .u32 0, .string ⟨#[]⟩] 119)
  have hi : (Tryd.prog.info? 119).map (·.size) = some (#[.int .u8 0, .int .u64 0, .int .u32 0, .string ⟨#[]⟩] : Array Value).size := infoQ
  have ho : (#[.int .u8 0, .int .u64 0, .int .u32 0, .string ⟨#[]⟩] : Array Value).all (·.oneCell') = true := recV_one .zero
  by_cases h1 : s.size = 128
  · have c1 : ((s.size : Int) != 128) = false := by simp [h1]
    have c1' : (s.size != 128) = false := by simp [h1]
    have KB := Aside0.mk (fun V => rblank2_calls s V (by omega))
    obtain ⟨bl, hbl⟩ : ∃ b, blankB s.data.toList = b := ⟨_, rfl⟩
    rw [hbl] at KB
    have H1 := Aside0.mk h1
    have HBL := Aside0.mk hbl
    have HZ := Aside0.mk (show QB w (w.alloc (.cells #[.int .u8 0, .int .u64 0, .int .u32 0, .string ⟨#[]⟩] 119)) from ⟨(Below.refl _ _).alloc (Nat.le_refl _) _, hz⟩)
    clear h1 hs hbl hz
    go_enter Tryd.func72, Tryd.ntmps72
    go_wp2_with fail
    refine (KB.out _).mono ?_
    rintro x w1 ⟨rfl, hw1⟩
    have B1 := Aside0.mk (HZ.out.step hw1)
    have hZ1 := B1.out.2
    clear hw1 KB HZ
    cases bl with
    | true =>
      have E := Aside0.mk (openS_blank H1.out HBL.out)
      go_wp2_with (refine wpList_store_row rfl 119 _ _ rfl w.heap.size #[.int .u8 0, .int .u64 0, .int .u32 0, .string ⟨#[]⟩] rfl rfl 119 _ hZ1 hi rfl ho ?_)
      exact bodyPost_ret (Cel.end_cell rfl _ _ _ _ _ hZ1 rfl Tryd.underlying119 rfl hi) rfl ⟨by rw [E.out]; rfl, below_setRow B1.out.1 (Nat.le_refl _) _⟩
    | false =>
      have KS := Aside0.mk (fun V => rsum_calls (s.extract 0 124) V (by rw [ByteArray.size_extract]; have := H1.out; omega))
      obtain ⟨S, hS⟩ : ∃ S, sumN (s.extract 0 124).data.toList = S := ⟨_, rfl⟩
      obtain ⟨T, hT⟩ : ∃ T, low s.data.toList 124 4 = T := ⟨_, rfl⟩
      rw [hS] at KS
      have HS := Aside0.mk hS
      have HT := Aside0.mk hT
      have hl : 127 < s.size := by have := H1.out; omega
      have hvl := val_low s hl
      rw [hT] at hvl
      have KV := Aside0.mk (fun V => rvalue_calls ⟨#[s[127]'hl, s[126]'(by omega), s[125]'(by omega), s[124]'(by omega)]⟩ V (by show 4 ≤ 8; omega))
      rw [show val (⟨#[s[127]'hl, s[126]'(by omega), s[125]'(by omega), s[124]'(by omega)]⟩ : ByteArray).data.toList = T from hvl] at KV
      have HVL := Aside0.mk hvl
      have hsz : (s.size : Int) = 128 := by have := H1.out; omega
      have hle : 124 ≤ s.size := by have := H1.out; omega
      clear hS hT hZ1 hvl
      go_wp2_with fail
      obtain ⟨d, hd⟩ : ∃ d, ((T : Int) != (S : Int)) = d := ⟨_, rfl⟩
      refine wp_region_held_drew (S := fun V => QB w V) (by kernel_rfl) ⟨B1.out.1.drew, B1.out.2⟩ (fun hH => ?_)
      refine Cel.take_at (i := 0) (some 12) (.string s) rfl rfl (by kernel_rfl) (by kernel_rfl) (by kernel_rfl) (fun _ _ _ h => h) (Or.inl ⟨by rfl, fun w hSw => by go_simp⟩) hH ?_
      refine Cel.take_at (i := 1) (some 13) (.int .u8 ((s[127]'hl).toNat : Nat)) rfl rfl (by kernel_rfl) (by kernel_rfl) (by kernel_rfl) (fun _ _ _ h => h) (Or.inl ⟨by rfl, fun w hSw => by go_simp⟩) hH ?_
      try simp only [Act.put, List.setIfInBounds_toArray, List.set_cons_zero, List.set_cons_succ]
      refine Cel.take_at (i := 2) (some 14) (.string s) rfl rfl (by kernel_rfl) (by kernel_rfl) (by kernel_rfl) (fun _ _ _ h => h) (Or.inl ⟨by rfl, fun w hSw => by go_simp⟩) hH ?_
      refine Cel.take_at (i := 3) (some 15) (.int .u8 ((s[126]'(by omega)).toNat : Nat)) rfl rfl (by kernel_rfl) (by kernel_rfl) (by kernel_rfl) (fun _ _ _ h => h) (Or.inl ⟨by rfl, fun w hSw => by go_simp⟩) hH ?_
      try simp only [Act.put, List.setIfInBounds_toArray, List.set_cons_zero, List.set_cons_succ]
      refine Cel.take_at (i := 4) (some 16) (.string s) rfl rfl (by kernel_rfl) (by kernel_rfl) (by kernel_rfl) (fun _ _ _ h => h) (Or.inl ⟨by rfl, fun w hSw => by go_simp⟩) hH ?_
      refine Cel.take_at (i := 5) (some 17) (.int .u8 ((s[125]'(by omega)).toNat : Nat)) rfl rfl (by kernel_rfl) (by kernel_rfl) (by kernel_rfl) (fun _ _ _ h => h) (Or.inl ⟨by rfl, fun w hSw => by go_simp⟩) hH ?_
      try simp only [Act.put, List.setIfInBounds_toArray, List.set_cons_zero, List.set_cons_succ]
      refine Cel.take_at (i := 6) (some 18) (.string s) rfl rfl (by kernel_rfl) (by kernel_rfl) (by kernel_rfl) (fun _ _ _ h => h) (Or.inl ⟨by rfl, fun w hSw => by go_simp⟩) hH ?_
      refine Cel.take_at (i := 7) (some 19) (.int .u8 ((s[124]'(by omega)).toNat : Nat)) rfl rfl (by kernel_rfl) (by kernel_rfl) (by kernel_rfl) (fun _ _ _ h => h) (Or.inl ⟨by rfl, fun w hSw => by go_simp⟩) hH ?_
      try simp only [Act.put, List.setIfInBounds_toArray, List.set_cons_zero, List.set_cons_succ]
      refine Cel.take_at (i := 11) (some 23) (.string s) rfl rfl (by kernel_rfl) (by kernel_rfl) (by kernel_rfl) (fun _ _ _ h => h) (Or.inl ⟨by rfl, fun w hSw => by go_simp⟩) hH ?_
      refine Cel.take_at (i := 12) (some 24) (.string (s.extract 0 124)) rfl rfl (by kernel_rfl) (by kernel_rfl) (by kernel_rfl) (fun _ _ _ h => h) (Or.inl ⟨by rfl, fun w hSw => by go_simp⟩) hH ?_
      try simp only [Act.put, List.setIfInBounds_toArray, List.set_cons_zero, List.set_cons_succ]
      generalize w1.drew = V0 at hH ⊢
      try simp only [Act.put, List.setIfInBounds_toArray, List.set_cons_zero, List.set_cons_succ]
      refine wpAnyH_ready (rs := [8]) (by kernel_rfl) (by simp) (AllReadyH.cons rfl (fun K hK => ?_) AllReadyH.nil)
      go_simp
      have hnew := heap_alloc_new V0 (.cells #[.int .u8 ((s[127]'hl).toNat : Nat), .int .u8 ((s[126]'(by omega)).toNat : Nat), .int .u8 ((s[125]'(by omega)).toNat : Nat), .int .u8 ((s[124]'(by omega)).toNat : Nat)] 5)
      have hQ : QB w (V0.alloc (.cells #[.int .u8 ((s[127]'hl).toNat : Nat), .int .u8 ((s[126]'(by omega)).toNat : Nat), .int .u8 ((s[125]'(by omega)).toNat : Nat), .int .u8 ((s[124]'(by omega)).toNat : Nat)] 5)) := ⟨hH.1.alloc hH.1.size _, (heap_alloc_old _ _ (Array.getElem?_eq_some_iff.1 hH.2).1).trans hH.2⟩
      obtain ⟨q, hq⟩ : ∃ q, V0.heap.size = q := ⟨_, rfl⟩
      rw [hq] at hnew ⊢
      generalize V0.alloc (.cells #[.int .u8 ((s[127]'hl).toNat : Nat), .int .u8 ((s[126]'(by omega)).toNat : Nat), .int .u8 ((s[125]'(by omega)).toNat : Nat), .int .u8 ((s[124]'(by omega)).toNat : Nat)] 5) = V1 at hnew hQ ⊢
      refine hK.out _ _ hQ (fun hH => ?_)
      clear hK K hQ hq
      try simp only [Act.put, List.setIfInBounds_toArray, List.set_cons_zero, List.set_cons_succ]
      have hcv : ∀ j (hj : j < 4), V1.cell? ((⟨q, 0, none⟩ : Addr).add j) = some (.int .u8 (([s[127]'hl, s[126]'(by omega), s[125]'(by omega), s[124]'(by omega)][j]'hj).toNat : Nat)) := by
        intro j hj
        have hj' : j = 0 ∨ j = 1 ∨ j = 2 ∨ j = 3 := by omega
        rcases hj' with rfl | rfl | rfl | rfl <;> exact (cell_of_row V1 q _ _ _ _ hnew).trans rfl
      have hconv : (convert 103 9 (.slice (some (⟨q, 0, none⟩ : Addr)) 4 4)).run Tryd.prog V1 = .ok (.string ⟨#[s[127]'hl, s[126]'(by omega), s[125]'(by omega), s[124]'(by omega)]⟩) V1 := run_convert_bytes_back (P := Tryd.prog) V1 103 9 5 (⟨q, 0, none⟩ : Addr) 4 [s[127]'hl, s[126]'(by omega), s[125]'(by omega), s[124]'(by omega)] rfl rfl rfl hcv
      clear hcv hnew
      refine wpAnyH_ready (rs := [9]) (by kernel_rfl) (by simp) (AllReadyH.cons rfl (fun K hK => ?_) AllReadyH.nil)
      go_simp
      refine hK.out _ _ hH (fun hH => ?_)
      clear hK K hconv
      try simp only [Act.put, List.setIfInBounds_toArray, List.set_cons_zero, List.set_cons_succ]
      refine wpAnyH_ready (rs := [10]) (by kernel_rfl) (by simp) (AllReadyH.cons rfl (fun K hK => ?_) AllReadyH.nil)
      go_simp
      refine (KV.out _).mono ?_
      rintro x v4 ⟨rfl, rfl⟩
      refine hK.out _ _ hH (fun hH => ?_)
      clear hK K
      try simp only [Act.put, List.setIfInBounds_toArray, List.set_cons_zero, List.set_cons_succ]
      refine wpAnyH_ready (rs := [13]) (by kernel_rfl) (by simp) (AllReadyH.cons rfl (fun K hK => ?_) AllReadyH.nil)
      go_simp
      refine (KS.out _).mono ?_
      rintro x v4 ⟨rfl, rfl⟩
      refine hK.out _ _ hH (fun hH => ?_)
      clear hK K
      try simp only [Act.put, List.setIfInBounds_toArray, List.set_cons_zero, List.set_cons_succ]
      refine Cel.take_at (i := 14) (some 26) (.bool d) rfl rfl (by kernel_rfl) (by kernel_rfl) (by kernel_rfl) (fun _ _ _ h => h) (Or.inl ⟨by rfl, fun w hSw => by go_simp⟩) hH ?_
      have B1 := Aside0.mk hH
      clear hH
      refine wpAnyH_done (by kernel_rfl) ?_ _
      try simp only [Act.put, List.setIfInBounds_toArray, List.set_cons_zero, List.set_cons_succ]
      by_cases hST : S = T
      · subst hST
        have hd0 : d = false := by rw [← hd]; simp
        subst hd0
        clear hd
        have hST : sumN (s.extract 0 124).data.toList = low s.data.toList 124 4 := by rw [HS.out, HT.out]
        have hl0 : 0 < s.size := by omega
        have hl13 : 13 < s.size := by omega
        have hn8 := (s[13]'hl13).toNat_lt
        have hat := at_getD s 13 hl13
        obtain ⟨n, hn⟩ : ∃ n, (s[13]'hl13).toNat = n := ⟨_, rfl⟩
        rw [hn] at hn8
        have HST := Aside0.mk hST
        have HAT := Aside0.mk (show (s.data.toList.getD 13 0).toNat = n by rw [hat, hn])
        have HN := Aside0.mk hn
        clear hST hat hn
        by_cases hn1 : 110 < n
        · have t2 : decide (110 < (n : Int)) = true := decide_eq_true (by omega)
          have t3 : decide (110 < n) = true := decide_eq_true hn1
          have E := Aside0.mk (openS_form H1.out HBL.out HST.out (.inl (by rw [HAT.out]; exact hn1)))
          have hZ1 := B1.out.2
          have hn := HN.out
          go_wp2_with (refine wpList_store_row rfl 119 _ _ rfl w.heap.size #[.int .u8 0, .int .u64 0, .int .u32 0, .string ⟨#[]⟩] rfl rfl 119 _ hZ1 hi rfl ho ?_)
          exact bodyPost_ret (Cel.end_cell rfl _ _ _ _ _ hZ1 rfl Tryd.underlying119 rfl hi) rfl ⟨by rw [E.out]; rfl, below_setRow B1.out.1 (Nat.le_refl _) _⟩
        · have t2 : decide (110 < (n : Int)) = false := decide_eq_false (by omega)
          have t3 : decide (110 < n) = false := decide_eq_false hn1
          have hn2 : 14 + n ≤ 124 := by omega
          have hn3 : (14 : Int) + (n : Int) ≤ 124 := by omega
          have K2 := Aside0.mk (fun V => rblank2_calls (s.extract (14 + n) 124) V (by rw [ByteArray.size_extract]; omega))
          obtain ⟨b2, hb2⟩ : ∃ b, blankB (s.extract (14 + n) 124).data.toList = b := ⟨_, rfl⟩
          rw [hb2] at K2
          have HB2 := Aside0.mk hb2
          clear hb2
          have hn := HN.out
          have hslice : ∀ W : World, (Instr.slice 9 (.string s) (some (.int .i64 (14 + (n : Int)))) (some (.int .i64 124)) none).run Tryd.prog W = .ok (.string (s.extract (14 + n) 124)) W := fun W => by
            have := run_slice_string (P := Tryd.prog) 9 s .i64 .i64 (14 + (n : Int)) 124 Tryd.underlying9 (by omega) (by omega) (by omega) (w := W)
            rw [show (14 + (n : Int)).toNat = 14 + n by omega] at this
            exact this
          go_wp2_with fail
          refine (K2.out _).mono ?_
          rintro x w2 ⟨rfl, hw2⟩
          have B2 := Aside0.mk (B1.out.step hw2)
          have hZ1 := B2.out.2
          clear hw2 B1 K2
          cases b2 with
          | false =>
            have E := Aside0.mk (openS_form H1.out HBL.out HST.out (.inr (by rw [HAT.out]; exact HB2.out)))
            go_wp2_with (refine wpList_store_row rfl 119 _ _ rfl w.heap.size #[.int .u8 0, .int .u64 0, .int .u32 0, .string ⟨#[]⟩] rfl rfl 119 _ hZ1 hi rfl ho ?_)
            exact bodyPost_ret (Cel.end_cell rfl _ _ _ _ _ hZ1 rfl Tryd.underlying119 rfl hi) rfl ⟨by rw [E.out]; rfl, below_setRow B2.out.1 (Nat.le_refl _) _⟩
          | true =>
            have E := Aside0.mk (openS_ok H1.out HBL.out HST.out (by rw [HAT.out]; omega) (by rw [HAT.out]; exact HB2.out))
            rw [HAT.out, at_getD s 0 hl0] at E
            have KG := Aside0.mk (fun V => rvalue_calls (s.extract 1 9) V (by rw [ByteArray.size_extract]; omega))
            have KI := Aside0.mk (fun V => rvalue_calls (s.extract 9 13) V (by rw [ByteArray.size_extract]; omega))
            have hi0 := val_lt (s.extract 9 13).data.toList
            obtain ⟨g0, hg0⟩ : ∃ g, val (s.extract 1 9).data.toList = g := ⟨_, rfl⟩
            obtain ⟨i0, hi0'⟩ : ∃ g, val (s.extract 9 13).data.toList = g := ⟨_, rfl⟩
            rw [hg0] at KG E
            rw [hi0'] at KI E hi0
            have hi1 : i0 < 4294967296 := Nat.lt_of_lt_of_le hi0 (by
              have : (s.extract 9 13).data.toList.length ≤ 4 := by rw [Array.length_toList]; show (s.extract 9 13).size ≤ 4; rw [ByteArray.size_extract]; omega
              exact Nat.pow_le_pow_right (by omega) this)
            have e5 : (i0 : Int) % 4294967296 = (i0 : Int) := by omega
            have hn4 : 14 + n ≤ s.size := by omega
            clear hg0 hi0 hi0' hi1 hn
            go_wp2_with fail
            clear hslice
            have hwrap : IntKind.i64.wrap (14 + (n : Int)) = 14 + (n : Int) := by rw [IntKind.wrap_i64]; omega
            have hwrap2 : IntKind.u32.wrap (i0 : Int) = (i0 : Int) := by rw [IntKind.wrap_u32]; omega
            have hslice2 : ∀ W : World, (Instr.slice 9 (.string s) (some (.int .i64 14)) (some (.int .i64 (14 + (n : Int)))) none).run Tryd.prog W = .ok (.string (s.extract 14 (14 + n))) W := fun W => by
              have := run_slice_string (P := Tryd.prog) 9 s .i64 .i64 14 (14 + (n : Int)) Tryd.underlying9 (by omega) (by omega) (by omega) (w := W)
              rw [show (14 + (n : Int)).toNat = 14 + n by omega] at this
              exact this
            refine wp_region_held_drew (S := fun V => QB4 w V) (by kernel_rfl) ⟨B2.out.1.drew, _, hZ1, rfl⟩ (fun hH => ?_)
            refine Cel.take_at (i := 0) (some 42) (.string s) rfl rfl (by kernel_rfl) (by kernel_rfl) (by kernel_rfl) (fun _ _ _ h => h) (Or.inl ⟨by rfl, fun w hSw => by go_simp⟩) hH ?_
            refine Cel.take_at (i := 1) (some 43) (.int .u8 ((s[0]'hl0).toNat : Nat)) rfl rfl (by kernel_rfl) (by kernel_rfl) (by kernel_rfl) (fun _ _ _ h => h) (Or.inl ⟨by rfl, fun w hSw => by go_simp⟩) hH ?_
            try simp only [Act.put, List.setIfInBounds_toArray, List.set_cons_zero, List.set_cons_succ]
            refine Cel.take_at (i := 2) (some 44) (.string s) rfl rfl (by kernel_rfl) (by kernel_rfl) (by kernel_rfl) (fun _ _ _ h => h) (Or.inl ⟨by rfl, fun w hSw => by go_simp⟩) hH ?_
            refine Cel.take_at (i := 3) (some 45) (.string (s.extract 1 9)) rfl rfl (by kernel_rfl) (by kernel_rfl) (by kernel_rfl) (fun _ _ _ h => h) (Or.inl ⟨by rfl, fun w hSw => by go_simp⟩) hH ?_
            try simp only [Act.put, List.setIfInBounds_toArray, List.set_cons_zero, List.set_cons_succ]
            refine Cel.take_at (i := 5) (some 47) (.string s) rfl rfl (by kernel_rfl) (by kernel_rfl) (by kernel_rfl) (fun _ _ _ h => h) (Or.inl ⟨by rfl, fun w hSw => by go_simp⟩) hH ?_
            refine Cel.take_at (i := 6) (some 48) (.string (s.extract 9 13)) rfl rfl (by kernel_rfl) (by kernel_rfl) (by kernel_rfl) (fun _ _ _ h => h) (Or.inl ⟨by rfl, fun w hSw => by go_simp⟩) hH ?_
            try simp only [Act.put, List.setIfInBounds_toArray, List.set_cons_zero, List.set_cons_succ]
            refine Cel.take_at (i := 9) (some 51) (.string s) rfl rfl (by kernel_rfl) (by kernel_rfl) (by kernel_rfl) (fun _ _ _ h => h) (Or.inl ⟨by rfl, fun w hSw => by go_simp⟩) hH ?_
            refine Cel.take_at (i := 10) (some 52) (.int .i64 (n : Int)) rfl rfl (by kernel_rfl) (by kernel_rfl) (by kernel_rfl) (fun _ _ _ h => h) (Or.inl ⟨by rfl, fun w hSw => by go_simp⟩) hH ?_
            try simp only [Act.put, List.setIfInBounds_toArray, List.set_cons_zero, List.set_cons_succ]
            refine Cel.take_at (i := 11) (some 53) (.int .i64 (14 + (n : Int))) rfl rfl (by kernel_rfl) (by kernel_rfl) (by kernel_rfl) (fun _ _ _ h => h) (Or.inl ⟨by rfl, fun w hSw => by go_simp⟩) hH ?_
            refine Cel.take_at (i := 12) (some 54) (.string (s.extract 14 (14 + n))) rfl rfl (by kernel_rfl) (by kernel_rfl) (by kernel_rfl) (fun _ _ _ h => h) (Or.inl ⟨by rfl, fun w hSw => by go_simp⟩) hH ?_
            try simp only [Act.put, List.setIfInBounds_toArray, List.set_cons_zero, List.set_cons_succ]
            generalize w2.drew = V0 at hH ⊢
            try simp only [Act.put, List.setIfInBounds_toArray, List.set_cons_zero, List.set_cons_succ]
            refine wpAnyH_ready (rs := [4]) (by kernel_rfl) (by simp) (AllReadyH.cons rfl (fun K hK => ?_) AllReadyH.nil)
            go_simp
            refine (KG.out _).mono ?_
            rintro x v4 ⟨rfl, rfl⟩
            refine hK.out _ _ hH (fun hH => ?_)
            clear hK K
            try simp only [Act.put, List.setIfInBounds_toArray, List.set_cons_zero, List.set_cons_succ]
            refine wpAnyH_ready (rs := [7]) (by kernel_rfl) (by simp) (AllReadyH.cons rfl (fun K hK => ?_) AllReadyH.nil)
            go_simp
            refine (KI.out _).mono ?_
            rintro x v7 ⟨rfl, rfl⟩
            refine hK.out _ _ hH (fun hH => ?_)
            clear hK K
            try simp only [Act.put, List.setIfInBounds_toArray, List.set_cons_zero, List.set_cons_succ]
            refine Cel.take_at (i := 8) (some 50) (.int .u32 (i0 : Nat)) rfl rfl (by kernel_rfl) (by kernel_rfl) (by kernel_rfl) (fun _ _ _ h => h) (Or.inl ⟨by rfl, fun w hSw => by go_simp⟩) hH ?_
            try simp only [Act.put, List.setIfInBounds_toArray, List.set_cons_zero, List.set_cons_succ]
            refine Cel.take_at (i := 13) (some 55) (.agg #[.int .u8 ((s[0]'hl0).toNat : Nat), .int .u64 (g0 : Nat), .int .u32 (i0 : Nat), .string (s.extract 14 (14 + n))]) rfl rfl (by kernel_rfl) (by kernel_rfl) (by kernel_rfl) (fun _ _ _ h => h) (Or.inl ⟨by rfl, fun w hSw => by go_simp⟩) hH ?_
            try simp only [Act.put, List.setIfInBounds_toArray, List.set_cons_zero, List.set_cons_succ]
            obtain ⟨hb0, cs0, hc0, hl0'⟩ := hH
            have hif : (Tryd.prog.info? 119).map (·.size) = some (#[.int .u8 ((s[0]'hl0).toNat : Nat), .int .u64 (g0 : Nat), .int .u32 (i0 : Nat), .string (s.extract 14 (14 + n))] : Array Value).size := infoQ
            have hof : (#[.int .u8 ((s[0]'hl0).toNat : Nat), .int .u64 (g0 : Nat), .int .u32 (i0 : Nat), .string (s.extract 14 (14 + n))] : Array Value).all (·.oneCell') = true := recV_one ⟨(s[0]'hl0).toNat, g0, i0, s.extract 14 (14 + n)⟩
            refine wpAnyH_ready (rs := [14]) (by kernel_rfl) (by simp) (AllReadyH.cons rfl (fun K hK => ?_) AllReadyH.nil)
            rw [if_pos (by rfl)]
            refine Cel.wp_store_none rfl 119 (.tmp 2) (.tmp 55) rfl w.heap.size _ rfl rfl 119 _ hc0 hif hl0' hof ?_
            have hR := setRow_heap V0 w.heap.size _ #[.int .u8 ((s[0]'hl0).toNat : Nat), .int .u64 (g0 : Nat), .int .u32 (i0 : Nat), .string (s.extract 14 (14 + n))] 119 (0, 0) hc0
            have hbz := below_setRow hb0 (Nat.le_refl _) #[.int .u8 ((s[0]'hl0).toNat : Nat), .int .u64 (g0 : Nat), .int .u32 (i0 : Nat), .string (s.extract 14 (14 + n))]
            refine hK.out _ _ ⟨hbz, _, hR, rfl⟩ (fun hH => ?_)
            clear hK K
            try simp only [Act.put, List.setIfInBounds_toArray, List.set_cons_zero, List.set_cons_succ]
            refine Cel.take_at (i := 15) (some 3) (.int .i64 0) rfl rfl (by kernel_rfl) (by kernel_rfl) (by kernel_rfl) (fun _ _ _ h => h) (Or.inl ⟨by rfl, fun w hSw => by go_simp⟩) hH ?_
            refine wpAnyH_done (by kernel_rfl) ?_ _
            try simp only [Act.put, List.setIfInBounds_toArray, List.set_cons_zero, List.set_cons_succ]
            have HR := Aside0.mk hc0
            have HBZ := Aside0.mk hbz
            clear hH hR hbz hb0
            go_wp2
            exact bodyPost_ret (Cel.end_cell rfl _ _ _ _ _ HR.out rfl Tryd.underlying119 rfl hif) rfl ⟨by rw [E.out]; rfl, HBZ.out⟩
      · have hd0 : d = true := by rw [← hd]; simp; omega
        subst hd0
        clear hd
        have E := Aside0.mk (openS_sum H1.out HBL.out (by rw [HS.out, HT.out]; exact hST))
        clear hST
        have hZ1 := B1.out.2
        go_wp2_with (refine wpList_store_row rfl 119 _ _ rfl w.heap.size #[.int .u8 0, .int .u64 0, .int .u32 0, .string ⟨#[]⟩] rfl rfl 119 _ hZ1 hi rfl ho ?_)
        exact bodyPost_ret (Cel.end_cell rfl _ _ _ _ _ hZ1 rfl Tryd.underlying119 rfl hi) rfl ⟨by rw [E.out]; rfl, below_setRow B1.out.1 (Nat.le_refl _) _⟩
  · have c1 : ((s.size : Int) != 128) = true := by simp; omega
    have c1' : (s.size != 128) = true := by simp [h1]
    have E := Aside0.mk (openS_len h1)
    go_enter Tryd.func72, Tryd.ntmps72
    go_wp2_with (refine wpList_store_row rfl 119 _ _ rfl w.heap.size #[.int .u8 0, .int .u64 0, .int .u32 0, .string ⟨#[]⟩] rfl rfl 119 _ hz hi rfl ho ?_)
    exact bodyPost_ret (Cel.end_cell rfl _ _ _ _ _ hz rfl Tryd.underlying119 rfl hi) rfl ⟨by rw [E.out]; rfl, below_setRow ((Below.refl _ _).alloc (Nat.le_refl _) _) (Nat.le_refl _) _⟩
end Go.Proofs.YtknbhgodhmcemaaDoor.Sl
namespace Go.Proofs.YtknbhgodhmcemaaDoor.Sl
set_option linter.unusedSimpArgs false
set_option maxRecDepth 100000
open Go.RowKit
theorem keep {W W' : World} {b : Nat} {o : Obj} (h : W.heap[b]? = some o) (hb : Below W.heap.size W W') : W'.heap[b]? = some o :=
  (hb.block _ (Array.getElem?_eq_some_iff.1 h).1).trans h
theorem keep_alloc {W : World} {b : Nat} {o q : Obj} (h : W.heap[b]? = some o) : (W.alloc q).heap[b]? = some o := keep h ((Below.refl _ _).alloc (Nat.le_refl _) _)
end Go.Proofs.YtknbhgodhmcemaaDoor.Sl
namespace Go.Proofs.YtknbhgodhmcemaaDoor.Sl
set_option linter.unusedSimpArgs false
set_option linter.unusedVariables false
set_option maxRecDepth 100000
open Go.RowKit
theorem bw_cons (v n : Nat) : ∀ d, bw v (n + 1) (d + 1) = UInt8.ofNat (v / 256 ^ n) :: bw v n d
  | 0 => by simp [bw]
  | d + 1 => by
    rw [bw, bw_cons v n d, bw, List.cons_append, show n + 1 - 1 - (d + 1) = n - 1 - d by omega]
theorem be_cons (v d : Nat) : be v (d + 1) = UInt8.ofNat (v / 256 ^ d) :: be v d := bw_cons v d d
def dg (v n d : Nat) : List UInt8 := List.replicate (n - d) 0 ++ be v d
theorem dg_len (v n d : Nat) (h : d ≤ n) : (dg v n d).length = n := by rw [dg, List.length_append, List.length_replicate, be_len]; omega
theorem set_last {α : Type} (l : List α) (x : List α) (y : α) (r : List α) (k : Nat) (hx : x.length = 1) (h : k = l.length) : ((l ++ x) ++ r).set k y = l ++ y :: r := by
  subst h
  obtain ⟨z, rfl⟩ := List.length_eq_one_iff.1 hx
  rw [List.append_assoc, List.set_append_right _ _ (Nat.le_refl _), Nat.sub_self]; rfl
theorem dg_step (v n d k : Nat) (h : k + d + 1 = n) : (Lib.byteCells (dg v n d)).set k (.int .u8 ((UInt8.ofNat (v / 256 ^ d)).toNat : Nat)) = Lib.byteCells (dg v n (d + 1)) := by
  have e : n - d = k + 1 := by omega
  have e2 : n - (d + 1) = k := by omega
  rw [dg, dg, e, e2, be_cons, List.replicate_succ', Lib.byteCells_append, Lib.byteCells_append, Lib.byteCells_append]
  rw [set_last _ _ _ _ k rfl (by simp [Lib.byteCells])]
  simp [Lib.byteCells]
theorem info8 : (Tryd.prog.info? 5).map (fun i => (i.zero, i.size, i.bytes)) = some (some (.int .u8 0), 1, 1) := by kernel_rfl
theorem digits_calls (v n : Nat) (hn : n ≤ 8) (hv : v < 18446744073709551616) (w : World) :
    Calls Tryd.prog 87 #[.int .u64 (v : Nat), .int .i64 (n : Nat)] w fun e w' => e = .returned (.slice (some ⟨w.heap.size, 0, none⟩) n n) ∧
      w'.ownsRow w.heap.size 5 1 (.slice (some ⟨w.heap.size, 0, none⟩) n n) n (Lib.byteCells (be v n)) ∧ Below w.heap.size w w' := by
  obtain ⟨i0, hi, hz0, hz1, hz2⟩ := info_parts info8
  obtain ⟨w1, hm, ho, hg⟩ := run_makeSlice_full (P := Tryd.prog) w w.heap.size 103 5 i0 (.int .u8 0) 1 Tryd.underlying103 hi hz0 hz1 .i64 .i64 n (by omega) (by rw [hz2]; omega) (by unfold maxLen; omega) (Nat.le_refl _)
  have ho' : w1.ownsRow w.heap.size 5 1 (.slice (some ⟨w.heap.size, 0, none⟩) n n) n (Lib.byteCells (dg v n 0)) := by
    rw [show Lib.byteCells (dg v n 0) = (madeCells (Value.int .u8 0).cells (n * 1)).toList by
      show _ = (madeCells #[.int .u8 0] (n * 1)).toList
      rw [toList_madeCells_one, Nat.mul_one]; simp [dg, be, bw, Lib.byteCells]]
    exact ho
  have hb : Below w.heap.size w w1 := (Below.refl _ _).grown hg (Nat.le_refl _) (fun k h => by cases h)
  obtain ⟨b, hbz⟩ : ∃ b, w.heap.size = b := ⟨_, rfl⟩
  rw [hbz] at ho' hm hb ⊢
  have H1 := Aside0.mk (And.intro ho' hb)
  clear ho ho' hg hb
  go_enter Tryd.func87, Tryd.ntmps87
  go_wp2_with fail
  clear hm
  go_loopw [0, 6] (fun vv i W => ∃ (x : Int) (d : Nat), vv = .int .u64 ((v / 256 ^ d : Nat) : Int) ∧ i = .int .i64 x ∧ -1 ≤ x ∧ x + d = (n : Int) - 1 ∧ Aside0 (W.ownsRow b 5 1 (.slice (some ⟨b, 0, none⟩) n n) n (Lib.byteCells (dg v n d)) ∧ Below b w W)) (fun _ i _ => (intOf i + 1).toNat)
  case atStart => exact ⟨(n : Int) - 1, 0, by simp, by first | rfl | simp, by omega, by omega, H1⟩
  case round =>
    obtain ⟨x, d, rfl, rfl, hx0, hxd, HS⟩ := hrel
    clear H1
    by_cases hlt : 0 ≤ x
    · obtain ⟨X, rfl⟩ := Int.eq_ofNat_of_zero_le hlt
      have hX : (X : Int) < n := by omega
      have hXd : X + d + 1 = n := by omega
      have hXn : X < n := by omega
      obtain ⟨q, hq⟩ : ∃ q, v / 256 ^ d = q := ⟨_, rfl⟩
      have hq1 : v / 256 ^ (d + 1) = q / 256 := by rw [Nat.pow_succ, ← Nat.div_div_eq_div_mul, hq]
      have hql : q < 18446744073709551616 := by rw [← hq]; exact Nat.lt_of_le_of_lt (Nat.div_le_self _ _) hv
      obtain ⟨u, hu⟩ : ∃ u, wr.cell? ⟨b, X, none⟩ = some u := by
        have := HS.out.1.cellAt X (by omega)
        rw [List.getElem?_eq_getElem (by rw [Lib.byteCells_length, dg_len v n d (by omega)]; exact hXn)] at this
        exact ⟨_, this⟩
      have hfz := HS.out.1.frozenAt X
      have hst := HS.out.1.stored X (.int .u8 ((UInt8.ofNat q).toNat : Nat))
      rw [← hq, dg_step v n d X hXd, hq] at hst
      have H2 := Aside0.mk (And.intro hst.1 (HS.out.2.setCell (Nat.le_refl b) (.int .u8 ((UInt8.ofNat q).toNat : Nat)) (p := ⟨b, X, none⟩)))
      have e1 : ((UInt8.ofNat q).toNat : Int) = (q : Int) % 256 := by simp [UInt8.toNat_ofNat]
      rw [e1] at H2
      rw [hq]
      have HQ := Aside0.mk hq1
      clear hst hq hq1 e1 hlt hxd hx0
      go_wp2
      go_roundw
      case rel =>
        exact ⟨(X : Int) - 1, d + 1, by rw [HQ.out]; rfl, rfl, by omega, by omega, H2⟩
      case measure => simp [intOf]
    · obtain rfl : x = -1 := by omega
      obtain rfl : d = n := by omega
      have e : dg v d d = be v d := by simp [dg]
      rw [e] at HS
      have HX := Aside0.mk HS.out
      clear HS
      go_wp2
      go_ret
      exact ⟨rfl, HX.out⟩
theorem digits2_calls (v n : Nat) (hn : n ≤ 8) (hv : v < 18446744073709551616) (w : World) :
    Calls Tryd.prog 87 #[.int .u64 (v : Nat), .int .i64 (n : Nat)] w fun e w' => ∃ q, e = .returned (.slice (some ⟨q, 0, none⟩) n n) ∧
      w'.ownsRow w.heap.size 5 1 (.slice (some ⟨q, 0, none⟩) n n) n (Lib.byteCells (be v n)) ∧ Below w.heap.size w w' :=
  (digits_calls v n hn hv w).mono fun _ _ h => ⟨_, h⟩
end Go.Proofs.YtknbhgodhmcemaaDoor.Sl
namespace Go.Proofs.YtknbhgodhmcemaaDoor.Sl
set_option linter.unusedSimpArgs false
set_option linter.unusedVariables false
set_option maxRecDepth 100000
open Go.RowKit
theorem grown_of_below {W W' : World} (h : Below W.heap.size W W') : W.grownBy W' none := ⟨h.os, h.tape, h.output, h.size, fun k hk _ => h.block k hk⟩
theorem owns_keep {W W' : World} {base : Nat} {e : TypeId} {sz n : Nat} {v : Value} {xs : List Value} (h : W.ownsRow base e sz v n xs) (hb : Below W.heap.size W W') : W'.ownsRow base e sz v n xs :=
  h.kept (grown_of_below hb) (by cases v.ownBlock <;> simp)
theorem owns_base {W : World} {base : Nat} {e : TypeId} {sz n : Nat} {v : Value} {xs : List Value} (h : W.ownsRow base e sz v n xs) : ∀ k, v.ownBlock = some k → base ≤ k ∧ k < W.heap.size := h.lt
theorem owns_slice {W : World} {base : Nat} {e : TypeId} {sz n : Nat} {v : Value} {xs : List Value} (h : W.ownsRow base e sz v n xs) : ∃ A c, v = .slice A n c := by
  rcases h.2 with ⟨rfl, rfl⟩ | ⟨g, cap, cur, rfl, _⟩
  · exact ⟨_, _, rfl⟩
  · exact ⟨_, _, rfl⟩
theorem byteCells_one' (l : List UInt8) : ∀ v ∈ Lib.byteCells l, v.oneCell' = true := by
  intro v hv
  simp only [Lib.byteCells, List.mem_map] at hv
  obtain ⟨b, _, rfl⟩ := hv
  rfl
def QC (w : World) (x : Array Value) (v : Value) (l : List UInt8) (W : World) : Prop :=
  Below w.heap.size w W ∧ W.heap[w.heap.size]? = some (.cells x 119 (0, 0)) ∧ W.ownsRow (w.heap.size + 1) 5 1 v l.length (Lib.byteCells l)
theorem QC.step {w W W' : World} {x : Array Value} {v : Value} {l : List UInt8} (h : QC w x v l W) (hb : Below W.heap.size W W') : QC w x v l W' :=
  ⟨h.1.trans (hb.mono h.1.size), keep h.2.1 hb, owns_keep h.2.2 hb⟩
theorem QC.size {w W : World} {x : Array Value} {v : Value} {l : List UInt8} (h : QC w x v l W) : w.heap.size + 1 ≤ W.heap.size := (Array.getElem?_eq_some_iff.1 h.2.1).1
theorem QC.cell {w W : World} {x : Array Value} {v : Value} {l : List UInt8} (h : QC w x v l W) (j : Nat) : W.cell? ⟨w.heap.size, j, none⟩ = x[j]? := cell_of_row W _ j _ _ _ h.2.1
theorem QC.put {w W W' : World} {x : Array Value} {v v' : Value} {l l' : List UInt8} {k : Nat} (h : QC w x v l W) (ho : W'.ownsRow (w.heap.size + 1) 5 1 v' k (Lib.byteCells l ++ Lib.byteCells l')) (hk : k = l.length + l'.length)
    (hg : W.grownBy W' v.ownBlock) : QC w x v' (l ++ l') W' := by
  subst hk
  have hlt := (Array.getElem?_eq_some_iff.1 h.2.1).1
  refine ⟨h.1.grown hg h.1.size (fun k hk => ?_), (hg.block _ hlt (fun e => ?_)).trans h.2.1, ?_⟩
  · have := (owns_base h.2.2 k hk).1; omega
  · have := (owns_base h.2.2 _ e.symm).1; omega
  · rw [List.length_append, Lib.byteCells_append]; exact ho
theorem owns_string {W : World} {base : Nat} {v : Value} {l : List UInt8} (h : W.ownsRow base 5 1 v l.length (Lib.byteCells l)) (hl : l ≠ []) :
    (convert 103 9 v).run Tryd.prog W = .ok (.string ⟨l.toArray⟩) W := by
  rcases h.2 with ⟨rfl, h0⟩ | ⟨g, cap, cur, rfl, _⟩
  · exact absurd (List.length_eq_zero_iff.1 h0) hl
  · refine run_convert_bytes_back (P := Tryd.prog) W 103 9 5 ⟨g, 0, none⟩ cap l rfl rfl rfl (fun j hj => ?_)
    exact h.cells rfl j _ (by simp [Lib.byteCells, List.getElem?_eq_getElem hj])
theorem str_bytes (s : ByteArray) (w : World) : ∃ W c, (convert 9 103 (.string s)).run Tryd.prog w = .ok (.slice (some ⟨w.heap.size, 0, none⟩) s.size c) W ∧ Below w.heap.size w W ∧
    (∀ j u, (Lib.byteCells s.data.toList)[j]? = some u → W.cell? ((⟨w.heap.size, 0, none⟩ : Addr).add j) = some u) := by
  refine ⟨_, _, run_bytes_of_string (P := Tryd.prog) w 9 103 5 s rfl rfl rfl, ((Below.refl _ _).drew).alloc (Nat.le_refl _) _, ?_⟩
  · intro j u hj
    have hlt : j < s.data.size := by
      have := (List.getElem?_eq_some_iff.1 hj).1
      simpa [Lib.byteCells] using this
    have hc := World.cell?_alloc_mark w.drew (bytesRow s (grownCap w s.size 0 5)) 5 ((bytesRow s (grownCap w s.size 0 5)).size, (bytesRow s (grownCap w s.size 0 5)).size + 1) j
    rw [bytesRow_at s _ j hlt] at hc
    have e : u = .int .u8 (s.data[j].toNat : Int) := by
      rw [Lib.byteCells, List.getElem?_map, List.getElem?_eq_getElem (by simpa using hlt), Option.map_some] at hj
      exact (Option.some.inj hj).symm
    subst e
    cases j with
    | zero => exact hc
    | succ j => simpa [Addr.add] using hc
def lenOf : Value → Nat | .slice _ n _ => n | _ => 0
theorem be_one (k : Nat) (h : k < 256) : Lib.byteCells (be k 1) = [.int .u8 (k : Int)] := by
  simp [Lib.byteCells, be, bw, Nat.mod_eq_of_lt h]
set_option maxHeartbeats 2000000 in
theorem rclose_good (k g i : Nat) (d : ByteArray) (w : World) (hk : k < 256) (hg : g < 18446744073709551616) (hi : i < 4294967296) (hd : d.size ≤ 110) :
    Calls Tryd.prog 60 #[.agg (rc k g i d)] w fun e w' => e = .returned (.tuple #[.string ⟨(sector k g i d.data.toList).toArray⟩, .int .i64 0]) ∧ Below w.heap.size w w' := by
  obtain ⟨i0, hi0, hz0, hz1, hz2⟩ := info_parts info8
  have hds : (d.size : Int) ≤ 110 := by omega
  have c1 : decide (110 < (d.size : Int)) = false := decide_eq_false (by omega)
  have c2 : decide (110 < d.size) = false := decide_eq_false (by omega)
  have hz := heap_alloc_new w (.cells (rc k g i d) 119)
  have x0 : (w.alloc (.cells (rc k g i d) 119)).cell? ⟨w.heap.size, 0, none⟩ = some (.int .u8 (k : Int)) := cell_of_row _ _ 0 _ _ _ hz
  have x3 : (w.alloc (.cells (rc k g i d) 119)).cell? ⟨w.heap.size, 3, none⟩ = some (.string d) := cell_of_row _ _ 3 _ _ _ hz
  have x1 : (rc k g i d)[1]? = some (.int .u64 (g : Int)) := rfl
  have HQ := Aside0.mk (show QC w (rc k g i d) (.slice (some ⟨w.heap.size + 1, 0, none⟩) 1 1) (be k 1) ((w.alloc (.cells (rc k g i d) 119)).alloc (.cells #[.int .u8 (k : Int)] 5)) from by
    refine ⟨((Below.refl _ _).alloc (Nat.le_refl _) _).alloc (by simp) _, keep_alloc hz, ?_⟩
    rw [be_one k hk, be_len]
    have := World.ownsRow_lit (base := w.heap.size + 1) (e := 5) (size := 1) (w.alloc (.cells (rc k g i d) 119)) #[.int .u8 (k : Int)] 1 (by simp) (by decide) rfl
    simpa using this)
  go_enter Tryd.func60, Tryd.ntmps60
  go_wp2_with fail
  refine (digits2_calls g 8 (by omega) hg _).mono ?_
  rintro x w1 ⟨q, rfl, ho, hb⟩
  replace HQ := Aside0.mk (HQ.out.step hb)
  clear hb hz x0 x3 x1
  go_wp2_with (at_builtin; go_loud (refine wpList_append_own _ rfl _ _ 103 rfl (w.heap.size + 1) 5 i0 (.int .u8 0) 1 1 Tryd.underlying103 hi0 hz0 hz1 hz2 rfl (by decide) _ _ _ rfl HQ.out.2.2 _ 8 8 (Lib.byteCells (be g 8)) rfl (by rw [Lib.byteCells_length, be_len]) (ho.cells rfl) (byteCells_one' _) (by simp only [List.length_append, be_len]; unfold maxLen; omega) (by simp only [List.length_append, be_len]; omega) HQ.out.size ?_))
  intro v' w2 ho2 hg2 _
  have HQ2 := Aside0.mk (HQ.out.put (l' := be g 8) ho2 (by simp only [be_len]) hg2)
  have y2 := HQ2.out.cell 2
  have y2' : (rc k g i d)[2]? = some (.int .u32 (i : Int)) := rfl
  have e64 : (i : Int) % 18446744073709551616 = (i : Int) := by omega
  clear ho ho2 hg2 HQ w1
  go_wp2_with fail
  refine (digits2_calls i 4 (by omega) (by omega) _).mono ?_
  rintro x w3 ⟨q3, rfl, ho, hb⟩
  have HQ := Aside0.mk (HQ2.out.step hb)
  clear HQ2 hb y2 y2' e64 
  go_wp2_with (at_builtin; go_loud (refine wpList_append_own _ rfl _ _ 103 rfl (w.heap.size + 1) 5 i0 (.int .u8 0) 1 1 Tryd.underlying103 hi0 hz0 hz1 hz2 rfl (by decide) _ _ _ rfl HQ.out.2.2 _ 4 4 (Lib.byteCells (be i 4)) rfl (by rw [Lib.byteCells_length, be_len]) (ho.cells rfl) (byteCells_one' _) (by simp only [List.length_append, be_len]; unfold maxLen; omega) (by simp only [List.length_append, be_len]; omega) HQ.out.size ?_))
  intro v' w4 ho2 hg2 _
  have HQ2 := Aside0.mk (HQ.out.put (l' := be i 4) ho2 (by simp only [List.length_append, be_len]) hg2)
  clear ho ho2 hg2 HQ w3
  have y3 : w4.cell? ⟨w.heap.size, 3, none⟩ = some (.string d) := HQ2.out.cell 3
  have e8 : (d.size : Int) % 256 = (d.size : Int) := by omega
  have HQ := Aside0.mk (HQ2.out.step ((Below.refl _ _).alloc (Nat.le_refl _) (.cells #[.int .u8 (d.size : Int)] 5)))
  have hc1 : ∀ j u, (Lib.byteCells (be d.size 1))[j]? = some u → (w4.alloc (.cells #[.int .u8 (d.size : Int)] 5)).cell? ((⟨w4.heap.size, 0, none⟩ : Addr).add j) = some u := by
    rw [be_one d.size (by omega)]; intro j u hj; cases j with
    | zero => exact (cell_of_row _ w4.heap.size 0 _ _ _ (heap_alloc_new w4 _)).trans hj
    | succ j => simp at hj
  have HC1 := Aside0.mk hc1
  clear hc1
  go_wp2_with (at_builtin; go_loud (refine wpList_append_own _ rfl _ _ 103 rfl (w.heap.size + 1) 5 i0 (.int .u8 0) 1 1 Tryd.underlying103 hi0 hz0 hz1 hz2 rfl (by decide) _ _ _ rfl HQ.out.2.2 ⟨w4.heap.size, 0, none⟩ 1 1 (Lib.byteCells (be d.size 1)) rfl (by rw [Lib.byteCells_length, be_len]) HC1.out (byteCells_one' _) (by simp only [List.length_append, be_len]; unfold maxLen; omega) (by simp only [List.length_append, be_len]; omega) HQ.out.size ?_))
  intro v' w5 ho2 hg2 _
  have HQ3 := Aside0.mk (HQ.out.put (l' := be d.size 1) ho2 (by simp only [List.length_append, be_len]) hg2)
  clear ho2 hg2 HQ HQ2 HC1 y3 e8
  have y3 : w5.cell? ⟨w.heap.size, 3, none⟩ = some (.string d) := HQ3.out.cell 3
  obtain ⟨w6, c6, hcv, hb6, hn6⟩ := str_bytes d w5
  have HQ := Aside0.mk (HQ3.out.step hb6)
  have HC := Aside0.mk hn6
  clear hb6 hn6 HQ3
  go_wp2_with (at_builtin; go_loud (refine wpList_append_own _ rfl _ _ 103 rfl (w.heap.size + 1) 5 i0 (.int .u8 0) 1 1 Tryd.underlying103 hi0 hz0 hz1 hz2 rfl (by decide) _ _ _ rfl HQ.out.2.2 _ d.size c6 (Lib.byteCells d.data.toList) rfl (by rw [Lib.byteCells_length, Array.length_toList, Nat.mul_one]; rfl) HC.out (byteCells_one' _) (by simp only [List.length_append, be_len]; unfold maxLen; omega) (by simp only [List.length_append, be_len]; omega) HQ.out.size ?_))
  intro v' w7 ho2 hg2 _
  have HL := HQ.out.put (l' := d.data.toList) ho2 (by simp only [List.length_append, be_len, Array.length_toList]; rfl) hg2
  rw [show be k 1 ++ be g 8 ++ be i 4 ++ be d.size 1 ++ d.data.toList = head14 k g i d.data.toList.length ++ d.data.toList by rw [head14, Array.length_toList]; rfl] at HL
  have hll : (head14 k g i d.data.toList.length ++ d.data.toList).length = 14 + d.size := by simp [head14, be_len]; omega
  obtain ⟨L, hL⟩ : ∃ L, head14 k g i d.data.toList.length ++ d.data.toList = L := ⟨_, rfl⟩
  rw [hL] at HL hll
  have HQ3 := Aside0.mk (show QC w (rc k g i d) v' (L ++ List.replicate 0 0) w7 by simpa using HL)
  have HLL := Aside0.mk hll
  have HLE := Aside0.mk hL
  obtain ⟨A7, c7, rfl⟩ := owns_slice HL.2.2
  rw [hll] at HQ3 ⊢
  clear ho2 hg2 HQ HC HL hL hll hcv y3
  go_wp2_with fail
  go_loopw [4] (fun v W => ∃ (j n : Nat) (A : Option Addr) (c : Nat), v = .slice A n c ∧ n = 14 + d.size + j ∧ j ≤ 110 - d.size ∧ Aside0 (QC w (rc k g i d) v (L ++ List.replicate j 0) W)) (fun v _ => 124 - lenOf v)
  case atStart => exact ⟨0, _, _, _, rfl, rfl, by omega, HQ3⟩
  case round =>
    obtain ⟨j, n, A, c, rfl, hn, hj, HS⟩ := hrel
    by_cases hlt : n < 124
    · have hx1 : (n : Int) < 124 := by omega
      have HQ := Aside0.mk (HS.out.step ((Below.refl _ _).alloc (Nat.le_refl _) (.cells #[.int .u8 0] 5)))
      have HC1 := Aside0.mk (show ∀ j u, (Lib.byteCells [0])[j]? = some u → (wr.alloc (.cells #[.int .u8 0] 5)).cell? ((⟨wr.heap.size, 0, none⟩ : Addr).add j) = some u by
        intro j u hj
        cases j with
        | zero => exact (cell_of_row _ wr.heap.size 0 _ _ _ (heap_alloc_new wr _)).trans hj
        | succ j => simp [Lib.byteCells] at hj)
      have hlen : (L ++ List.replicate j 0).length = n := by rw [List.length_append, List.length_replicate, HLL.out, hn]
      have hown : (wr.alloc (.cells #[.int .u8 0] 5)).ownsRow (w.heap.size + 1) 5 1 (.slice A n c) n (Lib.byteCells (L ++ List.replicate j 0)) := by have := HQ.out.2.2; rw [hlen] at this; exact this
      have HO := Aside0.mk hown
      have HLN := Aside0.mk hlen
      have HNN := Aside0.mk hn
      have hn4 : 14 + d.size + j < 124 := by omega
      clear hown hlen HS hn
      go_wp2_with (at_builtin; go_loud (refine wpList_append_own _ rfl _ _ 103 rfl (w.heap.size + 1) 5 i0 (.int .u8 0) 1 1 Tryd.underlying103 hi0 hz0 hz1 hz2 rfl (by decide) _ _ _ rfl HO.out ⟨wr.heap.size, 0, none⟩ 1 1 (Lib.byteCells [0]) rfl rfl HC1.out (byteCells_one' _) (by unfold maxLen; omega) (by omega) HQ.out.size ?_))
      intro v' w8 ho2 hg2 _
      obtain ⟨A8, c8, rfl⟩ := owns_slice ho2
      have HN := HQ.out.put (l' := [0]) ho2 (by rw [HLN.out]; rfl) hg2
      rw [List.append_assoc, show List.replicate j (0 : UInt8) ++ [0] = List.replicate (j + 1) 0 from List.replicate_succ'.symm] at HN
      have HN' := Aside0.mk HN
      clear HN ho2 hg2 HQ HO HC1
      go_wp2
      go_roundw
      case rel => exact ⟨j + 1, n + 1, _, _, rfl, by have := HNN.out; omega, by omega, HN'⟩
      case measure => simp [lenOf]; omega
    · have hj' : j = 110 - d.size := by omega
      have hn' : n = 124 := by omega
      subst hn'
      clear hn hj hlt
      have HB : L ++ List.replicate j 0 = body k g i d.data.toList := by
        rw [← HLE.out, hj', body, Array.length_toList]; rfl
      have hbl : (body k g i d.data.toList).length = 124 := by rw [← HB, List.length_append, List.length_replicate, HLL.out, hj']; omega
      rw [HB] at HS
      obtain ⟨B, hB⟩ : ∃ B, body k g i d.data.toList = B := ⟨_, rfl⟩
      rw [hB] at HS hbl
      have hsec : sector k g i d.data.toList = B ++ lb (sumN B) 4 := by rw [sector, hB]
      have hstr := owns_string (by rw [hbl]; have := HS.out.2.2; rw [hbl] at this; exact this : wr.ownsRow (w.heap.size + 1) 5 1 (.slice A 124 c) B.length (Lib.byteCells B)) (by intro e; rw [e] at hbl; cases hbl)
      have KS := Aside0.mk (fun V => rsum_calls ⟨B.toArray⟩ V (by show B.toArray.size ≤ _; rw [List.size_toArray]; omega))
      have hSl := sumN_lt B
      rw [show (⟨B.toArray⟩ : ByteArray).data.toList = B from rfl] at KS
      obtain ⟨S, hS⟩ : ∃ S, sumN B = S := ⟨_, rfl⟩
      rw [hS] at KS hSl hsec
      have HSEC := Aside0.mk hsec
      have KD := Aside0.mk (fun V => digits2_calls S 4 (by omega) (by omega) V)
      have HBL := Aside0.mk hbl
      clear hj' HB hB hsec hbl hSl hS HLE HLL HQ3
      go_wp2_with fail
      refine (KS.out _).mono ?_
      rintro x w8 ⟨rfl, rfl⟩
      go_wp2_with fail
      refine (KD.out _).mono ?_
      rintro x w9 ⟨q9, rfl, ho, hb⟩
      have HQ := Aside0.mk (HS.out.step hb)
      have hl4 : lb S 4 = [UInt8.ofNat (S / 256 ^ 0), UInt8.ofNat (S / 256 ^ 1), UInt8.ofNat (S / 256 ^ 2), UInt8.ofNat (S / 256 ^ 3)] := rfl
      have hb4 : be S 4 = [UInt8.ofNat (S / 256 ^ 3), UInt8.ofNat (S / 256 ^ 2), UInt8.ofNat (S / 256 ^ 1), UInt8.ofNat (S / 256 ^ 0)] := rfl
      obtain ⟨x0, hx0⟩ : ∃ x : UInt8, UInt8.ofNat (S / 256 ^ 3) = x := ⟨_, rfl⟩
      obtain ⟨x1, hx1⟩ : ∃ x : UInt8, UInt8.ofNat (S / 256 ^ 2) = x := ⟨_, rfl⟩
      obtain ⟨x2, hx2⟩ : ∃ x : UInt8, UInt8.ofNat (S / 256 ^ 1) = x := ⟨_, rfl⟩
      obtain ⟨x3, hx3⟩ : ∃ x : UInt8, UInt8.ofNat (S / 256 ^ 0) = x := ⟨_, rfl⟩
      rw [hx0, hx1, hx2, hx3] at hl4 hb4
      rw [hb4] at ho
      have d0 : w9.cell? ⟨q9, 0, none⟩ = some (.int .u8 (x0.toNat : Nat)) := ho.cellAt 0 (by decide)
      have d1 : w9.cell? ⟨q9, 1, none⟩ = some (.int .u8 (x1.toNat : Nat)) := ho.cellAt 1 (by decide)
      have d2 : w9.cell? ⟨q9, 2, none⟩ = some (.int .u8 (x2.toNat : Nat)) := ho.cellAt 2 (by decide)
      have d3 : w9.cell? ⟨q9, 3, none⟩ = some (.int .u8 (x3.toNat : Nat)) := ho.cellAt 3 (by decide)
      have HL4 := Aside0.mk hl4
      have NE := Aside0.mk (show some q9 ≠ (Value.slice A 124 c).ownBlock from fun e => by
        have h1 := (owns_base HS.out.2.2 q9 e.symm).2
        have h2 := (owns_base ho q9 rfl).1
        omega)
      clear hb ho HS KS KD hx0 hx1 hx2 hx3 hb4 hl4 hstr
      go_wp2_with fail
      refine wp_region_held_drew (S := fun V => V.cell? ⟨q9, 0, none⟩ = some (.int .u8 (x0.toNat : Nat)) ∧ V.cell? ⟨q9, 1, none⟩ = some (.int .u8 (x1.toNat : Nat)) ∧ V.cell? ⟨q9, 2, none⟩ = some (.int .u8 (x2.toNat : Nat)) ∧ V.cell? ⟨q9, 3, none⟩ = some (.int .u8 (x3.toNat : Nat))) (by kernel_rfl) ⟨d0, d1, d2, d3⟩ (fun hH => ?_)
      refine Cel.take_at (i := 0) (some 46) (.slice A 124 c) rfl rfl (by kernel_rfl) (by kernel_rfl) (by kernel_rfl) (fun _ _ _ h => h) (Or.inl ⟨by rfl, fun w hSw => by go_simp⟩) hH ?_
      refine Cel.take_at (i := 1) (some 47) (.slice (some ⟨q9, 0, none⟩) 4 4) rfl rfl (by kernel_rfl) (by kernel_rfl) (by kernel_rfl) (fun _ _ _ h => h) (Or.inl ⟨by rfl, fun w hSw => by go_simp⟩) hH ?_
      try simp only [Act.put, List.setIfInBounds_toArray, List.set_cons_zero, List.set_cons_succ]
      refine Cel.take_at (i := 2) (some 48) (.pointer (some ⟨q9, 3, none⟩)) rfl rfl (by kernel_rfl) (by kernel_rfl) (by kernel_rfl) (fun _ _ _ h => h) (Or.inl ⟨by rfl, fun w hSw => by go_simp⟩) hH ?_
      refine Cel.take_at (i := 3) (some 49) (.int .u8 (x3.toNat : Nat)) rfl rfl (by kernel_rfl) (by kernel_rfl) (by kernel_rfl) (fun _ _ _ h => h) (Or.inl ⟨by rfl, fun w hSw => by obtain ⟨e0, e1, e2, e3⟩ := hSw; go_simp⟩) hH ?_
      try simp only [Act.put, List.setIfInBounds_toArray, List.set_cons_zero, List.set_cons_succ]
      refine Cel.take_at (i := 4) (some 50) (.slice (some ⟨q9, 0, none⟩) 4 4) rfl rfl (by kernel_rfl) (by kernel_rfl) (by kernel_rfl) (fun _ _ _ h => h) (Or.inl ⟨by rfl, fun w hSw => by go_simp⟩) hH ?_
      refine Cel.take_at (i := 5) (some 51) (.pointer (some ⟨q9, 2, none⟩)) rfl rfl (by kernel_rfl) (by kernel_rfl) (by kernel_rfl) (fun _ _ _ h => h) (Or.inl ⟨by rfl, fun w hSw => by go_simp⟩) hH ?_
      try simp only [Act.put, List.setIfInBounds_toArray, List.set_cons_zero, List.set_cons_succ]
      refine Cel.take_at (i := 6) (some 52) (.int .u8 (x2.toNat : Nat)) rfl rfl (by kernel_rfl) (by kernel_rfl) (by kernel_rfl) (fun _ _ _ h => h) (Or.inl ⟨by rfl, fun w hSw => by obtain ⟨e0, e1, e2, e3⟩ := hSw; go_simp⟩) hH ?_
      refine Cel.take_at (i := 7) (some 53) (.slice (some ⟨q9, 0, none⟩) 4 4) rfl rfl (by kernel_rfl) (by kernel_rfl) (by kernel_rfl) (fun _ _ _ h => h) (Or.inl ⟨by rfl, fun w hSw => by go_simp⟩) hH ?_
      try simp only [Act.put, List.setIfInBounds_toArray, List.set_cons_zero, List.set_cons_succ]
      refine Cel.take_at (i := 8) (some 54) (.pointer (some ⟨q9, 1, none⟩)) rfl rfl (by kernel_rfl) (by kernel_rfl) (by kernel_rfl) (fun _ _ _ h => h) (Or.inl ⟨by rfl, fun w hSw => by go_simp⟩) hH ?_
      refine Cel.take_at (i := 9) (some 55) (.int .u8 (x1.toNat : Nat)) rfl rfl (by kernel_rfl) (by kernel_rfl) (by kernel_rfl) (fun _ _ _ h => h) (Or.inl ⟨by rfl, fun w hSw => by obtain ⟨e0, e1, e2, e3⟩ := hSw; go_simp⟩) hH ?_
      try simp only [Act.put, List.setIfInBounds_toArray, List.set_cons_zero, List.set_cons_succ]
      refine Cel.take_at (i := 10) (some 56) (.slice (some ⟨q9, 0, none⟩) 4 4) rfl rfl (by kernel_rfl) (by kernel_rfl) (by kernel_rfl) (fun _ _ _ h => h) (Or.inl ⟨by rfl, fun w hSw => by go_simp⟩) hH ?_
      refine Cel.take_at (i := 11) (some 57) (.pointer (some ⟨q9, 0, none⟩)) rfl rfl (by kernel_rfl) (by kernel_rfl) (by kernel_rfl) (fun _ _ _ h => h) (Or.inl ⟨by rfl, fun w hSw => by go_simp⟩) hH ?_
      try simp only [Act.put, List.setIfInBounds_toArray, List.set_cons_zero, List.set_cons_succ]
      refine Cel.take_at (i := 12) (some 58) (.int .u8 (x0.toNat : Nat)) rfl rfl (by kernel_rfl) (by kernel_rfl) (by kernel_rfl) (fun _ _ _ h => h) (Or.inl ⟨by rfl, fun w hSw => by obtain ⟨e0, e1, e2, e3⟩ := hSw; go_simp⟩) hH ?_
      try simp only [Act.put, List.setIfInBounds_toArray, List.set_cons_zero, List.set_cons_succ]
      have HQ0 := Aside0.mk (HQ.out.step ((Below.refl _ w9).drew))
      generalize w9.drew = V0 at hH HQ0 ⊢
      refine wpAnyH_ready (rs := [13]) (by kernel_rfl) (by simp) (AllReadyH.cons rfl (fun K hK => ?_) AllReadyH.nil)
      go_simp
      have hnew := heap_alloc_new V0 (.cells #[.int .u8 (x3.toNat : Nat), .int .u8 (x2.toNat : Nat), .int .u8 (x1.toNat : Nat), .int .u8 (x0.toNat : Nat)] 5)
      have hba : Below V0.heap.size V0 (V0.alloc (.cells #[.int .u8 (x3.toNat : Nat), .int .u8 (x2.toNat : Nat), .int .u8 (x1.toNat : Nat), .int .u8 (x0.toNat : Nat)] 5)) := (Below.refl _ _).alloc (Nat.le_refl _) _
      have HQ1 := Aside0.mk (HQ0.out.step hba)
      obtain ⟨q, hq⟩ : ∃ q, V0.heap.size = q := ⟨_, rfl⟩
      have hS1 : _ ∧ _ ∧ _ ∧ _ := ⟨(grown_of_below hba).cell hH.1 (by simp), (grown_of_below hba).cell hH.2.1 (by simp), (grown_of_below hba).cell hH.2.2.1 (by simp), (grown_of_below hba).cell hH.2.2.2 (by simp)⟩
      rw [hq] at hnew ⊢
      generalize V0.alloc (.cells #[.int .u8 (x3.toNat : Nat), .int .u8 (x2.toNat : Nat), .int .u8 (x1.toNat : Nat), .int .u8 (x0.toNat : Nat)] 5) = V1 at hnew hS1 HQ1 ⊢
      refine hK.out _ _ hS1 (fun hH => ?_)
      clear hK K hq hba HQ0
      try simp only [Act.put, List.setIfInBounds_toArray, List.set_cons_zero, List.set_cons_succ]
      have hcv : ∀ j u, (Lib.byteCells [x3, x2, x1, x0])[j]? = some u → V1.cell? ((⟨q, 0, none⟩ : Addr).add j) = some u := by
        intro j u hj
        match j, hj with
        | 0, hj => exact (cell_of_row V1 q _ _ _ _ hnew).trans hj
        | 1, hj => exact (cell_of_row V1 q _ _ _ _ hnew).trans hj
        | 2, hj => exact (cell_of_row V1 q _ _ _ _ hnew).trans hj
        | 3, hj => exact (cell_of_row V1 q _ _ _ _ hnew).trans hj
        | j + 4, hj => simp [Lib.byteCells] at hj
      have hown : V1.ownsRow (w.heap.size + 1) 5 1 (.slice A 124 c) 124 (Lib.byteCells B) := by have := HQ1.out.2.2; rw [HBL.out] at this; exact this
      refine wpAnyH_ready (rs := [14]) (by kernel_rfl) (by simp) (AllReadyH.cons rfl (fun K hK => ?_) AllReadyH.nil)
      rw [if_pos (by rfl)]
      refine wp_append_own V1 _ _ 103 rfl (w.heap.size + 1) 5 i0 (.int .u8 0) 1 1 Tryd.underlying103 hi0 hz0 hz1 hz2 rfl (by decide) _ _ _ rfl hown ⟨q, 0, none⟩ 4 4 (Lib.byteCells [x3, x2, x1, x0]) rfl rfl hcv (byteCells_one' _) (by unfold maxLen; omega) (by omega) HQ1.out.size ?_
      intro v' w10 ho2 hg2 _
      have HN := HQ1.out.put (l' := [x3, x2, x1, x0]) ho2 (by rw [HBL.out]; rfl) hg2
      have hS2 : _ ∧ _ ∧ _ ∧ _ := ⟨hg2.cell hH.1 NE.out, hg2.cell hH.2.1 NE.out, hg2.cell hH.2.2.1 NE.out, hg2.cell hH.2.2.2 NE.out⟩
      refine hK.out _ _ hS2 (fun hH => ?_)
      clear hK K hcv hown hnew hg2 hS1 hS2
      try simp only [Act.put, List.setIfInBounds_toArray, List.set_cons_zero, List.set_cons_succ]
      have hconv := owns_string HN.2.2 (by simp)
      have HN' := Aside0.mk HN
      clear HN
      refine wpAnyH_ready (rs := [15]) (by kernel_rfl) (by simp) (AllReadyH.cons rfl (fun K hK => ?_) AllReadyH.nil)
      go_simp
      refine hK.out _ _ hH (fun hH => ?_)
      clear hK K hconv
      try simp only [Act.put, List.setIfInBounds_toArray, List.set_cons_zero, List.set_cons_succ]
      have HSEC' := Aside0.mk HSEC.out
      rw [HL4.out] at HSEC'
      refine Cel.take_at (i := 16) (some 2) (.string ⟨(B ++ [x3, x2, x1, x0]).toArray⟩) rfl rfl (by kernel_rfl) (by kernel_rfl) (by kernel_rfl) (fun _ _ _ h => h) (Or.inl ⟨by rfl, fun w hSw => by go_simp⟩) hH ?_
      refine Cel.take_at (i := 17) (some 3) (.int .i64 0) rfl rfl (by kernel_rfl) (by kernel_rfl) (by kernel_rfl) (fun _ _ _ h => h) (Or.inl ⟨by rfl, fun w hSw => by go_simp⟩) hH ?_
      refine wpAnyH_done (by kernel_rfl) ?_ _
      try simp only [Act.put, List.setIfInBounds_toArray, List.set_cons_zero, List.set_cons_succ]
      clear hH
      go_wp2
      go_ret2
      exact ⟨by rw [HSEC'.out]; rfl, HN'.out.1⟩
theorem rclose_long (k g i : Nat) (d : ByteArray) (w : World) (hd : 110 < d.size) :
    Calls Tryd.prog 60 #[.agg (rc k g i d)] w fun e w' => e = .returned (.tuple #[.string ⟨#[]⟩, .int .i64 11]) ∧ Below w.heap.size w w' := by
  have c1 : decide (110 < (d.size : Int)) = true := decide_eq_true (by omega)
  have c2 : decide (110 < d.size) = true := decide_eq_true (by omega)
  have x3 : (w.alloc (.cells (rc k g i d) 119)).cell? ⟨w.heap.size, 3, none⟩ = some (.string d) := cell_of_row _ _ 3 _ _ _ (heap_alloc_new w (.cells (rc k g i d) 119))
  have hb : Below w.heap.size w (w.alloc (.cells (rc k g i d) 119)) := (Below.refl _ _).alloc (Nat.le_refl _) _
  have HB := Aside0.mk hb
  clear hb
  go_enter Tryd.func60, Tryd.ntmps60
  go_wp2
  go_ret2
  exact ⟨rfl, HB.out⟩
theorem rclose_calls (k g i : Nat) (d : ByteArray) (w : World) (hk : k < 256) (hg : g < 18446744073709551616) (hi : i < 4294967296) :
    Calls Tryd.prog 60 #[.agg (rc k g i d)] w fun e w' => e = .returned (.tuple #[.string (closeS k g i d).1, .int .i64 (closeS k g i d).2]) ∧ Below w.heap.size w w' := by
  unfold closeS
  by_cases h : d.size > 110
  · rw [if_pos h]; exact rclose_long k g i d w h
  · rw [if_neg h]; exact rclose_good k g i d w hk hg hi (by omega)
end Go.Proofs.YtknbhgodhmcemaaDoor.Sl
namespace Go.Proofs.YtknbhgodhmcemaaDoor.Sl
set_option linter.unusedSimpArgs false
set_option linter.unusedVariables false
set_option maxRecDepth 100000
open Go.RowKit
theorem bw_val (v n : Nat) : ∀ d, d ≤ n → val (bw v n d) = v / 256 ^ (n - d) % 256 ^ d
  | 0, _ => by simp [bw, val, Nat.mod_one]
  | d + 1, h => by
    rw [bw, val_snoc, bw_val v n d (by omega), show n - 1 - d = n - (d + 1) by omega]
    have e : n - d = n - (d + 1) + 1 := by omega
    rw [e, Nat.pow_succ, ← Nat.div_div_eq_div_mul]
    generalize v / 256 ^ (n - (d + 1)) = X
    rw [show (UInt8.ofNat X).toNat = X % 256 by simp [UInt8.toNat_ofNat], Nat.pow_succ, Nat.mul_comm (256 ^ d) 256, Nat.mod_mul]
    rw [Nat.mul_comm, Nat.add_comm]
theorem be_val {v n : Nat} (h : v < 256 ^ n) : val (be v n) = v := by
  rw [be, bw_val v n n (Nat.le_refl _), Nat.sub_self, Nat.pow_zero, Nat.div_one, Nat.mod_eq_of_lt h]
theorem low_lb (b : List UInt8) (hb : b.length = 124) (x : Nat) (hx : x < 4294967296) : low (b ++ lb x 4) 124 4 = x := by
  have g : ∀ i, (b ++ lb x 4).getD (124 + i) 0 = (lb x 4).getD i 0 := fun i => by
    rw [List.getD_eq_getElem?_getD, List.getElem?_append_right (by omega), hb, List.getD_eq_getElem?_getD, Nat.add_sub_cancel_left]
  simp only [low, g]
  simp [lb, UInt8.toNat_ofNat]
  omega
theorem ext_list (l : List UInt8) (a b : Nat) : ((⟨l.toArray⟩ : ByteArray).extract a b).data.toList = (l.take b).drop a := by
  rw [ByteArray.data_extract]
  rw [Array.toList_extract, List.drop_take]
theorem mid {a b c : List UInt8} {m n : Nat} (ha : a.length = m) (hb : m + b.length = n) : ((a ++ (b ++ c)).take n).drop m = b := by
  subst ha; subst hb
  rw [← List.append_assoc, List.take_append_of_le_length (by rw [List.length_append]; exact Nat.le_refl _), List.take_of_length_le (by rw [List.length_append]; omega), List.drop_left]
theorem at_mid {a c : List UInt8} {x : UInt8} {m : Nat} (ha : a.length = m) : (a ++ x :: c).getD m 0 = x := by
  subst ha
  rw [List.getD_eq_getElem?_getD, List.getElem?_append_right (Nat.le_refl _), Nat.sub_self]; rfl
theorem be1 (x : Nat) : be x 1 = [UInt8.ofNat x] := by simp [be, bw]
theorem head14_len (k g i n : Nat) : (head14 k g i n).length = 14 := by simp [head14, be_len]
theorem body_len (k g i : Nat) (d : List UInt8) (h : d.length ≤ 110) : (body k g i d).length = 124 := by simp [body, head14_len]; omega
theorem sum_zeros : sumN (List.replicate 124 0) ≠ 0 := by decide +kernel
theorem blank_iff (l : List UInt8) : blankB l = true ↔ l = List.replicate l.length 0 := by
  constructor
  · intro h
    rw [List.eq_replicate_iff]
    refine ⟨rfl, fun b hb => ?_⟩
    have := List.all_eq_true.1 h b hb
    simpa using this
  · intro h
    rw [blankB, List.all_eq_true]
    intro b hb
    rw [h] at hb
    simp [(List.mem_replicate.1 hb).2]
theorem blank_append (a b : List UInt8) : blankB (a ++ b) = (blankB a && blankB b) := List.all_append
theorem sector_not_blank (b : List UInt8) (hb : b.length = 124) : blankB (b ++ lb (sumN b) 4) = false := by
  cases h : blankB (b ++ lb (sumN b) 4) with
  | false => rfl
  | true =>
    rw [blank_append, Bool.and_eq_true] at h
    have h1 := (blank_iff b).1 h.1
    rw [hb] at h1
    have h2 := (blank_iff _).1 h.2
    have h3 : low (b ++ lb (sumN b) 4) 124 4 = 0 := by
      rw [h2, lb_len]
      have g : ∀ i, i < 4 → (b ++ List.replicate 4 (0 : UInt8)).getD (124 + i) 0 = 0 := fun i hi => by
        rw [List.getD_eq_getElem?_getD, List.getElem?_append_right (by omega), hb, Nat.add_sub_cancel_left, List.getElem?_replicate, if_pos hi]; rfl
      simp only [low, g 0 (by omega), g 1 (by omega), g 2 (by omega), g 3 (by omega)]
      rfl
    rw [low_lb b hb _ (sumN_lt b), h1] at h3
    exact absurd h3 sum_zeros
theorem open_sector (k g i : Nat) (d : ByteArray) (hk : k < 256) (hg : g < 18446744073709551616) (hi : i < 4294967296) (hd : d.size ≤ 110) :
    openS ⟨(sector k g i d.data.toList).toArray⟩ = (⟨k, g, i, d⟩, 0) := by
  have hdl : d.data.toList.length = d.size := by rw [Array.length_toList]; rfl
  have hbl : (body k g i d.data.toList).length = 124 := body_len _ _ _ _ (by omega)
  have hL : (⟨(sector k g i d.data.toList).toArray⟩ : ByteArray).data.toList = sector k g i d.data.toList := rfl
  have hsec : sector k g i d.data.toList = body k g i d.data.toList ++ lb (sumN (body k g i d.data.toList)) 4 := rfl
  have h1 : (⟨(sector k g i d.data.toList).toArray⟩ : ByteArray).size = 128 := by show (sector k g i d.data.toList).toArray.size = 128; rw [List.size_toArray]; exact sector_len k g i _ (by omega)
  have hex : ∀ a b, b ≤ 124 → ((⟨(sector k g i d.data.toList).toArray⟩ : ByteArray).extract a b).data.toList = ((body k g i d.data.toList).take b).drop a := fun a b hb => by
    rw [ext_list, hsec, List.take_append_of_le_length (by omega)]
  have e13 : (sector k g i d.data.toList).getD 13 0 = UInt8.ofNat d.size := by
    have e : sector k g i d.data.toList = (be k 1 ++ be g 8 ++ be i 4) ++ UInt8.ofNat d.size :: (d.data.toList ++ List.replicate (110 - d.size) 0 ++ lb (sumN (body k g i d.data.toList)) 4) := by
      rw [hsec]
      generalize lb (sumN (body k g i d.data.toList)) 4 = R
      rw [body, head14, be1 d.data.toList.length, hdl]
      simp [List.append_assoc]
    rw [e]; exact at_mid (by simp [be_len])
  have e0 : (sector k g i d.data.toList).getD 0 0 = UInt8.ofNat k := by
    rw [hsec, body, head14, be1 k]; rfl
  have t13 : ((sector k g i d.data.toList).getD 13 0).toNat = d.size := by rw [e13]; simp [UInt8.toNat_ofNat]; omega
  have t0 : ((sector k g i d.data.toList).getD 0 0).toNat = k := by rw [e0]; simp [UInt8.toNat_ofNat]; omega
  have b1 : ((body k g i d.data.toList).take 9).drop 1 = be g 8 := by
    rw [show body k g i d.data.toList = be k 1 ++ (be g 8 ++ (be i 4 ++ be d.data.toList.length 1 ++ d.data.toList ++ List.replicate (110 - d.data.toList.length) 0)) by rw [body, head14]; simp only [List.append_assoc]]
    exact mid (be_len _ _) (by rw [be_len])
  have b2 : ((body k g i d.data.toList).take 13).drop 9 = be i 4 := by
    rw [show body k g i d.data.toList = (be k 1 ++ be g 8) ++ (be i 4 ++ (be d.data.toList.length 1 ++ d.data.toList ++ List.replicate (110 - d.data.toList.length) 0)) by rw [body, head14]; simp only [List.append_assoc]]
    exact mid (by simp [be_len]) (by rw [be_len])
  have b3 : ((body k g i d.data.toList).take (14 + d.size)).drop 14 = d.data.toList := by
    rw [show body k g i d.data.toList = head14 k g i d.data.toList.length ++ (d.data.toList ++ (List.replicate (110 - d.data.toList.length) 0)) by rw [body]; simp only [List.append_assoc]]
    exact mid (head14_len _ _ _ _) (by rw [hdl])
  have b4 : ((body k g i d.data.toList).take 124).drop (14 + d.size) = List.replicate (110 - d.size) 0 := by
    rw [show body k g i d.data.toList = (head14 k g i d.data.toList.length ++ d.data.toList) ++ (List.replicate (110 - d.size) 0 ++ []) by rw [body, hdl]; simp only [List.append_assoc, List.append_nil]]
    exact mid (by rw [List.length_append, head14_len, hdl]) (by rw [List.length_replicate]; omega)
  have hda : (⟨(sector k g i d.data.toList).toArray⟩ : ByteArray).extract 14 (14 + d.size) = d := by
    apply ByteArray.ext
    apply Array.toList_inj.1
    rw [hex 14 (14 + d.size) (by omega), b3]
  rw [openS_ok h1 (by rw [hL]; exact sector_not_blank _ hbl) (by rw [hex 0 124 (by omega), List.drop_zero, List.take_of_length_le (by omega), hL, hsec, low_lb _ hbl _ (sumN_lt _)]) (by rw [hL, t13]; exact hd)
    (by rw [hL, t13, hex (14 + d.size) 124 (by omega), b4]; simp [blankB]), hL, t13, t0, hex 1 9 (by omega), hex 9 13 (by omega), b1, b2, be_val (by simpa using hg), be_val (by simpa using hi), hda]
theorem close_ok (k g i : Nat) (d : ByteArray) (hd : d.size ≤ 110) : closeS k g i d = (⟨(sector k g i d.data.toList).toArray⟩, 0) := by unfold closeS; rw [if_neg (by omega)]
end Go.Proofs.YtknbhgodhmcemaaDoor.Sl
namespace Go.Proofs.YtknbhgodhmcemaaDoor.So
set_option linter.unusedSimpArgs false
set_option linter.unusedVariables false
open Go.Proofs.YtknbhgodhmcemaaDoor.Dk Go.Proofs.YtknbhgodhmcemaaDoor.Sl
def summedL (t : List UInt8) : List UInt8 := t ++ lb (sumN t) 4
theorem summedL_len (t : List UInt8) : (summedL t).length = t.length + 4 := by rw [summedL, List.length_append, lb_len]
def np (n : Nat) : Nat := (n + 109) / 110
def pdat (L : List UInt8) (i : Nat) : List UInt8 := (L.drop (110 * i)).take 110
def pk (n i : Nat) : Nat := if i + 1 = np n then 3 else 2
def psec (g : Nat) (L : List UInt8) (i : Nat) : ByteArray := ⟨(sector (pk L.length i) g i (pdat L i)).toArray⟩
theorem pk_lt (n i : Nat) : pk n i < 256 := by unfold pk; split <;> omega
theorem pdat_le (L : List UInt8) (i : Nat) : (pdat L i).length ≤ 110 := by rw [pdat, List.length_take]; omega
theorem pdat_len (L : List UInt8) (i : Nat) : (pdat L i).length = min 110 (L.length - 110 * i) := by rw [pdat, List.length_take, List.length_drop]
theorem psec_size (g : Nat) (L : List UInt8) (i : Nat) : (psec g L i).size = 128 := by
  show (sector (pk L.length i) g i (pdat L i)).toArray.size = 128
  rw [List.size_toArray]; exact sector_len _ _ _ _ (pdat_le L i)
theorem psec_open (g : Nat) (L : List UInt8) (i : Nat) (hg : g < 18446744073709551616) (hi : i < 4294967296) : openS (psec g L i) = (⟨pk L.length i, g, i, ⟨(pdat L i).toArray⟩⟩, 0) :=
  open_sector (pk L.length i) g i ⟨(pdat L i).toArray⟩ (pk_lt _ _) hg hi (by show (pdat L i).toArray.size ≤ 110; rw [List.size_toArray]; exact pdat_le L i)
theorem psec_close (g : Nat) (L : List UInt8) (i : Nat) : closeS (pk L.length i) g i ⟨(pdat L i).toArray⟩ = (psec g L i, 0) :=
  close_ok _ _ _ _ (by show (pdat L i).toArray.size ≤ 110; rw [List.size_toArray]; exact pdat_le L i)
def wholeS (l : List UInt8) (gen : Nat) : ByteArray × Nat × Bool :=
  if l.length < 4 then (⟨#[]⟩, 0, false) else if summedL (l.take (l.length - 4)) = l then (⟨(l.take (l.length - 4)).toArray⟩, gen, true) else (⟨#[]⟩, 0, false)
theorem wholeS_summed (t : List UInt8) (g : Nat) : wholeS (summedL t) g = (⟨t.toArray⟩, g, true) := by
  have e : (summedL t).take ((summedL t).length - 4) = t := by
    rw [summedL_len, Nat.add_sub_cancel, summedL, List.take_left]
  unfold wholeS
  rw [if_neg (by rw [summedL_len]; omega), e, if_pos rfl]
def badR (i next gen : Nat) (r : Rec) : Bool := decide (i ≠ next ∨ r.g ≠ gen ∨ r.i ≠ i ∨ (r.k ≠ 2 ∧ r.k ≠ 3) ∨ (r.k = 2 ∧ r.d.size ≠ 110) ∨ (0 < i ∧ r.d.size = 0))
def readGo (rd : List ByteArray) (fr : Nat) : Nat → Nat → Nat → Nat → List UInt8 → ByteArray × Nat × Bool
  | 0, _, _, _, _ => (⟨#[]⟩, 0, false)
  | n + 1, i, next, gen, out =>
    if (openS (rd.getD (fr + i) ByteArray.empty)).2 ≠ 0 then readGo rd fr n (i + 1) next gen out
    else if badR i next (if i = 0 then (openS (rd.getD (fr + i) ByteArray.empty)).1.g else gen) (openS (rd.getD (fr + i) ByteArray.empty)).1 then (⟨#[]⟩, 0, false)
    else if (openS (rd.getD (fr + i) ByteArray.empty)).1.k = 3 then wholeS (out ++ (openS (rd.getD (fr + i) ByteArray.empty)).1.d.data.toList) (if i = 0 then (openS (rd.getD (fr + i) ByteArray.empty)).1.g else gen)
    else readGo rd fr n (i + 1) (next + 1) (if i = 0 then (openS (rd.getD (fr + i) ByteArray.empty)).1.g else gen) (out ++ (openS (rd.getD (fr + i) ByteArray.empty)).1.d.data.toList)
def readS (rd : List ByteArray) (fr room : Nat) : ByteArray × Nat × Bool := readGo rd fr room 0 0 0 []
def newGo (rd : List ByteArray) (fr : Nat) : Nat → Nat → Nat → Nat
  | 0, _, most => most
  | n + 1, i, most =>
    if (openS (rd.getD (fr + i) ByteArray.empty)).2 ≠ 0 then newGo rd fr n (i + 1) most
    else newGo rd fr n (i + 1) (if (openS (rd.getD (fr + i) ByteArray.empty)).1.k = 2 ∨ (openS (rd.getD (fr + i) ByteArray.empty)).1.k = 3 then max most (openS (rd.getD (fr + i) ByteArray.empty)).1.g else most)
def newS (rd : List ByteArray) (fr room : Nat) : Nat := newGo rd fr room 0 0
theorem readGo_gap (rd : List ByteArray) (fr : Nat) : ∀ (n i next gen : Nat) (out : List UInt8), next < i → readGo rd fr n i next gen out = (⟨#[]⟩, 0, false)
  | 0, _, _, _, _, _ => rfl
  | n + 1, i, next, gen, out, h => by
    rw [readGo]
    split
    · exact readGo_gap rd fr n (i + 1) next gen out (by omega)
    · rw [if_pos (by rw [badR]; exact decide_eq_true (.inl (by omega)))]
theorem readGo_mix (rd : List ByteArray) (fr g : Nat) (t : List UInt8) (hg : g < 18446744073709551616) (hk : np (summedL t).length ≤ 4294967295) :
    ∀ (n i gen : Nat), i < np (summedL t).length → (i = 0 → rd.getD (fr + i) ByteArray.empty = psec g (summedL t) i) → (0 < i → gen = g) →
    (∀ j, i ≤ j → j < i + n → j < np (summedL t).length → rd.getD (fr + j) ByteArray.empty = psec g (summedL t) j ∨ (openS (rd.getD (fr + j) ByteArray.empty)).2 ≠ 0 ∨ (openS (rd.getD (fr + j) ByteArray.empty)).1.g ≠ g) →
    (readGo rd fr n i i gen ((summedL t).take (110 * i)) = (⟨#[]⟩, 0, false) ∧ ((∀ j, i ≤ j → j < np (summedL t).length → rd.getD (fr + j) ByteArray.empty = psec g (summedL t) j) → i + n < np (summedL t).length)) ∨
    readGo rd fr n i i gen ((summedL t).take (110 * i)) = (⟨t.toArray⟩, g, true)
  | 0, i, gen, hi, h0, h1, H => .inl ⟨rfl, fun _ => by omega⟩
  | n + 1, i, gen, hi, h0, h1, H => by
    have hL := summedL_len t
    obtain ⟨L, hLL⟩ : ∃ L, summedL t = L := ⟨_, rfl⟩
    have hln : L.length = t.length + 4 := by rw [← hLL]; exact hL
    have hnp : 110 * i < L.length := by rw [hLL] at hi; unfold np at hi; omega
    by_cases e : rd.getD (fr + i) ByteArray.empty = psec g (summedL t) i
    · have ho := psec_open g (summedL t) i hg (by omega)
      rw [hLL] at ho e
      have hgen : (if i = 0 then g else gen) = g := by
        by_cases z : i = 0
        · rw [if_pos z]
        · rw [if_neg z]; exact h1 (by omega)
      have hsz : (⟨(pdat L i).toArray⟩ : ByteArray).size = (pdat L i).length := by show (pdat L i).toArray.size = _; rw [List.size_toArray]
      have hpl := pdat_len L i
      have hout : L.take (110 * i) ++ pdat L i = L.take (110 * (i + 1)) := by
        rw [pdat, show 110 * (i + 1) = 110 * i + 110 by omega, List.take_add]
      have hbad : badR i i g ⟨pk L.length i, g, i, ⟨(pdat L i).toArray⟩⟩ = false := by
        rw [badR]
        apply decide_eq_false
        rintro (x | x | x | x | x | x)
        · exact x rfl
        · exact x rfl
        · exact x rfl
        · simp only [pk] at x
          split at x
          · exact x.2 rfl
          · exact x.1 rfl
        · obtain ⟨x1, x2⟩ := x
          simp only [hsz] at x2
          simp only [pk] at x1
          split at x1
          · omega
          · rename_i hne
            rw [hLL] at hi
            unfold np at hne hi
            omega
        · obtain ⟨x1, x2⟩ := x
          simp only [hsz] at x2
          omega
      rw [readGo, e, ho]
      simp only [ne_eq, not_true_eq_false, if_false, hgen, hbad, Bool.false_eq_true]
      rw [hLL, hout]
      by_cases hlast : i + 1 = np L.length
      · refine .inr ?_
        have e3 : pk L.length i = 3 := by rw [pk, if_pos hlast]
        rw [e3, if_pos rfl, List.take_of_length_le (by unfold np at hlast; omega), ← hLL, wholeS_summed]
      · have e3 : pk L.length i = 2 := by rw [pk, if_neg hlast]
        rw [e3, if_neg (by decide)]
        rw [hLL] at hi
        rcases readGo_mix rd fr g t hg hk n (i + 1) g (by rw [hLL]; omega) (fun z => by omega) (fun _ => rfl) (fun j j1 j2 j3 => H j (by omega) (by omega) j3) with ⟨r1, r2⟩ | r
        · rw [hLL] at r1 r2
          exact .inl ⟨r1, fun A => by
            have := r2 (fun j j1 j2 => A j (by omega) j2)
            omega⟩
        · rw [hLL] at r
          exact .inr r
    · refine .inl ⟨?_, fun A => absurd (A i (Nat.le_refl _) hi) e⟩
      have hi0 : 0 < i := by
        rcases Nat.eq_zero_or_pos i with z | z
        · exact absurd (h0 z) e
        · exact z
      have hge := h1 hi0
      rw [readGo]
      by_cases ho : (openS (rd.getD (fr + i) ByteArray.empty)).2 ≠ 0
      · rw [if_pos ho]; exact readGo_gap rd fr n (i + 1) i gen _ (by omega)
      · rw [if_neg ho, if_pos]
        rcases H i (Nat.le_refl _) (by omega) hi with x | x | x
        · exact absurd x e
        · exact absurd x ho
        · rw [badR]
          exact decide_eq_true (.inr (.inl (by rw [if_neg (by omega), hge]; exact x)))
theorem np_pos (t : List UInt8) : 0 < np (summedL t).length := by rw [summedL_len]; unfold np; omega
theorem readS_whole (rd : List ByteArray) (fr room g : Nat) (t : List UInt8) (hg : g < 18446744073709551616) (hk : np (summedL t).length ≤ 4294967295) (hr : np (summedL t).length ≤ room)
    (H : ∀ j, j < np (summedL t).length → rd.getD (fr + j) ByteArray.empty = psec g (summedL t) j) :
    readS rd fr room = (⟨t.toArray⟩, g, true) := by
  rcases readGo_mix rd fr g t hg hk room 0 0 (np_pos t) (fun _ => H 0 (np_pos t)) (fun h => absurd h (by omega)) (fun j _ _ j3 => .inl (H j j3)) with ⟨_, r⟩ | r
  · have := r (fun j _ j2 => H j j2)
    omega
  · rw [Nat.mul_zero, List.take_zero] at r
    exact r
end Go.Proofs.YtknbhgodhmcemaaDoor.So
namespace Go.Proofs.YtknbhgodhmcemaaDoor.Lg
set_option linter.unusedSimpArgs false
set_option linter.unusedVariables false
open Go.Proofs.YtknbhgodhmcemaaDoor.Dk Go.Proofs.YtknbhgodhmcemaaDoor.Sl
def sec (g i : Nat) (d : ByteArray) : ByteArray := ⟨(sector 1 g i d.data.toList).toArray⟩
def dead (g : Nat) (s : ByteArray) : Prop := ¬ ((openS s).2 = 0 ∧ (openS s).1.k = 1 ∧ (openS s).1.g = g)
theorem applyW_cases (i : Nat) (e : ByteArray) : ∀ (ws : List Wt) (l : List ByteArray), (applyW l ws).getD i e = l.getD i e ∨ ∃ x ∈ ws, x.1 = i ∧ (applyW l ws).getD i e = x.2
  | [], l => .inl rfl
  | x :: r, l => by
    rw [applyW]
    rcases applyW_cases i e r (l.set x.1 x.2) with h | ⟨y, h1, h2, h3⟩
    · by_cases hx : x.1 = i
      · by_cases hi : i < l.length
        · refine .inr ⟨x, List.mem_cons_self, hx, h.trans ?_⟩
          rw [List.getD_eq_getElem?_getD, hx, List.getElem?_set_self hi]; rfl
        · refine .inl (h.trans ?_)
          rw [List.getD_eq_getElem?_getD, List.getD_eq_getElem?_getD, List.getElem?_eq_none (by rw [List.length_set]; omega), List.getElem?_eq_none (by omega)]
      · refine .inl (h.trans ?_)
        rw [List.getD_eq_getElem?_getD, List.getElem?_set_ne hx, List.getD_eq_getElem?_getD]
    · exact .inr ⟨y, List.mem_cons_of_mem _ h1, h2, h3⟩
structure LK (fr room g : Nat) (all : List ByteArray) (sure : Nat) (S : DS) : Prop where
  hl : fr + room ≤ S.lasts.length
  hn : all.length ≤ room
  hs : sure ≤ all.length
  sz : ∀ j, j < all.length → (all.getD j ByteArray.empty).size ≤ 110
  ok : S.ok
  A : ∀ x ∈ S.waits, fr ≤ x.1 → x.1 < fr + room → x.1 < fr + all.length ∧ x.2 = sec g (x.1 - fr) (all.getD (x.1 - fr) ByteArray.empty)
  Bs : ∀ j, j < sure → S.lasts.getD (fr + j) ByteArray.empty = sec g j (all.getD j ByteArray.empty)
  C : ∀ j, j < room → dead g (S.lasts.getD (fr + j) ByteArray.empty) ∨ (j < all.length ∧ S.lasts.getD (fr + j) ByteArray.empty = sec g j (all.getD j ByteArray.empty))
  D : ∀ j, j < all.length → S.read.getD (fr + j) ByteArray.empty = sec g j (all.getD j ByteArray.empty)
variable {fr room g : Nat} {all : List ByteArray} {sure : Nat} {S : DS}
theorem LK.some (h : LK fr room g all sure S) (ws : List Wt) (hw : ∀ x ∈ ws, x ∈ S.waits) (j : Nat) (hj : j < room) :
    (dead g ((applyW S.lasts ws).getD (fr + j) ByteArray.empty) ∨ (j < all.length ∧ (applyW S.lasts ws).getD (fr + j) ByteArray.empty = sec g j (all.getD j ByteArray.empty))) ∧
    (j < sure → (applyW S.lasts ws).getD (fr + j) ByteArray.empty = sec g j (all.getD j ByteArray.empty)) := by
  rcases applyW_cases (fr + j) ByteArray.empty ws S.lasts with e | ⟨x, h1, h2, h3⟩
  · rw [e]; exact ⟨h.C j hj, h.Bs j⟩
  · have hA := h.A x (hw x h1) (by omega) (by omega)
    rw [h2, Nat.add_sub_cancel_left] at hA
    rw [h3]
    exact ⟨.inr ⟨by omega, hA.2⟩, fun _ => hA.2⟩
theorem LK.arm (h : LK fr room g all sure S) (a : Int) : LK fr room g all sure { S with armed := a } := ⟨h.hl, h.hn, h.hs, h.sz, h.ok, h.A, h.Bs, h.C, h.D⟩
theorem put_cases (S : DS) (i : Nat) (s : ByteArray) (hi : i < S.lasts.length) (hs : s.size = 128) :
    (S.put (i : Int) s = (S.fails.1, 7) ∧ S.fails.2 = true) ∨ (S.put (i : Int) s = ({ S.fails.1 with waits := S.waits ++ [(i, s)], ops := S.ops + 1 }, 0) ∧ S.fails.2 = false) := by
  cases hf : S.fails.2 with
  | true => exact .inl ⟨put_fails ⟨by omega, by omega⟩ hs hf, rfl⟩
  | false => refine .inr ⟨?_, rfl⟩; rw [put_ok ⟨by omega, by omega⟩ hs hf, Int.toNat_natCast]
theorem fails_armed (S : DS) : (S.armed ≤ 0 → S.fails = (S, false)) ∧ S.fails.1.armed ≤ S.armed := by
  unfold DS.fails
  constructor
  · intro h; rw [if_pos h]
  · split
    · exact Int.le_refl _
    · show S.armed - 1 ≤ S.armed; omega
end Go.Proofs.YtknbhgodhmcemaaDoor.Lg
namespace Go.Proofs.YtknbhgodhmcemaaDoor.So
set_option linter.unusedSimpArgs false
set_option linter.unusedVariables false
open Go.Proofs.YtknbhgodhmcemaaDoor.Dk Go.Proofs.YtknbhgodhmcemaaDoor.Sl
open Go.Proofs.YtknbhgodhmcemaaDoor.Lg (put_cases fails_armed)
def wrS (fr g : Nat) (L : List UInt8) : Nat → Nat → DS → DS × Int
  | 0, _, S => (S, 0)
  | n + 1, i, S => if (S.put ((fr + i : Nat) : Int) (psec g L i)).2 ≠ 0 then S.put ((fr + i : Nat) : Int) (psec g L i) else wrS fr g L n (i + 1) (S.put ((fr + i : Nat) : Int) (psec g L i)).1
def ws (fr g : Nat) (L : List UInt8) (i m : Nat) : List Wt := (List.range' i m).map (fun j => (fr + j, psec g L j))
theorem ws_succ (fr g : Nat) (L : List UInt8) (i m : Nat) : ws fr g L i (m + 1) = (fr + i, psec g L i) :: ws fr g L (i + 1) m := by
  unfold ws; rw [List.range'_succ]; rfl
theorem ws_mem {fr g : Nat} {L : List UInt8} {i m : Nat} {x : Wt} (h : x ∈ ws fr g L i m) : ∃ j, i ≤ j ∧ j < i + m ∧ x = (fr + j, psec g L j) := by
  unfold ws at h
  obtain ⟨j, hj, rfl⟩ := List.mem_map.1 h
  rw [List.mem_range'_1] at hj
  exact ⟨j, hj.1, hj.2, rfl⟩
structure Wrote (fr g : Nat) (L : List UInt8) (i n : Nat) (S : DS) (R : DS × Int) (m : Nat) : Prop where
  le : m ≤ n
  lasts : R.1.lasts = S.lasts
  waits : R.1.waits = S.waits ++ ws fr g L i m
  all : R.2 = 0 → m = n
  calm : S.armed ≤ 0 → R.2 = 0 ∧ R.1.armed = S.armed
  arm : R.1.armed ≤ S.armed
  ops : R.1.ops = S.ops + (m : Int)
theorem wrS_spec (fr g : Nat) (L : List UInt8) : ∀ (n i : Nat) (S : DS), fr + i + n ≤ S.lasts.length → ∃ m, Wrote fr g L i n S (wrS fr g L n i S) m
  | 0, i, S, h => ⟨0, Nat.le_refl _, rfl, by rw [wrS]; simp [ws], fun _ => rfl, fun _ => ⟨rfl, rfl⟩, Int.le_refl _, by rw [wrS]; simp⟩
  | n + 1, i, S, h => by
    obtain ⟨a1, a2⟩ := fails_armed S
    obtain ⟨l1, l2, l3⟩ := fails_lasts S
    rw [wrS]
    rcases put_cases S (fr + i) (psec g L i) (by omega) (psec_size g L i) with ⟨e, hf⟩ | ⟨e, hf⟩
    · rw [e, if_pos (show (7 : Int) ≠ 0 by decide)]
      refine ⟨0, by omega, l1, by rw [l2]; simp [ws], fun h => absurd h (show ¬ (7 : Int) = 0 by decide), fun h => ?_, a2, by rw [l3]; simp⟩
      rw [a1 h] at hf
      cases hf
    · rw [e, if_neg (fun x => x rfl)]
      obtain ⟨m, w⟩ := wrS_spec fr g L n (i + 1) { S.fails.1 with waits := S.waits ++ [(fr + i, psec g L i)], ops := S.ops + 1 } (by show fr + (i + 1) + n ≤ S.fails.1.lasts.length; rw [l1]; omega)
      refine ⟨m + 1, by have := w.le; omega, w.lasts.trans l1, ?_, fun h => by rw [w.all h], fun h => ?_, Int.le_trans w.arm a2, ?_⟩
      · rw [w.waits, ws_succ]
        show S.waits ++ [(fr + i, psec g L i)] ++ _ = _
        rw [List.append_assoc]; rfl
      · have e2 : S.fails.1.armed = S.armed := by rw [a1 h]
        obtain ⟨q1, q2⟩ := w.calm (by show S.fails.1.armed ≤ 0; rw [e2]; exact h)
        exact ⟨q1, q2.trans e2⟩
      · rw [w.ops]
        show S.ops + 1 + (m : Int) = _
        omega
theorem Wrote.ok {fr g : Nat} {L : List UInt8} {i n m : Nat} {S : DS} {R : DS × Int} (w : Wrote fr g L i n S R m) (h : S.ok) (hn : fr + i + n ≤ S.lasts.length) : R.1.ok := by
  intro x hx
  rw [w.waits] at hx
  rw [w.lasts]
  rcases List.mem_append.1 hx with hx | hx
  · exact h x hx
  · obtain ⟨j, j1, j2, rfl⟩ := ws_mem hx
    have := w.le
    show fr + j < _
    omega
theorem applyW_ws (fr g : Nat) (L : List UInt8) (k : Nat) (e : ByteArray) : ∀ (m i : Nat) (l : List ByteArray), fr + i + m ≤ l.length →
    (applyW l (ws fr g L i m)).getD k e = if fr + i ≤ k ∧ k < fr + i + m then psec g L (k - fr) else l.getD k e
  | 0, i, l, h => by rw [if_neg (by omega)]; simp [ws, applyW]
  | m + 1, i, l, h => by
    rw [ws_succ, applyW, applyW_ws fr g L k e m (i + 1) _ (by rw [List.length_set]; omega)]
    by_cases h1 : fr + (i + 1) ≤ k ∧ k < fr + (i + 1) + m
    · rw [if_pos h1, if_pos (by omega)]
    · rw [if_neg h1]
      by_cases h2 : k = fr + i
      · subst h2
        rw [if_pos (by omega), List.getD_eq_getElem?_getD, List.getElem?_set_self (by omega), Nat.add_sub_cancel_left]; rfl
      · rw [if_neg (by omega), List.getD_eq_getElem?_getD, List.getElem?_set_ne (fun x => h2 x.symm), ← List.getD_eq_getElem?_getD]
end Go.Proofs.YtknbhgodhmcemaaDoor.So
namespace Go.Proofs.YtknbhgodhmcemaaDoor.So
set_option linter.unusedSimpArgs false
set_option linter.unusedVariables false
open Go.Proofs.YtknbhgodhmcemaaDoor.Dk Go.Proofs.YtknbhgodhmcemaaDoor.Sl
theorem openS_small (s : ByteArray) : (openS s).1.d.size ≤ 110 := by
  unfold openS
  split
  · exact Nat.zero_le _
  · split
    · exact Nat.zero_le _
    · split
      · exact Nat.zero_le _
      · split
        · exact Nat.zero_le _
        · rename_i h
          show (s.extract 14 (14 + (s.data.toList.getD 13 0).toNat)).size ≤ 110
          rw [ByteArray.size_extract]
          have : ¬ (s.data.toList.getD 13 0).toNat > 110 := fun e => h (.inl e)
          omega
def rrGo (rd : List ByteArray) (fr : Nat) : Nat → Nat → Nat → List UInt8 → ByteArray × Nat × Bool
  | 0, _, _, _ => (⟨#[]⟩, 0, false)
  | n + 1, i, gen, out =>
    if (openS (rd.getD (fr + i) ByteArray.empty)).2 ≠ 0 ∨ (openS (rd.getD (fr + i) ByteArray.empty)).1.g ≠ (if i = 0 then (openS (rd.getD (fr + i) ByteArray.empty)).1.g else gen) ∨ (openS (rd.getD (fr + i) ByteArray.empty)).1.i ≠ i then (⟨#[]⟩, 0, false)
    else if (openS (rd.getD (fr + i) ByteArray.empty)).1.k = 2 ∧ (openS (rd.getD (fr + i) ByteArray.empty)).1.d.size = 110 then rrGo rd fr n (i + 1) (if i = 0 then (openS (rd.getD (fr + i) ByteArray.empty)).1.g else gen) (out ++ (openS (rd.getD (fr + i) ByteArray.empty)).1.d.data.toList)
    else if (openS (rd.getD (fr + i) ByteArray.empty)).1.k ≠ 3 ∨ (out ++ (openS (rd.getD (fr + i) ByteArray.empty)).1.d.data.toList).length < 4 then (⟨#[]⟩, 0, false)
    else if summedL ((out ++ (openS (rd.getD (fr + i) ByteArray.empty)).1.d.data.toList).take ((out ++ (openS (rd.getD (fr + i) ByteArray.empty)).1.d.data.toList).length - 4)) ≠ out ++ (openS (rd.getD (fr + i) ByteArray.empty)).1.d.data.toList ∨
      np (out ++ (openS (rd.getD (fr + i) ByteArray.empty)).1.d.data.toList).length ≠ i + 1 then (⟨#[]⟩, 0, false)
    else (⟨((out ++ (openS (rd.getD (fr + i) ByteArray.empty)).1.d.data.toList).take ((out ++ (openS (rd.getD (fr + i) ByteArray.empty)).1.d.data.toList).length - 4)).toArray⟩, (if i = 0 then (openS (rd.getD (fr + i) ByteArray.empty)).1.g else gen), true)
theorem rr_eq (rd : List ByteArray) (fr : Nat) : ∀ (n i gen : Nat) (out : List UInt8), out.length = 110 * i → rrGo rd fr n i gen out = readGo rd fr n i i gen out
  | 0, _, _, _, _ => rfl
  | n + 1, i, gen, out, hl => by
    rw [rrGo, readGo]
    obtain ⟨o, ho⟩ : ∃ o, openS (rd.getD (fr + i) ByteArray.empty) = o := ⟨_, rfl⟩
    have hd : o.1.d.size ≤ 110 := by rw [← ho]; exact openS_small _
    rw [ho]
    obtain ⟨g, hg⟩ : ∃ g, (if i = 0 then o.1.g else gen) = g := ⟨_, rfl⟩
    rw [hg]
    have hdl : o.1.d.data.toList.length = o.1.d.size := by rw [Array.length_toList]; rfl
    by_cases h0 : o.2 ≠ 0
    · rw [if_pos (.inl h0), if_pos h0, readGo_gap rd fr n (i + 1) i gen out (by omega)]
    rw [if_neg h0]
    by_cases h1 : o.1.g ≠ g ∨ o.1.i ≠ i
    · rw [if_pos (.inr h1), if_pos (by rw [badR]; exact decide_eq_true (by rcases h1 with h | h; exact .inr (.inl h); exact .inr (.inr (.inl h))))]
    rw [if_neg (fun h => h.elim h0 h1)]
    have g1 : o.1.g = g := Classical.byContradiction fun e => h1 (.inl e)
    have i1 : o.1.i = i := Classical.byContradiction fun e => h1 (.inr e)
    by_cases h2 : o.1.k = 2 ∧ o.1.d.size = 110
    · rw [if_pos h2, if_neg (by
        rw [badR, decide_eq_true_eq]
        rintro (h | h | h | h | h | h)
        · exact h rfl
        · exact h g1
        · exact h i1
        · exact h.1 h2.1
        · exact h.2 h2.2
        · omega), if_neg (by rw [h2.1]; decide)]
      exact rr_eq rd fr n (i + 1) g _ (by rw [List.length_append, hl, hdl, h2.2]; omega)
    rw [if_neg h2]
    by_cases h3 : o.1.k = 3
    · by_cases h4 : 0 < i ∧ o.1.d.size = 0
      · rw [if_pos (show badR i i g o.1 = true by rw [badR]; exact decide_eq_true (.inr (.inr (.inr (.inr (.inr h4))))))]
        split
        · rfl
        · rw [if_pos (.inr (by rw [List.length_append, hl, hdl, h4.2]; unfold np; omega))]
      · rw [if_neg (show ¬ badR i i g o.1 = true by
          rw [badR, decide_eq_true_eq]
          rintro (h | h | h | h | h | h)
          · exact h rfl
          · exact h g1
          · exact h i1
          · exact h.2 h3
          · omega
          · exact h4 h), if_pos h3]
        unfold wholeS
        by_cases h5 : (out ++ o.1.d.data.toList).length < 4
        · rw [if_pos (.inr h5), if_pos h5]
        rw [if_neg (fun h => h.elim (fun h => h h3) h5), if_neg h5]
        have hnp : np (out ++ o.1.d.data.toList).length = i + 1 := by
          rw [List.length_append, hl, hdl] at h5 ⊢
          unfold np; omega
        rw [hnp]
        by_cases h6 : summedL ((out ++ o.1.d.data.toList).take ((out ++ o.1.d.data.toList).length - 4)) = out ++ o.1.d.data.toList
        · rw [if_neg (fun h => h.elim (fun h => h h6) (fun h => h rfl)), if_pos h6]
        · rw [if_pos (.inl h6), if_neg h6]
    · rw [if_pos (.inl h3)]
      by_cases h4 : badR i i g o.1 = true
      · rw [if_pos h4]
      · exfalso
        apply h4
        rw [badR]
        refine decide_eq_true ?_
        by_cases h5 : o.1.k = 2
        · exact .inr (.inr (.inr (.inr (.inl ⟨h5, fun e => h2 ⟨h5, e⟩⟩))))
        · exact .inr (.inr (.inr (.inl ⟨h5, h3⟩)))
theorem rr_readS (rd : List ByteArray) (fr room : Nat) : rrGo rd fr room 0 0 [] = readS rd fr room := rr_eq rd fr room 0 0 [] rfl
end Go.Proofs.YtknbhgodhmcemaaDoor.So
namespace Go.Proofs.YtknbhgodhmcemaaDoor.Seg
section
variable {P : Program}
theorem addr_add (g o j : Nat) : (⟨g, o, none⟩ : Addr).add j = ⟨g, o + j, none⟩ := by unfold Addr.add; split <;> simp_all
end
end Go.Proofs.YtknbhgodhmcemaaDoor.Seg
