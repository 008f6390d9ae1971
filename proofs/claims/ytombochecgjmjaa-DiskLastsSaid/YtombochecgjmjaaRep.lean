/- strings.Repeat, over this program's numbers: copies of a text that is not empty, within one allocation. -/
import Derived.Test.YtombochecgjmjaaBld
import Derived.Lib.RepeatB
import Derived.Deep.LoopGhost
import Derived.Deep.DeepCutAuto
import Derived.Deep.DeepFit
import Derived.Deep.CutBlock
namespace Go.Proofs.Ytombochecgjmjaa.Rep
set_option linter.unusedSimpArgs false
set_option linter.unusedVariables false
open Go.RowKit Go.Lib

theorem run_min_int3 {P : Program} {w : World} (ts : Array TypeId) (t : TypeId) (k k' k'' : IntKind) (x y z : Int) :
    (Builtin.min_ ts t #[.int k x, .int k' y, .int k'' z]).run P w = .ok (.int k (if z < (if y < x then y else x) then z else (if y < x then y else x))) w := by
  simp [Builtin.min_, Builtin.min2]

set_option maxHeartbeats 1600000 in
set_option maxRecDepth 1000000 in
/-- At least two copies. -/
theorem repeat_main (s : ByteArray) (c : Nat) (w : World) (hc2 : 2 ≤ c) (hc : c ≤ 9223372036854775807) (hlen : s.size * c ≤ 140737488355328) (h0 : 0 < s.size) :
    Calls Try.prog 24 #[.string s, .int .i64 c] w fun e w' => e = .returned (.string ⟨(Lib.repeatL s.data.toList c).toArray⟩) ∧ Below w.heap.size w w' := by
  have hsz : s.size ≤ 140737488355328 := Nat.le_trans (Nat.le_mul_of_pos_right _ (by omega)) hlen
  have hMul := Try.bits_Mul s.size c (by omega) (by omega) w
  rw [Nat.div_eq_of_lt (by omega : s.size * c < 18446744073709551616), Nat.mod_eq_of_lt (by omega : s.size * c < 18446744073709551616)] at hMul
  obtain ⟨n, hn⟩ : ∃ n, s.size * c = n := ⟨_, rfl⟩
  rw [hn] at hMul hlen
  have HN : Aside (s.size * c = n) := hn
  clear hn
  have hq8 : wrap64 (8192 / (s.size : Int) * (s.size : Int)) = ((8192 / s.size * s.size : Nat) : Int) := by
    have e : (8192 : Int) / (s.size : Int) * (s.size : Int) = ((8192 / s.size * s.size : Nat) : Int) := by
      rw [Int.natCast_mul, Int.natCast_ediv]
      rfl
    have hle : 8192 / s.size * s.size ≤ 8192 := Nat.div_mul_le_self 8192 s.size
    rw [e]
    unfold wrap64
    omega
  go_enter Try.func24, Try.ntmps24
  go_upto_block 1 with (go_at_call 44; refine hMul.mono ?_; rintro e w' ⟨rfl, hw⟩; rw [hw])
  clear hMul
  go_cut [] (fun wx => w = wx)
  case first =>
    go_upto_if 43 with fail
    go_cut [43] (fun s43 wx => w = wx ∧ ∃ B : Bool, s43 = .bool B)
    case first =>
      go_wp2
      all_goals (go_meet; exact ⟨rfl, _, rfl⟩)
    case rest =>
      obtain ⟨rfl, B, rfl⟩ := hcut
      cases B
      · go_wp2
        go_meet
        rfl
      · go_wp2_with (go_at_call 45; refine (Try.strings_HasPrefix _ _ _).mono ?_; rintro e w' ⟨rfl, hw⟩; rw [hw])
        all_goals (first
          | (go_meet; rfl)
          | (go_ret; first
              | exact ⟨by rw [Lib.fast_ok _ 32 128 (by rfl) s c n HN.out (by omega) (by assumption)] <;> rfl, Below.refl _ _⟩
              | exact ⟨by rw [Lib.fast_ok _ 45 128 (by rfl) s c n HN.out (by omega) (by assumption)] <;> rfl, Below.refl _ _⟩
              | exact ⟨by rw [Lib.fast_ok _ 48 64 (by rfl) s c n HN.out (by omega) (by assumption)] <;> rfl, Below.refl _ _⟩
              | exact ⟨by rw [Lib.fast_ok _ 61 128 (by rfl) s c n HN.out (by omega) (by assumption)] <;> rfl, Below.refl _ _⟩
              | exact ⟨by rw [Lib.fast_ok _ 9 64 (by rfl) s c n HN.out (by omega) (by assumption)] <;> rfl, Below.refl _ _⟩))
  case rest =>
    obtain rfl := hcut
    go_upto_if 96 with fail
    go_cut [8] (fun s8 wx => w = wx ∧ ∃ m : Nat, 1 ≤ m ∧ s8 = .int .i64 ((m * s.size : Nat) : Int))
    case first =>
      go_wp2
      · go_meet
        exact ⟨rfl, 1, Nat.le_refl _, by rw [Nat.one_mul]⟩
      · go_meet
        refine ⟨rfl, 8192 / s.size, ?_, by rw [hq8]⟩
        rcases Nat.eq_zero_or_pos (8192 / s.size) with hz | hz
        · rename_i hne
          have e0 : (8192 : Int) / (s.size : Int) = ((8192 / s.size : Nat) : Int) := by rw [Int.natCast_ediv]; rfl
          first | rw [hq8, hz] at hne | rw [e0, hz] at hne
          simp at hne
        · exact hz
      · go_meet
        exact ⟨rfl, c, by omega, by rw [Nat.mul_comm, HN.out]⟩
    case rest =>
      obtain ⟨rfl, m, hm1, rfl⟩ := hcut
      clear hq8
      obtain ⟨CM, hCM⟩ : ∃ CM, m * s.size = CM := ⟨_, rfl⟩
      rw [hCM]
      have HCM : Aside (m * s.size = CM) := hCM
      clear hCM
      have b0 : Below w.heap.size w (w.alloc (.cells #[.pointer none, .slice none 0 0] 81)) := (Below.refl _ w).alloc (Nat.le_refl _) _
      have cG := Try.Builder_Grow_fresh w.heap.size w.heap.size n (w.alloc (.cells #[.pointer none, .slice none 0 0] 81)) (Nat.le_refl _) (heap_alloc_new w _) b0.size (by omega)
      go_wp2_with (go_at_call 46; refine cG.mono ?_; rintro e W1 ⟨rfl, h1, b1⟩)
      clear cG
      have cW := Bld.writeString w.heap.size w.heap.size [] s W1 (Lib.IsBuilderF.of (Or.inr h1)) (by simp; omega) (Nat.le_trans b0.size b1.size)
      go_wp2_with (go_at_call 41; refine cW.mono ?_; rintro e W2 ⟨rfl, h2, b2, _⟩)
      clear cW h1
      have h2' : Lib.IsBuilderF 81 5 w.heap.size w.heap.size (Lib.byteCells (Lib.repeatL s.data.toList 1)) W2 := by
        rw [List.nil_append, Lib.strCells_eq] at h2
        rw [Lib.repeatL_one]
        exact Or.inr h2
      have b02 : Below w.heap.size w W2 := b0.trans (b1.trans b2)
      clear h2 b0 b1 b2
      go_loopg [] (c - 1) (fun g wx => ∃ q : Nat, 1 ≤ q ∧ q + g = c ∧ Lib.IsBuilderF 81 5 w.heap.size w.heap.size (Lib.byteCells (Lib.repeatL s.data.toList q)) wx ∧ Below w.heap.size w wx)
      case atStart => exact ⟨1, Nat.le_refl _, by omega, h2', b02⟩
      case round =>
        obtain ⟨q, hq1, hqg, hB, hbx⟩ := hrel
        obtain ⟨Q, hQ⟩ : ∃ Q, q * s.size = Q := ⟨_, rfl⟩
        have hlq : (Lib.byteCells (Lib.repeatL s.data.toList q)).length = Q := by rw [Lib.byteCells_length, Lib.repeatL_length, ← Lib.size_eq, hQ]
        have cLen := Bld.len w.heap.size w.heap.size _ wr hB
        rw [hlq] at cLen
        have hnc : c * s.size = n := by rw [Nat.mul_comm]; exact HN.out
        obtain ⟨S, hS⟩ : ∃ S : ByteArray, (⟨(Lib.repeatL s.data.toList q).toArray⟩ : ByteArray) = S := ⟨_, rfl⟩
        have hSd : S.data.toList = Lib.repeatL s.data.toList q := by rw [← hS]
        have hSz : S.size = Q := by rw [Lib.size_eq, hSd, Lib.repeatL_length, ← Lib.size_eq, hQ]
        have cStr := Try.Builder_String_any_f w.heap.size w.heap.size (Lib.repeatL s.data.toList q) wr hB hbx.size
        rw [hS] at cStr
        cases gk with
        | zero =>
          obtain rfl : q = c := by omega
          have hQn : ¬ ((Q : Int) < (n : Int)) := by omega
          go_wp2_with (first
            | (go_at_call 42; refine cLen.mono ?_; rintro e w' ⟨rfl, hw⟩; rw [hw])
            | (go_at_call 43; refine cStr.mono ?_; rintro e W3 ⟨rfl, h3, b3⟩))
          go_ret
          exact ⟨by rw [hS] <;> rfl, hbx.trans b3⟩
        | succ g =>
          have hqc : q < c := by omega
          obtain ⟨k, hk1, hkq, hkc, hmin⟩ := Lib.chunk_ok c q m s.size hq1 hqc hm1
          rw [hnc, hQ, HCM.out] at hmin
          obtain ⟨CH, hCH⟩ : ∃ CH, k * s.size = CH := ⟨_, rfl⟩
          rw [hCH] at hmin
          have hQn : (Q : Int) < (n : Int) := by
            have h1 : (q + 1) * s.size ≤ c * s.size := Nat.mul_le_mul_right _ hqc
            rw [Nat.succ_mul, hQ, hnc] at h1
            omega
          have hCHQ : CH ≤ Q := by rw [← hCH, ← hQ]; exact Nat.mul_le_mul_right _ hkq
          have hsum : Q + CH ≤ n := by
            have h1 : (q + k) * s.size ≤ c * s.size := Nat.mul_le_mul_right _ hkc
            rw [Nat.add_mul, hQ, hCH, hnc] at h1
            exact h1
          have hmin3 : ∀ (ts : Array TypeId) (t : TypeId) (W : World), (Builtin.min_ ts t #[.int .i64 ((n : Int) - (Q : Int)), .int .i64 (Q : Int), .int .i64 (CM : Int)]).run Try.prog W = .ok (.int .i64 (CH : Int)) W := fun ts t W => by
            rw [run_min_int3]
            congr 2
            rw [← hmin]
            omega
          clear hmin
          go_wp2_with (first
            | (go_at_call 42; refine cLen.mono ?_; rintro e w' ⟨rfl, hw⟩; rw [hw])
            | (go_at_call 43; refine cStr.mono ?_; rintro e W3 ⟨rfl, h3, b3⟩))
          have cWr := Bld.writeString w.heap.size w.heap.size _ (S.extract 0 CH) W3 h3 (by
            rw [hlq, Lib.size_eq, Lib.extract_data, hSd]
            simp only [List.drop_zero, Nat.sub_zero, List.length_take, Lib.repeatL_length]
            omega) (Nat.le_trans hbx.size b3.size)
          go_wp2_with (go_at_call 41; refine cWr.mono ?_; rintro e W4 ⟨rfl, h4, b4, _⟩)
          go_roundg (c - (q + k))
          case measure => omega
          case rel =>
            refine ⟨q + k, by omega, by omega, Or.inr ?_, hbx.trans (b3.trans b4)⟩
            rw [Lib.strCells_eq, ← Lib.byteCells_append, Lib.extract_data, hSd] at h4
            simp only [List.drop_zero, Nat.sub_zero] at h4
            rw [← hCH, Lib.size_eq, Lib.step_ok _ _ _ hkq] at h4
            exact h4

set_option maxRecDepth 1000000 in
theorem repeat_zero (s : ByteArray) (w : World) :
    Calls Try.prog 24 #[.string s, .int .i64 0] w fun e w' => e = .returned (.string ⟨#[]⟩) ∧ w' = w := by
  go_enter Try.func24, Try.ntmps24
  go_wp2
  go_ret
  exact ⟨rfl, rfl⟩

set_option maxRecDepth 1000000 in
theorem repeat_one (s : ByteArray) (w : World) :
    Calls Try.prog 24 #[.string s, .int .i64 1] w fun e w' => e = .returned (.string s) ∧ w' = w := by
  go_enter Try.func24, Try.ntmps24
  go_wp2
  go_ret
  exact ⟨rfl, rfl⟩

/-- Copies of a text that is not empty. -/
theorem repeat_calls (s : ByteArray) (c : Nat) (w : World) (hc : c ≤ 9223372036854775807) (hlen : s.size * c ≤ 140737488355328) (h0 : 0 < s.size) :
    Calls Try.prog 24 #[.string s, .int .i64 c] w fun e w' => e = .returned (.string ⟨(Lib.repeatL s.data.toList c).toArray⟩) ∧ Below w.heap.size w w' := by
  match c, hc, hlen with
  | 0, _, _ => exact (repeat_zero s w).mono fun e w' ⟨he, hw⟩ => ⟨he, hw ▸ Below.refl _ _⟩
  | 1, _, _ => exact (repeat_one s w).mono fun e w' ⟨he, hw⟩ => ⟨by rw [he, Lib.repeatL_one, Lib.mk_data], hw ▸ Below.refl _ _⟩
  | c + 2, hc, hlen => exact repeat_main s (c + 2) w (by omega) hc hlen h0
end Go.Proofs.Ytombochecgjmjaa.Rep
