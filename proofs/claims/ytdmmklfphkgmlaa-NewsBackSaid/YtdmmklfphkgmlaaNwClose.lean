/- News, rounds: CloseRound, the program's and the document's, by own walks. -/
import Derived.Test.YtdmmklfphkgmlaaBaNwR
import Derived.Test.YtdmmklfphkgmlaaBcOctR
namespace Go.Proofs.Ytdmmklfphkgmlaa.Ba
open Go.RowKit Go.Proofs.YtdmmklfphkgmlaaW.PrintWords Go.Proofs.YtdmmklfphkgmlaaW.PrintLast Go.Proofs.YtdmmklfphkgmlaaW.PrintMore Go.Proofs.Ytdmmklfphkgmlaa.Om

theorem number_fin (v n : Int) (h0 : 0 ≤ v) (h1 : v < 18446744073709551616) (w : World) : Calls Try.prog 54 #[.int .u64 v, .int .i64 n] w fun e w' => e = .returned (.string (putS v n).1) ∧ Below w.heap.size w w' :=
  news_number.calls 20 v n _ w (by unfold news_number.f; rw [put_any v n h0 h1 20 (by omega)]; rfl)
theorem rnumber_fin (v n : Int) (h0 : 0 ≤ v) (h1 : v < 18446744073709551616) (w : World) : Calls Try.prog 55 #[.int .u64 v, .int .i64 n] w fun e w' => e = .returned (.string (putS v n).1) ∧ Below w.heap.size w w' :=
  chaffref19_num.calls 20 v n _ w (by unfold chaffref19_num.f; rw [rput_any v n h0 h1 20 (by omega)]; rfl)
theorem putS_ok (v : Int) (n : Nat) (h1 : 1 ≤ n) (h8 : n ≤ 8) (h : v < 256 ^ n) : (putS v n).1 = num n v := by
  unfold putS
  rw [Int.toNat_natCast, if_pos ⟨by omega, by omega, h⟩]

/-- A round's bytes. -/
def roundB (n e c : Int) : ByteArray := (⟨#[82]⟩ : ByteArray) ++ num 8 n ++ num 4 e ++ num 1 c

def CS (w : World) (n e c : Int) (W : World) : Prop :=
  Below w.heap.size w W ∧ W.cell? ⟨w.heap.size, 0, none⟩ = some (.int .u64 n) ∧ W.cell? ⟨w.heap.size, 1, none⟩ = some (.int .u32 e) ∧ W.cell? ⟨w.heap.size, 2, none⟩ = some (.int .u8 c)
theorem CS.step {w W W' : World} {n e c : Int} (h : CS w n e c W) (hb : Below W.heap.size W W') : CS w n e c W' :=
  ⟨h.1.trans (hb.mono h.1.size), pw_cell_below hb h.2.1, pw_cell_below hb h.2.2.1, pw_cell_below hb h.2.2.2⟩

set_option maxRecDepth 100000 in
set_option maxHeartbeats 1000000 in
theorem closeRound_fin (n e c : Int) (n0 : 0 ≤ n) (n1 : n < 18446744073709551616) (e0 : 0 ≤ e) (e1 : e < 4294967296) (c0 : 0 ≤ c) (c1 : c < 256) (w : World) :
    Calls Try.prog 36 #[.agg #[.int .u64 n, .int .u32 e, .int .u8 c]] w fun r w' => r = .returned (.string (roundB n e c)) ∧ Below w.heap.size w w' := by
  obtain ⟨A, hA⟩ : ∃ A, num 8 n = A := ⟨_, rfl⟩
  obtain ⟨B, hB⟩ : ∃ B, num 4 e = B := ⟨_, rfl⟩
  obtain ⟨C, hC⟩ : ∃ C, num 1 c = C := ⟨_, rfl⟩
  have sA : A.size = 8 := by rw [← hA, num_size]
  have sB : B.size = 4 := by rw [← hB, num_size]
  have sC : C.size = 1 := by rw [← hC, num_size]
  have kA : ∀ W : World, Calls Try.prog 54 #[.int .u64 n, .int .i64 8] W fun r w' => r = .returned (.string A) ∧ Below W.heap.size W w' := fun W => by
    have := number_fin n 8 n0 n1 W; rw [show (putS n 8).1 = A from (putS_ok n 8 (by decide) (by decide) (by simpa using n1)).trans hA] at this; exact this
  have kB : ∀ W : World, Calls Try.prog 54 #[.int .u64 e, .int .i64 4] W fun r w' => r = .returned (.string B) ∧ Below W.heap.size W w' := fun W => by
    have := number_fin e 4 e0 (by omega) W; rw [show (putS e 4).1 = B from (putS_ok e 4 (by decide) (by decide) (by simpa using e1)).trans hB] at this; exact this
  have kC : ∀ W : World, Calls Try.prog 54 #[.int .u64 c, .int .i64 1] W fun r w' => r = .returned (.string C) ∧ Below W.heap.size W w' := fun W => by
    have := number_fin c 1 c0 (by omega) W; rw [show (putS c 1).1 = C from (putS_ok c 1 (by decide) (by decide) (by simpa using c1)).trans hC] at this; exact this
  have KA := Aside0.mk kA
  have KB := Aside0.mk kB
  have KC := Aside0.mk kC
  unfold roundB
  rw [hA, hB, hC]
  clear hA hB hC kA kB kC
  go_enter Try.func36, Try.ntmps36
  go_wp2_with fail
  have hb0 : Below w.heap.size w (w.alloc (.cells #[.int .u64 n, .int .u32 e, .int .u8 c] 71)).drew := ((Below.refl _ _).alloc (Nat.le_refl _) _).drew
  have we : IntKind.u64.wrap e = e := u64w e0 (by omega)
  have wc : IntKind.u64.wrap c = c := u64w c0 (by omega)
  go_region_held3 (fun W => Below w.heap.size w W ∧ W.cell? ⟨w.heap.size, 0, none⟩ = some (.int .u64 n) ∧ W.cell? ⟨w.heap.size, 1, none⟩ = some (.int .u32 e) ∧ W.cell? ⟨w.heap.size, 2, none⟩ = some (.int .u8 c))
    (first | go_keep | exact CS.step (W := _) (by assumption) hb)
    ((first | (go_at_call 54; with_reducible refine (KA.out _).mono ?_; rintro r w1 ⟨rfl, hb⟩) | (go_at_call 54; with_reducible refine (KB.out _).mono ?_; rintro r w1 ⟨rfl, hb⟩) | (go_at_call 54; with_reducible refine (KC.out _).mono ?_; rintro r w1 ⟨rfl, hb⟩)))
  go_wp2
  go_ret
  exact ⟨rfl, And.left (show CS w n e c w1 by assumption)⟩

set_option maxRecDepth 100000 in
set_option maxHeartbeats 1000000 in
theorem rcloseRound_fin (n e c : Int) (n0 : 0 ≤ n) (n1 : n < 18446744073709551616) (e0 : 0 ≤ e) (e1 : e < 4294967296) (c0 : 0 ≤ c) (c1 : c < 256) (w : World) :
    Calls Try.prog 37 #[.agg #[.int .u64 n, .int .u32 e, .int .u8 c]] w fun r w' => r = .returned (.string (roundB n e c)) ∧ Below w.heap.size w w' := by
  obtain ⟨A, hA⟩ : ∃ A, num 8 n = A := ⟨_, rfl⟩
  obtain ⟨B, hB⟩ : ∃ B, num 4 e = B := ⟨_, rfl⟩
  obtain ⟨C, hC⟩ : ∃ C, num 1 c = C := ⟨_, rfl⟩
  have sA : A.size = 8 := by rw [← hA, num_size]
  have sB : B.size = 4 := by rw [← hB, num_size]
  have sC : C.size = 1 := by rw [← hC, num_size]
  have kA : ∀ W : World, Calls Try.prog 55 #[.int .u64 n, .int .i64 8] W fun r w' => r = .returned (.string A) ∧ Below W.heap.size W w' := fun W => by
    have := rnumber_fin n 8 n0 n1 W; rw [show (putS n 8).1 = A from (putS_ok n 8 (by decide) (by decide) (by simpa using n1)).trans hA] at this; exact this
  have kB : ∀ W : World, Calls Try.prog 55 #[.int .u64 e, .int .i64 4] W fun r w' => r = .returned (.string B) ∧ Below W.heap.size W w' := fun W => by
    have := rnumber_fin e 4 e0 (by omega) W; rw [show (putS e 4).1 = B from (putS_ok e 4 (by decide) (by decide) (by simpa using e1)).trans hB] at this; exact this
  have kC : ∀ W : World, Calls Try.prog 55 #[.int .u64 c, .int .i64 1] W fun r w' => r = .returned (.string C) ∧ Below W.heap.size W w' := fun W => by
    have := rnumber_fin c 1 c0 (by omega) W; rw [show (putS c 1).1 = C from (putS_ok c 1 (by decide) (by decide) (by simpa using c1)).trans hC] at this; exact this
  have KA := Aside0.mk kA
  have KB := Aside0.mk kB
  have KC := Aside0.mk kC
  unfold roundB
  rw [hA, hB, hC]
  clear hA hB hC kA kB kC
  go_enter Try.func37, Try.ntmps37
  go_wp2_with fail
  have hb0 : Below w.heap.size w (w.alloc (.cells #[.int .u64 n, .int .u32 e, .int .u8 c] 74)).drew := ((Below.refl _ _).alloc (Nat.le_refl _) _).drew
  have we : IntKind.u64.wrap e = e := u64w e0 (by omega)
  have wc : IntKind.u64.wrap c = c := u64w c0 (by omega)
  go_region_held3 (fun W => Below w.heap.size w W ∧ W.cell? ⟨w.heap.size, 0, none⟩ = some (.int .u64 n) ∧ W.cell? ⟨w.heap.size, 1, none⟩ = some (.int .u32 e) ∧ W.cell? ⟨w.heap.size, 2, none⟩ = some (.int .u8 c))
    (first | go_keep | exact CS.step (W := _) (by assumption) hb)
    ((first | (go_at_call 55; with_reducible refine (KA.out _).mono ?_; rintro r w1 ⟨rfl, hb⟩) | (go_at_call 55; with_reducible refine (KB.out _).mono ?_; rintro r w1 ⟨rfl, hb⟩) | (go_at_call 55; with_reducible refine (KC.out _).mono ?_; rintro r w1 ⟨rfl, hb⟩)))
  go_wp2
  go_ret
  exact ⟨rfl, And.left (show CS w n e c w1 by assumption)⟩

set_option maxRecDepth 100000 in
theorem awake19_fin (w : World) : Calls Try.prog 33 #[] w fun e w' => e = .returned (.bool true) ∧ Below w.heap.size w w' := by
  have hr : roundB 1 2 3 = ⟨#[82, 0, 0, 0, 0, 0, 0, 0, 1, 0, 0, 0, 2, 3]⟩ := by rfl
  have kA : ∀ W : World, Calls Try.prog 36 #[.agg #[.int .u64 1, .int .u32 2, .int .u8 3]] W fun r w' => r = .returned (.string ⟨#[82, 0, 0, 0, 0, 0, 0, 0, 1, 0, 0, 0, 2, 3]⟩) ∧ Below W.heap.size W w' := fun W => by
    have := closeRound_fin 1 2 3 (by decide) (by decide) (by decide) (by decide) (by decide) (by decide) W
    rw [hr] at this; exact this
  have KA := Aside0.mk kA
  clear kA hr
  go_enter Try.func33, Try.ntmps33
  go_wp2_with fail
  refine (chafflaw17_Awake.calls 20 true _ (awake_any 20 (by omega))).mono ?_
  rintro e w1 ⟨rfl, h1⟩
  have H1 := Aside0.mk h1; clear h1
  go_wp2_with fail
  refine (KA.out _).mono ?_
  rintro e w2 ⟨rfl, h2⟩
  have H2 := Aside0.mk (below_step H1.out h2); clear h2 H1
  go_wp2
  go_ret
  exact ⟨by simp, H2.out⟩

end Go.Proofs.Ytdmmklfphkgmlaa.Ba
