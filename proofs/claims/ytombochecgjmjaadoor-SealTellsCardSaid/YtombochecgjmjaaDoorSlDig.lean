/- The document's digits. -/
import Derived.Test.YtombochecgjmjaaDoorSlRec
import Derived.Laws.AppendOwn
import Derived.Laws.OwnMore
namespace Go.Proofs.YtombochecgjmjaaDoor.Sl
set_option linter.unusedSimpArgs false
set_option linter.unusedVariables false
open Go.RowKit

theorem bw_cons (v n : Nat) : ∀ d, bw v (n + 1) (d + 1) = UInt8.ofNat (v / 256 ^ n) :: bw v n d
  | 0 => by simp [bw]
  | d + 1 => by
    rw [bw, bw_cons v n d, bw, List.cons_append, show n + 1 - 1 - (d + 1) = n - 1 - d by omega]
theorem be_cons (v d : Nat) : be v (d + 1) = UInt8.ofNat (v / 256 ^ d) :: be v d := bw_cons v d d
/-- The row of digits, d of them done, from behind. -/
def dg (v n d : Nat) : List UInt8 := List.replicate (n - d) 0 ++ be v d
theorem dg_len (v n d : Nat) (h : d ≤ n) : (dg v n d).length = n := by rw [dg, List.length_append, List.length_replicate, be_len]; omega
theorem set_last {α : Type} (l : List α) (x : List α) (y : α) (r : List α) (k : Nat) (hx : x.length = 1) (h : k = l.length) : ((l ++ x) ++ r).set k y = l ++ y :: r := by
  subst h
  obtain ⟨z, rfl⟩ := List.length_eq_one_iff.1 hx
  rw [List.append_assoc, List.set_append_right _ _ (Nat.le_refl _), Nat.sub_self]; rfl
theorem dg_step (v n d k : Nat) (h : k + d + 1 = n) : (Lib.byteCells (dg v n d)).set k (.int .u8 ((UInt8.ofNat (v / 256 ^ d)).toNat : Nat)) = Lib.byteCells (dg v n (d + 1)) := by
  have e : n - d = k + 1 := by omega
  have e2 : n - (d + 1) = k := by omega
  rw [dg, dg, e, e2, be_cons, List.replicate_succ', Lib.byteCells_append, Lib.byteCells_append, Lib.byteCells_append]
  rw [set_last _ _ _ _ k rfl (by simp [Lib.byteCells])]
  simp [Lib.byteCells]
theorem info8 : (Tryd.prog.info? 5).map (fun i => (i.zero, i.size, i.bytes)) = some (some (.int .u8 0), 1, 1) := by kernel_rfl

set_option maxRecDepth 100000 in
theorem digits_calls (v n : Nat) (hn : n ≤ 8) (hv : v < 18446744073709551616) (w : World) :
    Calls Tryd.prog 23 #[.int .u64 (v : Nat), .int .i64 (n : Nat)] w fun e w' => e = .returned (.slice (some ⟨w.heap.size, 0, none⟩) n n) ∧
      w'.ownsRow w.heap.size 5 1 (.slice (some ⟨w.heap.size, 0, none⟩) n n) n (Lib.byteCells (be v n)) ∧ Below w.heap.size w w' := by
  obtain ⟨i0, hi, hz0, hz1, hz2⟩ := info_parts info8
  obtain ⟨w1, hm, ho, hg⟩ := run_makeSlice_full (P := Tryd.prog) w w.heap.size 26 5 i0 (.int .u8 0) 1 Tryd.underlying26 hi hz0 hz1 .i64 .i64 n (by omega) (by rw [hz2]; omega) (by unfold maxLen; omega) (Nat.le_refl _)
  have ho' : w1.ownsRow w.heap.size 5 1 (.slice (some ⟨w.heap.size, 0, none⟩) n n) n (Lib.byteCells (dg v n 0)) := by
    rw [show Lib.byteCells (dg v n 0) = (madeCells (Value.int .u8 0).cells (n * 1)).toList by
      show _ = (madeCells #[.int .u8 0] (n * 1)).toList
      rw [toList_madeCells_one, Nat.mul_one]; simp [dg, be, bw, Lib.byteCells]]
    exact ho
  have hb : Below w.heap.size w w1 := (Below.refl _ _).grown hg (Nat.le_refl _) (fun k h => by cases h)
  obtain ⟨b, hbz⟩ : ∃ b, w.heap.size = b := ⟨_, rfl⟩
  rw [hbz] at ho' hm hb ⊢
  have H1 := Aside0.mk (And.intro ho' hb)
  clear ho ho' hg hb
  go_enter Tryd.func23, Tryd.ntmps23
  go_wp2_with fail
  clear hm
  go_loopw [0, 6] (fun vv i W => ∃ (x : Int) (d : Nat), vv = .int .u64 ((v / 256 ^ d : Nat) : Int) ∧ i = .int .i64 x ∧ -1 ≤ x ∧ x + d = (n : Int) - 1 ∧ Aside0 (W.ownsRow b 5 1 (.slice (some ⟨b, 0, none⟩) n n) n (Lib.byteCells (dg v n d)) ∧ Below b w W)) (fun _ i _ => (intOf i + 1).toNat)
  case atStart => exact ⟨(n : Int) - 1, 0, by simp, by first | rfl | simp, by omega, by omega, H1⟩
  case round =>
    obtain ⟨x, d, rfl, rfl, hx0, hxd, HS⟩ := hrel
    clear H1
    by_cases hlt : 0 ≤ x
    · obtain ⟨X, rfl⟩ := Int.eq_ofNat_of_zero_le hlt
      have hX : (X : Int) < n := by omega
      have hXd : X + d + 1 = n := by omega
      have hXn : X < n := by omega
      obtain ⟨q, hq⟩ : ∃ q, v / 256 ^ d = q := ⟨_, rfl⟩
      have hq1 : v / 256 ^ (d + 1) = q / 256 := by rw [Nat.pow_succ, ← Nat.div_div_eq_div_mul, hq]
      have hql : q < 18446744073709551616 := by rw [← hq]; exact Nat.lt_of_le_of_lt (Nat.div_le_self _ _) hv
      obtain ⟨u, hu⟩ : ∃ u, wr.cell? ⟨b, X, none⟩ = some u := by
        have := HS.out.1.cellAt X (by omega)
        rw [List.getElem?_eq_getElem (by rw [Lib.byteCells_length, dg_len v n d (by omega)]; exact hXn)] at this
        exact ⟨_, this⟩
      have hfz := HS.out.1.frozenAt X
      have hst := HS.out.1.stored X (.int .u8 ((UInt8.ofNat q).toNat : Nat))
      rw [← hq, dg_step v n d X hXd, hq] at hst
      have H2 := Aside0.mk (And.intro hst.1 (HS.out.2.setCell (Nat.le_refl b) (.int .u8 ((UInt8.ofNat q).toNat : Nat)) (p := ⟨b, X, none⟩)))
      have e1 : ((UInt8.ofNat q).toNat : Int) = (q : Int) % 256 := by simp [UInt8.toNat_ofNat]
      rw [e1] at H2
      rw [hq]
      have HQ := Aside0.mk hq1
      clear hst hq hq1 e1 hlt hxd hx0
      go_wp2
      go_roundw
      case rel =>
        exact ⟨(X : Int) - 1, d + 1, by rw [HQ.out]; rfl, rfl, by omega, by omega, H2⟩
      case measure => simp [intOf]
    · obtain rfl : x = -1 := by omega
      obtain rfl : d = n := by omega
      have e : dg v d d = be v d := by simp [dg]
      rw [e] at HS
      have HX := Aside0.mk HS.out
      clear HS
      go_wp2
      go_ret
      exact ⟨rfl, HX.out⟩
theorem digits2_calls (v n : Nat) (hn : n ≤ 8) (hv : v < 18446744073709551616) (w : World) :
    Calls Tryd.prog 23 #[.int .u64 (v : Nat), .int .i64 (n : Nat)] w fun e w' => ∃ q, e = .returned (.slice (some ⟨q, 0, none⟩) n n) ∧
      w'.ownsRow w.heap.size 5 1 (.slice (some ⟨q, 0, none⟩) n n) n (Lib.byteCells (be v n)) ∧ Below w.heap.size w w' :=
  (digits_calls v n hn hv w).mono fun _ _ h => ⟨_, h⟩
end Go.Proofs.YtombochecgjmjaaDoor.Sl
