/- seal.Close's number: the bytes of a number, the highest first, into a builder. -/
import Derived.Test.YtombochecgjmjaaDoorSlSum
import Derived.OwnWalk
namespace Go.Proofs.YtombochecgjmjaaDoor.Sl
set_option linter.unusedSimpArgs false
open Go.RowKit

/-- The first d of a number's n bytes, the highest first. -/
def bw (v n : Nat) : Nat → List UInt8
  | 0 => []
  | d + 1 => bw v n d ++ [UInt8.ofNat (v / 256 ^ (n - 1 - d))]
def be (v n : Nat) : List UInt8 := bw v n n
theorem bw_len (v n : Nat) : ∀ d, (bw v n d).length = d
  | 0 => rfl
  | d + 1 => by simp [bw, bw_len v n d]
theorem be_len (v n : Nat) : (be v n).length = n := bw_len v n n
theorem shr_eq (v i : Nat) : (v : Int) / 2 ^ (8 * i) = ((v / 256 ^ i : Nat) : Int) := by
  rw [Int.pow_mul, show (2 : Int) ^ 8 = ((256 : Nat) : Int) by decide, ← Int.natCast_pow, Int.natCast_ediv]
theorem byte_cell (x : Nat) : Value.int .u8 (((x : Nat) : Int) % 256) = Value.int .u8 ((UInt8.ofNat x).toNat : Nat) := by
  congr 1

set_option maxRecDepth 100000 in
set_option maxHeartbeats 400000 in
theorem number_calls (B b : Nat) (l : List UInt8) (v n : Nat) (w : World) (hv : v < 18446744073709551616) (hn : n ≤ 8)
    (h : Lib.IsBuilderF 47 5 B b (Lib.byteCells l) w) (hlen : l.length ≤ 100000) (hBw : B ≤ w.heap.size) :
    Calls Tryd.prog 17 #[.int .u64 v, .int .i64 n, .pointer (some ⟨b, 0, none⟩)] w fun e w' => e = .returned (.tuple #[]) ∧
      Lib.IsBuilderF 47 5 B b (Lib.byteCells (l ++ be v n)) w' ∧ Below B w w' ∧ Lib.OthersKept 5 (some b) w w' := by
  have HH := Aside0.mk (show Lib.IsBuilderF 47 5 B b (Lib.byteCells (l ++ bw v n 0)) w ∧ Below B w w ∧ Lib.OthersKept 5 (some b) w w from ⟨by simpa [bw] using h, Below.refl _ _, Lib.OthersKept.refl _ _ _⟩)
  clear h
  have hv0 : 0 ≤ (v : Int) := by omega
  have hv1 : (v : Int) < 18446744073709551616 := by omega
  go_enter Tryd.func17, Tryd.ntmps17
  go_wp2
  go_loopw [5] (fun i W => ∃ (x : Int) (d : Nat), i = .int .i64 x ∧ -1 ≤ x ∧ x + d = (n : Int) - 1 ∧ Aside0 (Lib.IsBuilderF 47 5 B b (Lib.byteCells (l ++ bw v n d)) W ∧ Below B w W ∧ Lib.OthersKept 5 (some b) w W)) (fun i _ => (intOf i + 1).toNat)
  case atStart => exact ⟨_, 0, rfl, by omega, by omega, HH⟩
  case round =>
    obtain ⟨x, d, rfl, hx0, hxd, HS⟩ := hrel
    clear HH
    by_cases hlt : 0 ≤ x
    · obtain ⟨X, rfl⟩ := Int.eq_ofNat_of_zero_le hlt
      have hX : (X : Int) < 8 := by omega
      have e1 := shr_eq v X
      have K := Bld.writeByte B b (Lib.byteCells (l ++ bw v n d)) ((v : Int) / 2 ^ (8 * X) % 256) wr HS.out.1 (by rw [Lib.byteCells_length, List.length_append, bw_len]; omega) (Nat.le_trans hBw HS.out.2.1.size)
      have E := Aside0.mk (show Lib.byteCells (l ++ bw v n d) ++ [.int .u8 ((v : Int) / 2 ^ (8 * X) % 256)] = Lib.byteCells (l ++ bw v n (d + 1)) by
        rw [e1, byte_cell, bw, show n - 1 - d = X by omega, ← List.append_assoc, Lib.byteCells_append _ [_]]; rfl)
      have KK := Aside0.mk K
      clear K e1
      go_wp2_with fail
      refine KK.out.mono ?_
      rintro e w2 ⟨rfl, h2, hb2, hk2⟩
      rw [E.out] at h2
      have H2 := Aside0.mk (And.intro (show Lib.IsBuilderF 47 5 B b (Lib.byteCells (l ++ bw v n (d + 1))) w2 from .inr h2) (And.intro (HS.out.2.1.trans hb2) (HS.out.2.2.trans hk2)))
      clear h2 hb2 hk2 HS KK E
      go_wp2
      go_roundw
      case rel => exact ⟨(X : Int) - 1, d + 1, rfl, by omega, by omega, H2⟩
      case measure => simp [intOf]
    · obtain rfl : x = -1 := by omega
      obtain rfl : d = n := by omega
      have HX := Aside0.mk HS.out
      clear HS
      go_wp2
      go_end0
      exact ⟨rfl, HX.out⟩
end Go.Proofs.YtombochecgjmjaaDoor.Sl
