/- Sectors of one byte. -/
import Derived.Test.YtombochecgjmjaaDkSm
namespace Go.Proofs.Ytombochecgjmjaa.Dk
set_option linter.unusedSimpArgs false
set_option linter.unusedVariables false
open Go.RowKit Go.Proofs.Ytombochecgjmjaa.Own Go.Proofs.Ytombochecgjmjaa.Cel

/-- A sector of one byte. -/
def sect (b : UInt8) : ByteArray := ⟨(List.replicate 128 b).toArray⟩
theorem sect_size (b : UInt8) : (sect b).size = 128 := by show (List.replicate 128 b).toArray.size = 128; simp
theorem info8 : (Try.prog.info? 5).map (fun i => (i.zero, i.size, i.bytes)) = some (some (.int .u8 0), 1, 1) := by kernel_rfl
/-- The bytes, j of them done. -/
def fl (b : UInt8) (j : Nat) : List UInt8 := List.replicate j b ++ List.replicate (128 - j) 0
theorem fl_len (b : UInt8) (j : Nat) (h : j ≤ 128) : (fl b j).length = 128 := by simp [fl]; omega
theorem fl_step (b : UInt8) (j : Nat) (h : j < 128) : (Lib.byteCells (fl b j)).set j (.int .u8 (b.toNat : Nat)) = Lib.byteCells (fl b (j + 1)) := by
  have e : (Lib.byteCells (fl b j)).set j (.int .u8 (b.toNat : Nat)) = Lib.byteCells ((fl b j).set j b) := by simp [Lib.byteCells, List.map_set]
  rw [e]
  congr 1
  rw [fl, List.set_append_right _ _ (by simp), List.length_replicate, Nat.sub_self, show 128 - j = (128 - (j + 1)) + 1 by omega, List.replicate_succ, List.set_cons_zero, fl, List.replicate_succ']
  simp
theorem owns_string {W : World} {base : Nat} {v : Value} {l : List UInt8} (h : W.ownsRow base 5 1 v l.length (Lib.byteCells l)) (hl : l ≠ []) :
    (convert 37 9 v).run Try.prog W = .ok (.string ⟨l.toArray⟩) W := by
  rcases h.2 with ⟨rfl, h0⟩ | ⟨g, cap, cur, rfl, _⟩
  · exact absurd (List.length_eq_zero_iff.1 h0) hl
  · refine run_convert_bytes_back (P := Try.prog) W 37 9 5 ⟨g, 0, none⟩ cap l rfl rfl rfl (fun j hj => ?_)
    exact h.cells rfl j _ (by simp [Lib.byteCells, List.getElem?_eq_getElem hj])
theorem make128 (w : World) : ∃ b w', (Instr.makeSlice 37 (.int .i64 128) (.int .i64 128)).run Try.prog w = .ok (.slice (some ⟨b, 0, none⟩) 128 128) w' ∧
    w'.ownsRow w.heap.size 5 1 (.slice (some ⟨b, 0, none⟩) 128 128) 128 (Lib.byteCells (List.replicate 128 0)) ∧ Below w.heap.size w w' ∧ w.heap.size ≤ b := by
  obtain ⟨i0, hi, hz0, hz1, hz2⟩ := info_parts info8
  obtain ⟨w1, hm, ho, hg⟩ := run_makeSlice_full (P := Try.prog) w w.heap.size 37 5 i0 (.int .u8 0) 1 Try.underlying37 hi hz0 hz1 .i64 .i64 128 (by omega) (by rw [hz2]; omega) (by unfold maxLen; omega) (Nat.le_refl _)
  refine ⟨w.heap.size, w1, hm, ?_, (Below.refl _ _).grown hg (Nat.le_refl _) (fun k h => by cases h), Nat.le_refl _⟩
  rw [show Lib.byteCells (List.replicate 128 0) = (madeCells (Value.int .u8 0).cells (128 * 1)).toList by
    show _ = (madeCells #[.int .u8 0] (128 * 1)).toList
    rw [toList_madeCells_one, Nat.mul_one]; simp [Lib.byteCells]]
  exact ho

set_option maxRecDepth 100000 in
theorem fill_calls (b : UInt8) (w : World) : Calls Try.prog 13 #[.int .u8 (b.toNat : Nat)] w fun e w' => e = .returned (.string (sect b)) ∧ Below w.heap.size w w' := by
  obtain ⟨q, w1, hm, ho, hb, hq⟩ := make128 w
  have H1 := Aside0.mk (And.intro (show w1.ownsRow w.heap.size 5 1 (.slice (some ⟨q, 0, none⟩) 128 128) 128 (Lib.byteCells (fl b 0)) from ho) hb)
  obtain ⟨x, hx⟩ : ∃ x : Int, ((b.toNat : Nat) : Int) = x := ⟨_, rfl⟩
  have HX := Aside0.mk hx
  rw [hx]
  clear ho hb hx
  go_enter Try.func13, Try.ntmps13
  go_wp2_with fail
  clear hm
  go_loopw [8] (fun i W => ∃ (j : Nat), i = .int .i64 j ∧ j ≤ 128 ∧ Aside0 (W.ownsRow w.heap.size 5 1 (.slice (some ⟨q, 0, none⟩) 128 128) 128 (Lib.byteCells (fl b j)) ∧ Below w.heap.size w W)) (fun i _ => 128 - (intOf i).toNat)
  case atStart => exact ⟨0, rfl, by omega, H1⟩
  case round =>
    obtain ⟨j, rfl, hj, HS⟩ := hrel
    clear H1
    by_cases hlt : j < 128
    · have hj1 : (j : Int) < 128 := by omega
      obtain ⟨u, hu⟩ : ∃ u, wr.cell? ⟨q, j, none⟩ = some u := by
        have := HS.out.1.cellAt j (by omega)
        rw [List.getElem?_eq_getElem (by rw [Lib.byteCells_length, fl_len b j hj]; exact hlt)] at this
        exact ⟨_, this⟩
      have hfz := HS.out.1.frozenAt j
      have hst := HS.out.1.stored j (.int .u8 (b.toNat : Nat))
      rw [fl_step b j hlt, HX.out] at hst
      have H2 := Aside0.mk (And.intro hst.1 (HS.out.2.setCell hq (.int .u8 x) (p := ⟨q, j, none⟩)))
      clear hst hlt HS
      go_wp2
      go_roundw
      case rel => exact ⟨j + 1, by go_num, by omega, H2⟩
      case measure => simp [intOf]; omega
    · obtain rfl : j = 128 := by omega
      have hstr := owns_string (l := List.replicate 128 b) HS.out.1 (by simp)
      rw [show (⟨(List.replicate 128 b).toArray⟩ : ByteArray) = sect b from rfl] at hstr
      have HB := Aside0.mk HS.out.2
      clear HS
      go_wp2
      go_ret
      exact ⟨rfl, HB.out⟩
set_option maxRecDepth 100000 in
theorem rblank_calls (w : World) : Calls Try.prog 28 #[] w fun e w' => e = .returned (.string (sect 0)) ∧ Below w.heap.size w w' := by
  obtain ⟨q, w1, hm, ho, hb, hq⟩ := make128 w
  have hstr := owns_string (l := List.replicate 128 0) ho (by simp)
  rw [show (⟨(List.replicate 128 0).toArray⟩ : ByteArray) = sect 0 from rfl] at hstr
  have HB := Aside0.mk hb
  clear ho hb
  go_enter Try.func28, Try.ntmps28
  go_wp2
  go_ret
  exact ⟨rfl, HB.out⟩
end Go.Proofs.Ytombochecgjmjaa.Dk
