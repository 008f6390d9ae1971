/- A law's argument that is a slice of bytes: opened. -/
import Derived.Test.YtombochecgjmjaaDkLasts
import Derived.ChangeArms
import Derived.ChangeSlices
import Derived.WideShapes
import Derived.DataReads
namespace Go.Proofs.Ytombochecgjmjaa.Dk
set_option linter.unusedVariables false
open Go.RowKit Go.Proofs.Ytombochecgjmjaa.Own Go.Proofs.Ytombochecgjmjaa.Cel

theorem open_bs {H : Type} {enc : TypeId × Value → H} {W : World} {base : Nat} {spare : Nat → Bool} {held : Bool} {r : Reach} {b0 : Nat} {v : Value} {d : DataW H} {ps : List MemPlace}
    (hv : Value.okWide Try.prog W r b0 37 v) (h : DataW.Trod enc Try.prog W base spare held 37 v d ps) :
    ∃ A c bs, v = .slice A bs.length c ∧ ArgB A bs W ∧ bs.length ≤ 9223372036854775807 := by
  obtain ⟨a, len, cap, rfl⟩ := Go.WideShapes.okWide_slice Try.underlying37 hv
  obtain ⟨fuel, hf⟩ := h
  have hcz : Try.prog.cellsOf 5 = 1 := by kernel_rfl
  rcases Go.ChangeShapes.open_ints Try.underlying37 Try.underlying5 hcz hf with ⟨hc, _⟩ | ⟨a', len', cap', zs, hc, _, hlc, hcm, hzl, _, hcell, hwf⟩
  · simp [Value.cells] at hc
    obtain ⟨rfl, rfl, rfl⟩ := hc
    exact ⟨none, 0, [], rfl, fun j hj => absurd hj (by simp), by simp⟩
  · simp [Value.cells] at hc
    obtain ⟨rfl, rfl, rfl⟩ := hc
    have hle : len ≤ zs.length := by rw [hzl]; split <;> omega
    refine ⟨some a', cap, (zs.take len).map (fun z => UInt8.ofNat z.toNat), ?_, fun j hj => ?_, ?_⟩
    · rw [List.length_map, List.length_take, Nat.min_eq_left hle]
    · rw [List.length_map, List.length_take, Nat.min_eq_left hle] at hj
      have hj2 : j < zs.length := by omega
      have hc := hcell j hj2
      have hw := hwf _ (List.getElem_mem hj2)
      simp [Lit.wf, IntKind.min, IntKind.max, IntKind.signed, IntKind.bits] at hw
      have hz : zs.getD j 0 = zs[j]'hj2 := by rw [List.getD_eq_getElem?_getD, List.getElem?_eq_getElem hj2]; rfl
      have hsp : a'.spot = none := by
        have := World.cell?_spot hc
        unfold Addr.add at this
        have h0 := hcell 0 (by omega)
        have := World.cell?_spot h0
        simpa [Addr.add] using this
      obtain ⟨b, o, spot⟩ := a'
      simp only at hsp
      subst hsp
      rw [Seg.addr_add, hz] at hc
      refine ⟨b, o, rfl, hc.trans ?_⟩
      congr 2
      rw [List.getElem_map, List.getElem_take, UInt8.toNat_ofNat', Nat.mod_eq_of_lt (by omega)]
      omega
    · rw [List.length_map, List.length_take]
      have : cap ≤ maxLen := hcm
      unfold maxLen at this
      omega
end Go.Proofs.Ytombochecgjmjaa.Dk
