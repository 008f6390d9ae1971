/- The document's Close. -/
import Derived.Test.YtombochecgjmjaaDoorSlDig
import Derived.Laws.IdiomStrings
import Derived.OwnWalk
namespace Go.Proofs.YtombochecgjmjaaDoor.Sl
set_option linter.unusedSimpArgs false
set_option linter.unusedVariables false
open Go.RowKit

theorem grown_of_below {W W' : World} (h : Below W.heap.size W W') : W.grownBy W' none := ⟨h.os, h.tape, h.output, h.size, fun k hk _ => h.block k hk⟩
theorem owns_keep {W W' : World} {base : Nat} {e : TypeId} {sz n : Nat} {v : Value} {xs : List Value} (h : W.ownsRow base e sz v n xs) (hb : Below W.heap.size W W') : W'.ownsRow base e sz v n xs :=
  h.kept (grown_of_below hb) (by cases v.ownBlock <;> simp)
theorem owns_base {W : World} {base : Nat} {e : TypeId} {sz n : Nat} {v : Value} {xs : List Value} (h : W.ownsRow base e sz v n xs) : ∀ k, v.ownBlock = some k → base ≤ k ∧ k < W.heap.size := h.lt
theorem owns_slice {W : World} {base : Nat} {e : TypeId} {sz n : Nat} {v : Value} {xs : List Value} (h : W.ownsRow base e sz v n xs) : ∃ A c, v = .slice A n c := by
  rcases h.2 with ⟨rfl, rfl⟩ | ⟨g, cap, cur, rfl, _⟩
  · exact ⟨_, _, rfl⟩
  · exact ⟨_, _, rfl⟩
theorem byteCells_one' (l : List UInt8) : ∀ v ∈ Lib.byteCells l, v.oneCell' = true := by
  intro v hv
  simp only [Lib.byteCells, List.mem_map] at hv
  obtain ⟨b, _, rfl⟩ := hv
  rfl

/-- The document's Close has its record's box, and a row of bytes. -/
def QC (w : World) (x : Array Value) (v : Value) (l : List UInt8) (W : World) : Prop :=
  Below w.heap.size w W ∧ W.heap[w.heap.size]? = some (.cells x 33 (0, 0)) ∧ W.ownsRow (w.heap.size + 1) 5 1 v l.length (Lib.byteCells l)
theorem QC.step {w W W' : World} {x : Array Value} {v : Value} {l : List UInt8} (h : QC w x v l W) (hb : Below W.heap.size W W') : QC w x v l W' :=
  ⟨h.1.trans (hb.mono h.1.size), keep h.2.1 hb, owns_keep h.2.2 hb⟩
theorem QC.size {w W : World} {x : Array Value} {v : Value} {l : List UInt8} (h : QC w x v l W) : w.heap.size + 1 ≤ W.heap.size := (Array.getElem?_eq_some_iff.1 h.2.1).1
theorem QC.cell {w W : World} {x : Array Value} {v : Value} {l : List UInt8} (h : QC w x v l W) (j : Nat) : W.cell? ⟨w.heap.size, j, none⟩ = x[j]? := cell_of_row W _ j _ _ _ h.2.1
theorem QC.put {w W W' : World} {x : Array Value} {v v' : Value} {l l' : List UInt8} {k : Nat} (h : QC w x v l W) (ho : W'.ownsRow (w.heap.size + 1) 5 1 v' k (Lib.byteCells l ++ Lib.byteCells l')) (hk : k = l.length + l'.length)
    (hg : W.grownBy W' v.ownBlock) : QC w x v' (l ++ l') W' := by
  subst hk
  have hlt := (Array.getElem?_eq_some_iff.1 h.2.1).1
  refine ⟨h.1.grown hg h.1.size (fun k hk => ?_), (hg.block _ hlt (fun e => ?_)).trans h.2.1, ?_⟩
  · have := (owns_base h.2.2 k hk).1; omega
  · have := (owns_base h.2.2 _ e.symm).1; omega
  · rw [List.length_append, Lib.byteCells_append]; exact ho
/-- A row of bytes as a string. -/
theorem owns_string {W : World} {base : Nat} {v : Value} {l : List UInt8} (h : W.ownsRow base 5 1 v l.length (Lib.byteCells l)) (hl : l ≠ []) :
    (convert 26 9 v).run Tryd.prog W = .ok (.string ⟨l.toArray⟩) W := by
  rcases h.2 with ⟨rfl, h0⟩ | ⟨g, cap, cur, rfl, _⟩
  · exact absurd (List.length_eq_zero_iff.1 h0) hl
  · refine run_convert_bytes_back (P := Tryd.prog) W 26 9 5 ⟨g, 0, none⟩ cap l rfl rfl rfl (fun j hj => ?_)
    exact h.cells rfl j _ (by simp [Lib.byteCells, List.getElem?_eq_getElem hj])

/-- '[]byte(s)': a row of its own. -/
theorem str_bytes (s : ByteArray) (w : World) : ∃ W c, (convert 9 26 (.string s)).run Tryd.prog w = .ok (.slice (some ⟨w.heap.size, 0, none⟩) s.size c) W ∧ Below w.heap.size w W ∧
    (∀ j u, (Lib.byteCells s.data.toList)[j]? = some u → W.cell? ((⟨w.heap.size, 0, none⟩ : Addr).add j) = some u) := by
  refine ⟨_, _, run_bytes_of_string (P := Tryd.prog) w 9 26 5 s rfl rfl rfl, ((Below.refl _ _).drew).alloc (Nat.le_refl _) _, ?_⟩
  · intro j u hj
    have hlt : j < s.data.size := by
      have := (List.getElem?_eq_some_iff.1 hj).1
      simpa [Lib.byteCells] using this
    have hc := World.cell?_alloc_mark w.drew (bytesRow s (grownCap w s.size 0 5)) 5 ((bytesRow s (grownCap w s.size 0 5)).size, (bytesRow s (grownCap w s.size 0 5)).size + 1) j
    rw [bytesRow_at s _ j hlt] at hc
    have e : u = .int .u8 (s.data[j].toNat : Int) := by
      rw [Lib.byteCells, List.getElem?_map, List.getElem?_eq_getElem (by simpa using hlt), Option.map_some] at hj
      exact (Option.some.inj hj).symm
    subst e
    cases j with
    | zero => exact hc
    | succ j => simpa [Addr.add] using hc

def lenOf : Value → Nat | .slice _ n _ => n | _ => 0

theorem rc_one (k g i : Nat) (d : ByteArray) : (rc k g i d).all (·.oneCell') = true := recV_one ⟨k, g, i, d⟩
theorem be_one (k : Nat) (h : k < 256) : Lib.byteCells (be k 1) = [.int .u8 (k : Int)] := by
  simp [Lib.byteCells, be, bw, Nat.mod_eq_of_lt h]

set_option maxRecDepth 100000 in
set_option maxHeartbeats 2000000 in
theorem rclose_good (k g i : Nat) (d : ByteArray) (w : World) (hk : k < 256) (hg : g < 18446744073709551616) (hi : i < 4294967296) (hd : d.size ≤ 110) :
    Calls Tryd.prog 11 #[.agg (rc k g i d)] w fun e w' => e = .returned (.tuple #[.string ⟨(sector k g i d.data.toList).toArray⟩, .int .i64 0]) ∧ Below w.heap.size w w' := by
  obtain ⟨i0, hi0, hz0, hz1, hz2⟩ := info_parts info8
  have hds : (d.size : Int) ≤ 110 := by omega
  have c1 : decide (110 < (d.size : Int)) = false := decide_eq_false (by omega)
  have c2 : decide (110 < d.size) = false := decide_eq_false (by omega)
  have hz := heap_alloc_new w (.cells (rc k g i d) 33)
  have x0 : (w.alloc (.cells (rc k g i d) 33)).cell? ⟨w.heap.size, 0, none⟩ = some (.int .u8 (k : Int)) := cell_of_row _ _ 0 _ _ _ hz
  have x3 : (w.alloc (.cells (rc k g i d) 33)).cell? ⟨w.heap.size, 3, none⟩ = some (.string d) := cell_of_row _ _ 3 _ _ _ hz
  have x1 : (rc k g i d)[1]? = some (.int .u64 (g : Int)) := rfl
  have HQ := Aside0.mk (show QC w (rc k g i d) (.slice (some ⟨w.heap.size + 1, 0, none⟩) 1 1) (be k 1) ((w.alloc (.cells (rc k g i d) 33)).alloc (.cells #[.int .u8 (k : Int)] 5)) from by
    refine ⟨((Below.refl _ _).alloc (Nat.le_refl _) _).alloc (by simp) _, keep_alloc hz, ?_⟩
    rw [be_one k hk, be_len]
    have := World.ownsRow_lit (base := w.heap.size + 1) (e := 5) (size := 1) (w.alloc (.cells (rc k g i d) 33)) #[.int .u8 (k : Int)] 1 (by simp) (by decide) rfl
    simpa using this)
  go_enter Tryd.func11, Tryd.ntmps11
  go_wp2_with fail
  refine (digits2_calls g 8 (by omega) hg _).mono ?_
  rintro x w1 ⟨q, rfl, ho, hb⟩
  replace HQ := Aside0.mk (HQ.out.step hb)
  clear hb hz x0 x3 x1
  go_wp2_with (at_builtin; go_loud (refine wpList_append_own _ rfl _ _ 26 rfl (w.heap.size + 1) 5 i0 (.int .u8 0) 1 1 Tryd.underlying26 hi0 hz0 hz1 hz2 rfl (by decide) _ _ _ rfl HQ.out.2.2 _ 8 8 (Lib.byteCells (be g 8)) rfl (by rw [Lib.byteCells_length, be_len]) (ho.cells rfl) (byteCells_one' _) (by simp only [List.length_append, be_len]; unfold maxLen; omega) (by simp only [List.length_append, be_len]; omega) HQ.out.size ?_))
  intro v' w2 ho2 hg2 _
  have HQ2 := Aside0.mk (HQ.out.put (l' := be g 8) ho2 (by simp only [be_len]) hg2)
  have y2 := HQ2.out.cell 2
  have y2' : (rc k g i d)[2]? = some (.int .u32 (i : Int)) := rfl
  have e64 : (i : Int) % 18446744073709551616 = (i : Int) := by omega
  clear ho ho2 hg2 HQ w1
  go_wp2_with fail
  refine (digits2_calls i 4 (by omega) (by omega) _).mono ?_
  rintro x w3 ⟨q3, rfl, ho, hb⟩
  have HQ := Aside0.mk (HQ2.out.step hb)
  clear HQ2 hb y2 y2' e64 
  go_wp2_with (at_builtin; go_loud (refine wpList_append_own _ rfl _ _ 26 rfl (w.heap.size + 1) 5 i0 (.int .u8 0) 1 1 Tryd.underlying26 hi0 hz0 hz1 hz2 rfl (by decide) _ _ _ rfl HQ.out.2.2 _ 4 4 (Lib.byteCells (be i 4)) rfl (by rw [Lib.byteCells_length, be_len]) (ho.cells rfl) (byteCells_one' _) (by simp only [List.length_append, be_len]; unfold maxLen; omega) (by simp only [List.length_append, be_len]; omega) HQ.out.size ?_))
  intro v' w4 ho2 hg2 _
  have HQ2 := Aside0.mk (HQ.out.put (l' := be i 4) ho2 (by simp only [List.length_append, be_len]) hg2)
  clear ho ho2 hg2 HQ w3
  have y3 : w4.cell? ⟨w.heap.size, 3, none⟩ = some (.string d) := HQ2.out.cell 3
  have e8 : (d.size : Int) % 256 = (d.size : Int) := by omega
  have HQ := Aside0.mk (HQ2.out.step ((Below.refl _ _).alloc (Nat.le_refl _) (.cells #[.int .u8 (d.size : Int)] 5)))
  have hc1 : ∀ j u, (Lib.byteCells (be d.size 1))[j]? = some u → (w4.alloc (.cells #[.int .u8 (d.size : Int)] 5)).cell? ((⟨w4.heap.size, 0, none⟩ : Addr).add j) = some u := by
    rw [be_one d.size (by omega)]; intro j u hj; cases j with
    | zero => exact (cell_of_row _ w4.heap.size 0 _ _ _ (heap_alloc_new w4 _)).trans hj
    | succ j => simp at hj
  have HC1 := Aside0.mk hc1
  clear hc1
  go_wp2_with (at_builtin; go_loud (refine wpList_append_own _ rfl _ _ 26 rfl (w.heap.size + 1) 5 i0 (.int .u8 0) 1 1 Tryd.underlying26 hi0 hz0 hz1 hz2 rfl (by decide) _ _ _ rfl HQ.out.2.2 ⟨w4.heap.size, 0, none⟩ 1 1 (Lib.byteCells (be d.size 1)) rfl (by rw [Lib.byteCells_length, be_len]) HC1.out (byteCells_one' _) (by simp only [List.length_append, be_len]; unfold maxLen; omega) (by simp only [List.length_append, be_len]; omega) HQ.out.size ?_))
  intro v' w5 ho2 hg2 _
  have HQ3 := Aside0.mk (HQ.out.put (l' := be d.size 1) ho2 (by simp only [List.length_append, be_len]) hg2)
  clear ho2 hg2 HQ HQ2 HC1 y3 e8
  have y3 : w5.cell? ⟨w.heap.size, 3, none⟩ = some (.string d) := HQ3.out.cell 3
  obtain ⟨w6, c6, hcv, hb6, hn6⟩ := str_bytes d w5
  have HQ := Aside0.mk (HQ3.out.step hb6)
  have HC := Aside0.mk hn6
  clear hb6 hn6 HQ3
  go_wp2_with (at_builtin; go_loud (refine wpList_append_own _ rfl _ _ 26 rfl (w.heap.size + 1) 5 i0 (.int .u8 0) 1 1 Tryd.underlying26 hi0 hz0 hz1 hz2 rfl (by decide) _ _ _ rfl HQ.out.2.2 _ d.size c6 (Lib.byteCells d.data.toList) rfl (by rw [Lib.byteCells_length, Array.length_toList, Nat.mul_one]; rfl) HC.out (byteCells_one' _) (by simp only [List.length_append, be_len]; unfold maxLen; omega) (by simp only [List.length_append, be_len]; omega) HQ.out.size ?_))
  intro v' w7 ho2 hg2 _
  have HL := HQ.out.put (l' := d.data.toList) ho2 (by simp only [List.length_append, be_len, Array.length_toList]; rfl) hg2
  rw [show be k 1 ++ be g 8 ++ be i 4 ++ be d.size 1 ++ d.data.toList = head14 k g i d.data.toList.length ++ d.data.toList by rw [head14, Array.length_toList]; rfl] at HL
  have hll : (head14 k g i d.data.toList.length ++ d.data.toList).length = 14 + d.size := by simp [head14, be_len]; omega
  obtain ⟨L, hL⟩ : ∃ L, head14 k g i d.data.toList.length ++ d.data.toList = L := ⟨_, rfl⟩
  rw [hL] at HL hll
  have HQ3 := Aside0.mk (show QC w (rc k g i d) v' (L ++ List.replicate 0 0) w7 by simpa using HL)
  have HLL := Aside0.mk hll
  have HLE := Aside0.mk hL
  obtain ⟨A7, c7, rfl⟩ := owns_slice HL.2.2
  rw [hll] at HQ3 ⊢
  clear ho2 hg2 HQ HC HL hL hll hcv y3
  go_wp2_with fail
  go_loopw [4] (fun v W => ∃ (j n : Nat) (A : Option Addr) (c : Nat), v = .slice A n c ∧ n = 14 + d.size + j ∧ j ≤ 110 - d.size ∧ Aside0 (QC w (rc k g i d) v (L ++ List.replicate j 0) W)) (fun v _ => 124 - lenOf v)
  case atStart => exact ⟨0, _, _, _, rfl, rfl, by omega, HQ3⟩
  case round =>
    obtain ⟨j, n, A, c, rfl, hn, hj, HS⟩ := hrel
    by_cases hlt : n < 124
    · have hx1 : (n : Int) < 124 := by omega
      have HQ := Aside0.mk (HS.out.step ((Below.refl _ _).alloc (Nat.le_refl _) (.cells #[.int .u8 0] 5)))
      have HC1 := Aside0.mk (show ∀ j u, (Lib.byteCells [0])[j]? = some u → (wr.alloc (.cells #[.int .u8 0] 5)).cell? ((⟨wr.heap.size, 0, none⟩ : Addr).add j) = some u by
        intro j u hj
        cases j with
        | zero => exact (cell_of_row _ wr.heap.size 0 _ _ _ (heap_alloc_new wr _)).trans hj
        | succ j => simp [Lib.byteCells] at hj)
      have hlen : (L ++ List.replicate j 0).length = n := by rw [List.length_append, List.length_replicate, HLL.out, hn]
      have hown : (wr.alloc (.cells #[.int .u8 0] 5)).ownsRow (w.heap.size + 1) 5 1 (.slice A n c) n (Lib.byteCells (L ++ List.replicate j 0)) := by have := HQ.out.2.2; rw [hlen] at this; exact this
      have HO := Aside0.mk hown
      have HLN := Aside0.mk hlen
      have HNN := Aside0.mk hn
      have hn4 : 14 + d.size + j < 124 := by omega
      clear hown hlen HS hn
      go_wp2_with (at_builtin; go_loud (refine wpList_append_own _ rfl _ _ 26 rfl (w.heap.size + 1) 5 i0 (.int .u8 0) 1 1 Tryd.underlying26 hi0 hz0 hz1 hz2 rfl (by decide) _ _ _ rfl HO.out ⟨wr.heap.size, 0, none⟩ 1 1 (Lib.byteCells [0]) rfl rfl HC1.out (byteCells_one' _) (by unfold maxLen; omega) (by omega) HQ.out.size ?_))
      intro v' w8 ho2 hg2 _
      obtain ⟨A8, c8, rfl⟩ := owns_slice ho2
      have HN := HQ.out.put (l' := [0]) ho2 (by rw [HLN.out]; rfl) hg2
      rw [List.append_assoc, show List.replicate j (0 : UInt8) ++ [0] = List.replicate (j + 1) 0 from List.replicate_succ'.symm] at HN
      have HN' := Aside0.mk HN
      clear HN ho2 hg2 HQ HO HC1
      go_wp2
      go_roundw
      case rel => exact ⟨j + 1, n + 1, _, _, rfl, by have := HNN.out; omega, by omega, HN'⟩
      case measure => simp [lenOf]; omega
    · have hj' : j = 110 - d.size := by omega
      have hn' : n = 124 := by omega
      subst hn'
      clear hn hj hlt
      have HB : L ++ List.replicate j 0 = body k g i d.data.toList := by
        rw [← HLE.out, hj', body, Array.length_toList]; rfl
      have hbl : (body k g i d.data.toList).length = 124 := by rw [← HB, List.length_append, List.length_replicate, HLL.out, hj']; omega
      rw [HB] at HS
      obtain ⟨B, hB⟩ : ∃ B, body k g i d.data.toList = B := ⟨_, rfl⟩
      rw [hB] at HS hbl
      have hsec : sector k g i d.data.toList = B ++ lb (sumN B) 4 := by rw [sector, hB]
      have hstr := owns_string (by rw [hbl]; have := HS.out.2.2; rw [hbl] at this; exact this : wr.ownsRow (w.heap.size + 1) 5 1 (.slice A 124 c) B.length (Lib.byteCells B)) (by intro e; rw [e] at hbl; cases hbl)
      have KS := Aside0.mk (fun V => rsum_calls ⟨B.toArray⟩ V (by show B.toArray.size ≤ _; rw [List.size_toArray]; omega))
      have hSl := sumN_lt B
      rw [show (⟨B.toArray⟩ : ByteArray).data.toList = B from rfl] at KS
      obtain ⟨S, hS⟩ : ∃ S, sumN B = S := ⟨_, rfl⟩
      rw [hS] at KS hSl hsec
      have HSEC := Aside0.mk hsec
      have KD := Aside0.mk (fun V => digits2_calls S 4 (by omega) (by omega) V)
      have HBL := Aside0.mk hbl
      clear hj' HB hB hsec hbl hSl hS HLE HLL HQ3
      go_wp2_with fail
      refine (KS.out _).mono ?_
      rintro x w8 ⟨rfl, rfl⟩
      go_wp2_with fail
      refine (KD.out _).mono ?_
      rintro x w9 ⟨q9, rfl, ho, hb⟩
      have HQ := Aside0.mk (HS.out.step hb)
      have hl4 : lb S 4 = [UInt8.ofNat (S / 256 ^ 0), UInt8.ofNat (S / 256 ^ 1), UInt8.ofNat (S / 256 ^ 2), UInt8.ofNat (S / 256 ^ 3)] := rfl
      have hb4 : be S 4 = [UInt8.ofNat (S / 256 ^ 3), UInt8.ofNat (S / 256 ^ 2), UInt8.ofNat (S / 256 ^ 1), UInt8.ofNat (S / 256 ^ 0)] := rfl
      obtain ⟨x0, hx0⟩ : ∃ x : UInt8, UInt8.ofNat (S / 256 ^ 3) = x := ⟨_, rfl⟩
      obtain ⟨x1, hx1⟩ : ∃ x : UInt8, UInt8.ofNat (S / 256 ^ 2) = x := ⟨_, rfl⟩
      obtain ⟨x2, hx2⟩ : ∃ x : UInt8, UInt8.ofNat (S / 256 ^ 1) = x := ⟨_, rfl⟩
      obtain ⟨x3, hx3⟩ : ∃ x : UInt8, UInt8.ofNat (S / 256 ^ 0) = x := ⟨_, rfl⟩
      rw [hx0, hx1, hx2, hx3] at hl4 hb4
      rw [hb4] at ho
      have d0 : w9.cell? ⟨q9, 0, none⟩ = some (.int .u8 (x0.toNat : Nat)) := ho.cellAt 0 (by decide)
      have d1 : w9.cell? ⟨q9, 1, none⟩ = some (.int .u8 (x1.toNat : Nat)) := ho.cellAt 1 (by decide)
      have d2 : w9.cell? ⟨q9, 2, none⟩ = some (.int .u8 (x2.toNat : Nat)) := ho.cellAt 2 (by decide)
      have d3 : w9.cell? ⟨q9, 3, none⟩ = some (.int .u8 (x3.toNat : Nat)) := ho.cellAt 3 (by decide)
      have HL4 := Aside0.mk hl4
      have NE := Aside0.mk (show some q9 ≠ (Value.slice A 124 c).ownBlock from fun e => by
        have h1 := (owns_base HS.out.2.2 q9 e.symm).2
        have h2 := (owns_base ho q9 rfl).1
        omega)
      clear hb ho HS KS KD hx0 hx1 hx2 hx3 hb4 hl4 hstr
      go_wp2_with fail
      refine wp_region_held_drew (S := fun V => V.cell? ⟨q9, 0, none⟩ = some (.int .u8 (x0.toNat : Nat)) ∧ V.cell? ⟨q9, 1, none⟩ = some (.int .u8 (x1.toNat : Nat)) ∧ V.cell? ⟨q9, 2, none⟩ = some (.int .u8 (x2.toNat : Nat)) ∧ V.cell? ⟨q9, 3, none⟩ = some (.int .u8 (x3.toNat : Nat))) (by kernel_rfl) ⟨d0, d1, d2, d3⟩ (fun hH => ?_)
      refine Cel.take_at (i := 0) (some 46) (.slice A 124 c) rfl rfl (by kernel_rfl) (by kernel_rfl) (by kernel_rfl) (fun _ _ _ h => h) (Or.inl ⟨by rfl, fun w hSw => by go_simp⟩) hH ?_
      refine Cel.take_at (i := 1) (some 47) (.slice (some ⟨q9, 0, none⟩) 4 4) rfl rfl (by kernel_rfl) (by kernel_rfl) (by kernel_rfl) (fun _ _ _ h => h) (Or.inl ⟨by rfl, fun w hSw => by go_simp⟩) hH ?_
      try simp only [Act.put, List.setIfInBounds_toArray, List.set_cons_zero, List.set_cons_succ]
      refine Cel.take_at (i := 2) (some 48) (.pointer (some ⟨q9, 3, none⟩)) rfl rfl (by kernel_rfl) (by kernel_rfl) (by kernel_rfl) (fun _ _ _ h => h) (Or.inl ⟨by rfl, fun w hSw => by go_simp⟩) hH ?_
      refine Cel.take_at (i := 3) (some 49) (.int .u8 (x3.toNat : Nat)) rfl rfl (by kernel_rfl) (by kernel_rfl) (by kernel_rfl) (fun _ _ _ h => h) (Or.inl ⟨by rfl, fun w hSw => by obtain ⟨e0, e1, e2, e3⟩ := hSw; go_simp⟩) hH ?_
      try simp only [Act.put, List.setIfInBounds_toArray, List.set_cons_zero, List.set_cons_succ]
      refine Cel.take_at (i := 4) (some 50) (.slice (some ⟨q9, 0, none⟩) 4 4) rfl rfl (by kernel_rfl) (by kernel_rfl) (by kernel_rfl) (fun _ _ _ h => h) (Or.inl ⟨by rfl, fun w hSw => by go_simp⟩) hH ?_
      refine Cel.take_at (i := 5) (some 51) (.pointer (some ⟨q9, 2, none⟩)) rfl rfl (by kernel_rfl) (by kernel_rfl) (by kernel_rfl) (fun _ _ _ h => h) (Or.inl ⟨by rfl, fun w hSw => by go_simp⟩) hH ?_
      try simp only [Act.put, List.setIfInBounds_toArray, List.set_cons_zero, List.set_cons_succ]
      refine Cel.take_at (i := 6) (some 52) (.int .u8 (x2.toNat : Nat)) rfl rfl (by kernel_rfl) (by kernel_rfl) (by kernel_rfl) (fun _ _ _ h => h) (Or.inl ⟨by rfl, fun w hSw => by obtain ⟨e0, e1, e2, e3⟩ := hSw; go_simp⟩) hH ?_
      refine Cel.take_at (i := 7) (some 53) (.slice (some ⟨q9, 0, none⟩) 4 4) rfl rfl (by kernel_rfl) (by kernel_rfl) (by kernel_rfl) (fun _ _ _ h => h) (Or.inl ⟨by rfl, fun w hSw => by go_simp⟩) hH ?_
      try simp only [Act.put, List.setIfInBounds_toArray, List.set_cons_zero, List.set_cons_succ]
      refine Cel.take_at (i := 8) (some 54) (.pointer (some ⟨q9, 1, none⟩)) rfl rfl (by kernel_rfl) (by kernel_rfl) (by kernel_rfl) (fun _ _ _ h => h) (Or.inl ⟨by rfl, fun w hSw => by go_simp⟩) hH ?_
      refine Cel.take_at (i := 9) (some 55) (.int .u8 (x1.toNat : Nat)) rfl rfl (by kernel_rfl) (by kernel_rfl) (by kernel_rfl) (fun _ _ _ h => h) (Or.inl ⟨by rfl, fun w hSw => by obtain ⟨e0, e1, e2, e3⟩ := hSw; go_simp⟩) hH ?_
      try simp only [Act.put, List.setIfInBounds_toArray, List.set_cons_zero, List.set_cons_succ]
      refine Cel.take_at (i := 10) (some 56) (.slice (some ⟨q9, 0, none⟩) 4 4) rfl rfl (by kernel_rfl) (by kernel_rfl) (by kernel_rfl) (fun _ _ _ h => h) (Or.inl ⟨by rfl, fun w hSw => by go_simp⟩) hH ?_
      refine Cel.take_at (i := 11) (some 57) (.pointer (some ⟨q9, 0, none⟩)) rfl rfl (by kernel_rfl) (by kernel_rfl) (by kernel_rfl) (fun _ _ _ h => h) (Or.inl ⟨by rfl, fun w hSw => by go_simp⟩) hH ?_
      try simp only [Act.put, List.setIfInBounds_toArray, List.set_cons_zero, List.set_cons_succ]
      refine Cel.take_at (i := 12) (some 58) (.int .u8 (x0.toNat : Nat)) rfl rfl (by kernel_rfl) (by kernel_rfl) (by kernel_rfl) (fun _ _ _ h => h) (Or.inl ⟨by rfl, fun w hSw => by obtain ⟨e0, e1, e2, e3⟩ := hSw; go_simp⟩) hH ?_
      try simp only [Act.put, List.setIfInBounds_toArray, List.set_cons_zero, List.set_cons_succ]
      have HQ0 := Aside0.mk (HQ.out.step ((Below.refl _ w9).drew))
      generalize w9.drew = V0 at hH HQ0 ⊢
      refine wpAnyH_ready (rs := [13]) (by kernel_rfl) (by simp) (AllReadyH.cons rfl (fun K hK => ?_) AllReadyH.nil)
      go_simp
      have hnew := heap_alloc_new V0 (.cells #[.int .u8 (x3.toNat : Nat), .int .u8 (x2.toNat : Nat), .int .u8 (x1.toNat : Nat), .int .u8 (x0.toNat : Nat)] 5)
      have hba : Below V0.heap.size V0 (V0.alloc (.cells #[.int .u8 (x3.toNat : Nat), .int .u8 (x2.toNat : Nat), .int .u8 (x1.toNat : Nat), .int .u8 (x0.toNat : Nat)] 5)) := (Below.refl _ _).alloc (Nat.le_refl _) _
      have HQ1 := Aside0.mk (HQ0.out.step hba)
      obtain ⟨q, hq⟩ : ∃ q, V0.heap.size = q := ⟨_, rfl⟩
      have hS1 : _ ∧ _ ∧ _ ∧ _ := ⟨(grown_of_below hba).cell hH.1 (by simp), (grown_of_below hba).cell hH.2.1 (by simp), (grown_of_below hba).cell hH.2.2.1 (by simp), (grown_of_below hba).cell hH.2.2.2 (by simp)⟩
      rw [hq] at hnew ⊢
      generalize V0.alloc (.cells #[.int .u8 (x3.toNat : Nat), .int .u8 (x2.toNat : Nat), .int .u8 (x1.toNat : Nat), .int .u8 (x0.toNat : Nat)] 5) = V1 at hnew hS1 HQ1 ⊢
      refine hK.out _ _ hS1 (fun hH => ?_)
      clear hK K hq hba HQ0
      try simp only [Act.put, List.setIfInBounds_toArray, List.set_cons_zero, List.set_cons_succ]
      have hcv : ∀ j u, (Lib.byteCells [x3, x2, x1, x0])[j]? = some u → V1.cell? ((⟨q, 0, none⟩ : Addr).add j) = some u := by
        intro j u hj
        match j, hj with
        | 0, hj => exact (cell_of_row V1 q _ _ _ _ hnew).trans hj
        | 1, hj => exact (cell_of_row V1 q _ _ _ _ hnew).trans hj
        | 2, hj => exact (cell_of_row V1 q _ _ _ _ hnew).trans hj
        | 3, hj => exact (cell_of_row V1 q _ _ _ _ hnew).trans hj
        | j + 4, hj => simp [Lib.byteCells] at hj
      have hown : V1.ownsRow (w.heap.size + 1) 5 1 (.slice A 124 c) 124 (Lib.byteCells B) := by have := HQ1.out.2.2; rw [HBL.out] at this; exact this
      refine wpAnyH_ready (rs := [14]) (by kernel_rfl) (by simp) (AllReadyH.cons rfl (fun K hK => ?_) AllReadyH.nil)
      rw [if_pos (by rfl)]
      refine wp_append_own V1 _ _ 26 rfl (w.heap.size + 1) 5 i0 (.int .u8 0) 1 1 Tryd.underlying26 hi0 hz0 hz1 hz2 rfl (by decide) _ _ _ rfl hown ⟨q, 0, none⟩ 4 4 (Lib.byteCells [x3, x2, x1, x0]) rfl rfl hcv (byteCells_one' _) (by unfold maxLen; omega) (by omega) HQ1.out.size ?_
      intro v' w10 ho2 hg2 _
      have HN := HQ1.out.put (l' := [x3, x2, x1, x0]) ho2 (by rw [HBL.out]; rfl) hg2
      have hS2 : _ ∧ _ ∧ _ ∧ _ := ⟨hg2.cell hH.1 NE.out, hg2.cell hH.2.1 NE.out, hg2.cell hH.2.2.1 NE.out, hg2.cell hH.2.2.2 NE.out⟩
      refine hK.out _ _ hS2 (fun hH => ?_)
      clear hK K hcv hown hnew hg2 hS1 hS2
      try simp only [Act.put, List.setIfInBounds_toArray, List.set_cons_zero, List.set_cons_succ]
      have hconv := owns_string HN.2.2 (by simp)
      have HN' := Aside0.mk HN
      clear HN
      refine wpAnyH_ready (rs := [15]) (by kernel_rfl) (by simp) (AllReadyH.cons rfl (fun K hK => ?_) AllReadyH.nil)
      go_simp
      refine hK.out _ _ hH (fun hH => ?_)
      clear hK K hconv
      try simp only [Act.put, List.setIfInBounds_toArray, List.set_cons_zero, List.set_cons_succ]
      have HSEC' := Aside0.mk HSEC.out
      rw [HL4.out] at HSEC'
      refine Cel.take_at (i := 16) (some 2) (.string ⟨(B ++ [x3, x2, x1, x0]).toArray⟩) rfl rfl (by kernel_rfl) (by kernel_rfl) (by kernel_rfl) (fun _ _ _ h => h) (Or.inl ⟨by rfl, fun w hSw => by go_simp⟩) hH ?_
      refine Cel.take_at (i := 17) (some 3) (.int .i64 0) rfl rfl (by kernel_rfl) (by kernel_rfl) (by kernel_rfl) (fun _ _ _ h => h) (Or.inl ⟨by rfl, fun w hSw => by go_simp⟩) hH ?_
      refine wpAnyH_done (by kernel_rfl) ?_ _
      try simp only [Act.put, List.setIfInBounds_toArray, List.set_cons_zero, List.set_cons_succ]
      clear hH
      go_wp2
      go_ret2
      exact ⟨by rw [HSEC'.out]; rfl, HN'.out.1⟩

set_option maxRecDepth 100000 in
theorem rclose_long (k g i : Nat) (d : ByteArray) (w : World) (hd : 110 < d.size) :
    Calls Tryd.prog 11 #[.agg (rc k g i d)] w fun e w' => e = .returned (.tuple #[.string ⟨#[]⟩, .int .i64 11]) ∧ Below w.heap.size w w' := by
  have c1 : decide (110 < (d.size : Int)) = true := decide_eq_true (by omega)
  have c2 : decide (110 < d.size) = true := decide_eq_true (by omega)
  have x3 : (w.alloc (.cells (rc k g i d) 33)).cell? ⟨w.heap.size, 3, none⟩ = some (.string d) := cell_of_row _ _ 3 _ _ _ (heap_alloc_new w (.cells (rc k g i d) 33))
  have hb : Below w.heap.size w (w.alloc (.cells (rc k g i d) 33)) := (Below.refl _ _).alloc (Nat.le_refl _) _
  have HB := Aside0.mk hb
  clear hb
  go_enter Tryd.func11, Tryd.ntmps11
  go_wp2
  go_ret2
  exact ⟨rfl, HB.out⟩
theorem rclose_calls (k g i : Nat) (d : ByteArray) (w : World) (hk : k < 256) (hg : g < 18446744073709551616) (hi : i < 4294967296) :
    Calls Tryd.prog 11 #[.agg (rc k g i d)] w fun e w' => e = .returned (.tuple #[.string (closeS k g i d).1, .int .i64 (closeS k g i d).2]) ∧ Below w.heap.size w w' := by
  unfold closeS
  by_cases h : d.size > 110
  · rw [if_pos h]; exact rclose_long k g i d w h
  · rw [if_neg h]; exact rclose_good k g i d w hk hg hi (by omega)
end Go.Proofs.YtombochecgjmjaaDoor.Sl
