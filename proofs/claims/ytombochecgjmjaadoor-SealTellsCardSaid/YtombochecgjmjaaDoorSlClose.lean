/- seal.Close. -/
import Derived.Test.YtombochecgjmjaaDoorSlNum
namespace Go.Proofs.YtombochecgjmjaaDoor.Sl
set_option linter.unusedSimpArgs false
open Go.RowKit

theorem repeatL_one0 : ∀ c, Lib.repeatL [(0 : UInt8)] c = List.replicate c 0
  | 0 => rfl
  | c + 1 => by rw [List.replicate_succ, ← repeatL_one0 c]; rfl

/-- The first d bytes of a sum, the lowest first. -/
def lb (x : Nat) : Nat → List UInt8
  | 0 => []
  | d + 1 => lb x d ++ [UInt8.ofNat (x / 256 ^ d)]
theorem lb_len (x : Nat) : ∀ d, (lb x d).length = d
  | 0 => rfl
  | d + 1 => by simp [lb, lb_len x d]
/-- A record's sector ahead of the sum, and whole. -/
def head14 (k g i : Nat) (n : Nat) : List UInt8 := be k 1 ++ be g 8 ++ be i 4 ++ be n 1
def body (k g i : Nat) (d : List UInt8) : List UInt8 := head14 k g i d.length ++ d ++ List.replicate (110 - d.length) 0
def sector (k g i : Nat) (d : List UInt8) : List UInt8 := body k g i d ++ lb (sumN (body k g i d)) 4
def closeS (k g i : Nat) (d : ByteArray) : ByteArray × Int := if d.size > 110 then (⟨#[]⟩, 11) else (⟨(sector k g i d.data.toList).toArray⟩, 0)

/-- The record's cells. -/
def rc (k g i : Nat) (d : ByteArray) : Array Value := #[.int .u8 (k : Int), .int .u64 (g : Int), .int .u32 (i : Int), .string d]
/-- What Close has: the record's box and the builder. -/
def CS (w : World) (b : Nat) (x : Array Value) (l : List UInt8) (W : World) : Prop :=
  Below w.heap.size w W ∧ W.heap[w.heap.size]? = some (.cells x 29 (0, 0)) ∧ Lib.IsBuilderF 47 5 b b (Lib.byteCells l) W ∧ w.heap.size < b ∧ b < W.heap.size
theorem CS.step {w W W' : World} {b : Nat} {x : Array Value} {l : List UInt8} (h : CS w b x l W) (hb : Below W.heap.size W W') : CS w b x l W' :=
  ⟨h.1.trans (hb.mono h.1.size), (hb.block _ (Array.getElem?_eq_some_iff.1 h.2.1).1).trans h.2.1, Bld.builder_below h.2.2.1 hb, h.2.2.2.1, Nat.lt_of_lt_of_le h.2.2.2.2 hb.size⟩
theorem CS.put {w W W' : World} {b : Nat} {x : Array Value} {l l' : List UInt8} (h : CS w b x l W) (hi : Lib.IsBuilderF 47 5 b b (Lib.byteCells l') W') (hb : Below b W W') : CS w b x l' W' :=
  ⟨h.1.trans (hb.mono (Nat.le_of_lt h.2.2.2.1)), (hb.block _ h.2.2.2.1).trans h.2.1, hi, h.2.2.2.1, Nat.lt_of_lt_of_le h.2.2.2.2 hb.size⟩
theorem CS.cell {w W : World} {b : Nat} {x : Array Value} {l : List UInt8} (h : CS w b x l W) (j : Nat) : W.cell? ⟨w.heap.size, j, none⟩ = x[j]? := Lib.cell_of_heap h.2.1 j
theorem CS.num {w W : World} {b : Nat} {x : Array Value} {l : List UInt8} (h : CS w b x l W) (v n : Nat) (hv : v < 18446744073709551616) (hn : n ≤ 8) (hl : l.length ≤ 100000) :
    Calls Tryd.prog 17 #[.int .u64 v, .int .i64 n, .pointer (some ⟨b, 0, none⟩)] W fun e w' => e = .returned (.tuple #[]) ∧ CS w b x (l ++ be v n) w' := by
  refine (number_calls b b l v n W hv hn h.2.2.1 hl (Nat.le_of_lt h.2.2.2.2)).mono ?_
  rintro e w' ⟨rfl, h2, hb, _⟩
  exact ⟨rfl, h.put h2 hb⟩
theorem CS.byte {w W : World} {b : Nat} {x : Array Value} {l : List UInt8} (h : CS w b x l W) (c : Nat) (hl : l.length ≤ 100000) :
    Calls Tryd.prog 18 #[.pointer (some ⟨b, 0, none⟩), .int .u8 ((c : Int) % 256)] W fun e w' => e = .returned .nilIface ∧ CS w b x (l ++ [UInt8.ofNat c]) w' := by
  refine (Bld.writeByte b b (Lib.byteCells l) ((c : Int) % 256) W h.2.2.1 (by rw [Lib.byteCells_length]; omega) (Nat.le_of_lt h.2.2.2.2)).mono ?_
  rintro e w' ⟨rfl, h2, hb, _⟩
  refine ⟨rfl, h.put ?_ hb⟩
  rw [Lib.byteCells_append]
  rw [byte_cell] at h2
  exact .inr h2
theorem CS.str {w W : World} {b : Nat} {x : Array Value} {l : List UInt8} (h : CS w b x l W) (s : ByteArray) (hl : l.length + s.size ≤ 100000) :
    Calls Tryd.prog 19 #[.pointer (some ⟨b, 0, none⟩), .string s] W fun e w' => e = .returned (.tuple #[.int .i64 s.size, .nilIface]) ∧ CS w b x (l ++ s.data.toList) w' := by
  refine (Bld.writeString b b (Lib.byteCells l) s W h.2.2.1 (by rw [Lib.byteCells_length]; omega) (Nat.le_of_lt h.2.2.2.2)).mono ?_
  rintro e w' ⟨rfl, h2, hb, _⟩
  refine ⟨rfl, h.put ?_ hb⟩
  rw [Lib.strCells_eq, ← Lib.byteCells_append] at h2
  exact .inr h2
theorem CS.string {w W : World} {b : Nat} {x : Array Value} {l : List UInt8} (h : CS w b x l W) :
    Calls Tryd.prog 22 #[.pointer (some ⟨b, 0, none⟩)] W fun e w' => e = .returned (.string ⟨l.toArray⟩) ∧ CS w b x l w' := by
  refine (Tryd.Builder_String_any_f b b l W h.2.2.1 (Nat.le_of_lt h.2.2.2.2)).mono ?_
  rintro e w' ⟨rfl, h2, hb⟩
  exact ⟨rfl, h.put h2 hb⟩
theorem CS.len {w W : World} {b : Nat} {x : Array Value} {l : List UInt8} (h : CS w b x l W) :
    Calls Tryd.prog 21 #[.pointer (some ⟨b, 0, none⟩)] W fun e w' => e = .returned (.int .i64 l.length) ∧ w' = W := by
  have := Bld.len b b (Lib.byteCells l) W h.2.2.1
  rw [Lib.byteCells_length] at this
  exact this

set_option maxRecDepth 100000 in
set_option maxHeartbeats 1000000 in
theorem close_good (k g i : Nat) (d : ByteArray) (w : World) (hk : k < 256) (hg : g < 18446744073709551616) (hi : i < 4294967296) (hd : d.size ≤ 110) :
    Calls Tryd.prog 10 #[.agg (rc k g i d)] w fun e w' => e = .returned (.tuple #[.string ⟨(sector k g i d.data.toList).toArray⟩, .int .i64 0]) ∧ Below w.heap.size w w' := by
  have c1 : decide (110 < (d.size : Int)) = false := decide_eq_false (by omega)
  have c2 : decide (110 < d.size) = false := decide_eq_false (by omega)
  have hA := heap_alloc_new w (.cells (rc k g i d) 29)
  have H0 := Aside0.mk (show CS w (w.heap.size + 1) (rc k g i d) [] ((w.alloc (.cells (rc k g i d) 29)).alloc (.cells #[.pointer none, .slice none 0 0] 47)) from
    ⟨((Below.refl _ _).alloc (Nat.le_refl _) _).alloc (by simp) _, (heap_alloc_old _ _ (by simp)).trans hA, by have := Lib.IsBuilderF.of (Lib.fresh_isBuilder 47 5 (w.alloc (.cells (rc k g i d) 29))); simpa [Lib.byteCells] using this, by omega, by simp⟩)
  have q3 : (w.alloc (.cells (rc k g i d) 29)).cell? ⟨w.heap.size, 3, none⟩ = some (.string d) := Lib.cell_of_heap hA 3
  have r0 : ((w.alloc (.cells (rc k g i d) 29)).alloc (.cells #[.pointer none, .slice none 0 0] 47)).cell? ⟨w.heap.size, 0, none⟩ = some (.int .u8 (k : Int)) := H0.out.cell 0
  have HDS := Aside0.mk (show d.data.toList.length = d.size by simp)
  have e0 : (k : Int) % 18446744073709551616 = (k : Int) := by omega
  clear hA
  go_enter Tryd.func10, Tryd.ntmps10
  go_wp2_with fail
  generalize (w.alloc (.cells (rc k g i d) 29)).alloc (.cells #[.pointer none, .slice none 0 0] 47) = W0 at H0 r0 ⊢
  clear q3 e0 r0
  obtain ⟨b, hb⟩ : ∃ b, w.heap.size + 1 = b := ⟨_, rfl⟩
  rw [hb] at H0 ⊢
  clear hb
  refine (H0.out.num k 1 (by omega) (by omega) (by simp)).mono ?_
  rintro x w1 ⟨rfl, h1⟩
  have r1 : w1.cell? ⟨w.heap.size, 1, none⟩ = some (.int .u64 (g : Int)) := h1.cell 1
  have H1 := Aside0.mk h1
  clear h1 H0
  go_wp2_with fail
  clear r1
  refine (H1.out.num g 8 hg (by omega) (by simp [be_len])).mono ?_
  rintro x w2 ⟨rfl, h2⟩
  have r2 : w2.cell? ⟨w.heap.size, 2, none⟩ = some (.int .u32 (i : Int)) := h2.cell 2
  have e2 : (i : Int) % 18446744073709551616 = (i : Int) := by omega
  have H2 := Aside0.mk h2
  clear h2 H1
  go_wp2_with fail
  clear r2 e2
  refine (H2.out.num i 4 (by omega) (by omega) (by simp [be_len])).mono ?_
  rintro x w3 ⟨rfl, h3⟩
  have r3 : w3.cell? ⟨w.heap.size, 3, none⟩ = some (.string d) := h3.cell 3
  have e3 : (d.size : Int) % 18446744073709551616 = (d.size : Int) := by omega
  have H3 := Aside0.mk h3
  clear h3 H2
  go_wp2_with fail
  clear r3 e3
  refine (H3.out.num d.size 1 (by omega) (by omega) (by simp [be_len])).mono ?_
  rintro x w4 ⟨rfl, h4⟩
  have r4 : w4.cell? ⟨w.heap.size, 3, none⟩ = some (.string d) := h4.cell 3
  have H4 := Aside0.mk h4
  clear h4 H3
  go_wp2_with fail
  clear r4
  refine (H4.out.str d (by simp [be_len]; omega)).mono ?_
  rintro x w5 ⟨rfl, h5⟩
  have e5 : [] ++ be k 1 ++ be g 8 ++ be i 4 ++ be d.size 1 ++ d.data.toList = head14 k g i d.data.toList.length ++ d.data.toList := by rw [HDS.out]; simp [head14]
  rw [e5] at h5
  obtain ⟨L, hL⟩ : ∃ L, head14 k g i d.data.toList.length ++ d.data.toList = L := ⟨_, rfl⟩
  rw [hL] at h5
  have HL := Aside0.mk hL
  have hLl : L.length = 14 + d.size := by rw [← hL, List.length_append, HDS.out]; simp [head14, be_len]
  obtain ⟨n, hn⟩ : ∃ n, L.length = n := ⟨_, rfl⟩
  have h6 := h5.len
  rw [hn] at h6
  have H5 := Aside0.mk h5
  have H6 := Aside0.mk h6
  have e6 : (124 : Int) - (n : Int) = ((110 - d.size : Nat) : Int) := by omega
  have hn1 : (n : Int) ≤ 124 := by omega
  have HN := Aside0.mk (show L.length = n ∧ n = 14 + d.size from ⟨hn, by omega⟩)
  clear h5 h6 e5 hL hLl hn H4
  go_wp2_with fail
  refine H6.out.mono ?_
  rintro x w6 ⟨rfl, rfl⟩
  clear H6
  go_wp2_with fail
  clear e6
  refine (Rep.repeat_calls ⟨#[0]⟩ (110 - d.size) _ (by omega) (by show 1 * (110 - d.size) ≤ _; omega) (by show 0 < 1; omega)).mono ?_
  rintro x w7 ⟨rfl, h7⟩
  have H7 := Aside0.mk (H5.out.step h7)
  have e7 : (Lib.repeatL ((⟨#[0]⟩ : ByteArray).data.toList) (110 - d.size)) = List.replicate (110 - d.size) 0 := repeatL_one0 _
  rw [e7]
  clear e7 h7 H5
  go_wp2_with fail
  refine (H7.out.str _ (by have := HN.out; show L.length + (List.replicate (110 - d.size) (0 : UInt8)).toArray.size ≤ _; simp; omega)).mono ?_
  rintro x w8 ⟨rfl, h8⟩
  have e8 : L ++ (⟨Array.replicate (110 - d.size) (0 : UInt8)⟩ : ByteArray).data.toList = body k g i d.data.toList := by rw [← HL.out, body, HDS.out]; simp
  rw [e8] at h8
  have H8 := Aside0.mk h8
  clear h8 e8 H7
  have hbl : (body k g i d.data.toList).length = 124 := by have := HDS.out; simp [body, head14, be_len]; omega
  obtain ⟨Bd, hBd⟩ : ∃ B, body k g i d.data.toList = B := ⟨_, rfl⟩
  rw [hBd] at H8 hbl
  have HB := Aside0.mk hBd
  have HBL := Aside0.mk hbl
  clear hBd hbl
  go_wp2_with fail
  refine H8.out.string.mono ?_
  rintro x w9 ⟨rfl, h9⟩
  have H9 := Aside0.mk h9
  clear h9 H8
  go_wp2_with fail
  refine (sum_calls ⟨Bd.toArray⟩ _ (by show Bd.toArray.size ≤ _; have := HBL.out; simp; omega)).mono ?_
  rintro x w10 ⟨rfl, rfl⟩
  have hSl := sumN_lt Bd
  obtain ⟨S, hS⟩ : ∃ S, sumN Bd = S := ⟨_, rfl⟩
  have e10 : sumN ((⟨Bd.toArray⟩ : ByteArray).data.toList) = S := hS
  rw [e10]
  rw [hS] at hSl
  have HS := Aside0.mk hS
  have H10 := Aside0.mk (show CS w b (rc k g i d) (Bd ++ lb S 0) w9 by simpa [lb] using H9.out)
  clear hS e10 H9
  go_wp2_with fail
  go_loopw [42] (fun t W => ∃ (j : Nat), t = .int .i64 j ∧ j ≤ 4 ∧ Aside0 (CS w b (rc k g i d) (Bd ++ lb S j) W)) (fun t _ => 4 - (intOf t).toNat)
  case atStart => exact ⟨0, rfl, by omega, H10⟩
  case round =>
    obtain ⟨j, rfl, hj, HC⟩ := hrel
    clear H10
    by_cases hlt : j < 4
    · have hx1 : 0 ≤ (j : Int) := by omega
      have hx2 : (j : Int) < 4 := by omega
      have e11 := shr_eq S j
      have K := HC.out.byte (S / 256 ^ j) (by have := HBL.out; simp [lb_len]; omega)
      rw [← e11] at K
      have E := Aside0.mk (show Bd ++ lb S j ++ [UInt8.ofNat (S / 256 ^ j)] = Bd ++ lb S (j + 1) by rw [lb, List.append_assoc])
      rw [E.out] at K
      have KK := Aside0.mk K
      clear K e11 E HC
      go_wp2_with fail
      refine KK.out.mono ?_
      rintro x w11 ⟨rfl, h11⟩
      have H11 := Aside0.mk h11
      clear h11 KK
      go_wp2
      go_roundw
      case rel => exact ⟨j + 1, by go_num, by omega, H11⟩
      case measure => simp [intOf]; omega
    · have hge : j = 4 := by omega
      subst hge
      have E := Aside0.mk (show Bd ++ lb S 4 = sector k g i d.data.toList by rw [sector, HB.out, HS.out])
      rw [E.out] at HC
      go_wp2_with fail
      refine HC.out.string.mono ?_
      rintro x w12 ⟨rfl, h12⟩
      have H12 := Aside0.mk h12.1
      clear h12 HC E
      go_wp2
      go_ret2
      exact ⟨rfl, H12.out⟩

set_option maxRecDepth 100000 in
theorem close_long (k g i : Nat) (d : ByteArray) (w : World) (hd : 110 < d.size) :
    Calls Tryd.prog 10 #[.agg (rc k g i d)] w fun e w' => e = .returned (.tuple #[.string ⟨#[]⟩, .int .i64 11]) ∧ Below w.heap.size w w' := by
  have c1 : decide (110 < (d.size : Int)) = true := decide_eq_true (by omega)
  have c2 : decide (110 < d.size) = true := decide_eq_true (by omega)
  have q3 : (w.alloc (.cells (rc k g i d) 29)).cell? ⟨w.heap.size, 3, none⟩ = some (.string d) := Lib.cell_of_heap (heap_alloc_new w (.cells (rc k g i d) 29)) 3
  go_enter Tryd.func10, Tryd.ntmps10
  go_wp2
  go_ret2
  exact ⟨rfl, (Below.refl _ _).alloc (Nat.le_refl _) _⟩

theorem close_calls (k g i : Nat) (d : ByteArray) (w : World) (hk : k < 256) (hg : g < 18446744073709551616) (hi : i < 4294967296) :
    Calls Tryd.prog 10 #[.agg (rc k g i d)] w fun e w' => e = .returned (.tuple #[.string (closeS k g i d).1, .int .i64 (closeS k g i d).2]) ∧ Below w.heap.size w w' := by
  unfold closeS
  by_cases h : d.size > 110
  · rw [if_pos h]; exact close_long k g i d w h
  · rw [if_neg h]; exact close_good k g i d w hk hg hi (by omega)
end Go.Proofs.YtombochecgjmjaaDoor.Sl
