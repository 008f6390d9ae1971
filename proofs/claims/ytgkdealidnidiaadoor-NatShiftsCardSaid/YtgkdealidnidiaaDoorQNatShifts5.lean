/- Texts of the seat, as far as the row needs them. -/
import Derived.ArgAppend
import Derived.Below
import Derived.BigQuiet
import Derived.ChangeArms
import Derived.ChangeSlices
import Derived.DataReads
import Derived.Deep.AppendLies
import Derived.Deep.CutBlock
import Derived.Deep.DeepCutAuto
import Derived.Deep.Draws
import Derived.Deep.Light
import Derived.Deep.LoopGhost
import Derived.Deep.OwnRows
import Derived.Deep.QuietTactic
import Derived.Deep.RegionHeld3
import Derived.Ground.Names2Prog
import Derived.KernelRfl
import Derived.LaidMore
import Derived.LaidSub
import Derived.Laws.AppendOwn
import Derived.Laws.BitsAllLaws
import Derived.Laws.BitsLemmas
import Derived.Laws.BytesArg
import Derived.Laws.CopyOwn
import Derived.Laws.Externs
import Derived.Laws.IdiomCopy
import Derived.Laws.MakeOwn
import Derived.Laws.OwnMore
import Derived.Laws.ResultCell
import Derived.Laws.Rows
import Derived.Laws.Slices
import Derived.Laws.StructEq
import Derived.Laws.Tables
import Derived.Lib.AppendIntMem
import Derived.Lib.AppendStr
import Derived.Lib.BitFns
import Derived.Lib.ConvBytes
import Derived.Lib.ItoaMem
import Derived.Lib.Join
import Derived.Lib.LazyBuf
import Derived.Lib.OwnBridge
import Derived.Lib.Repeat
import Derived.Lib.SliceRun
import Derived.Lib.SmallJoins
import Derived.Lib.Strings
import Derived.Lib.Walk
import Derived.MakeChecks
import Derived.Maps.AppendAt
import Derived.OrdersHeld
import Derived.Outline
import Derived.OwnWalk
import Derived.ProofKit
import Derived.RowKit
import Derived.RowKit3
import Derived.Shelf.Bits.Mul64
import Derived.Shelf.LaysM
import Derived.Shelf.Slices.Cells
import Derived.Shelf.Slices.CompactI
import Derived.Shelf.Slices.ReverseS
import Derived.Shelf.Small.Bits
import Derived.Shelf.Spec.BitsCarry
import Derived.Shelf.Strconv.Itoa0
import Derived.Shelf.Strconv.Itoa1
import Derived.Shelf.Strconv.Itoa2
import Derived.Shelf.Strings.Builder1
import Derived.Shelf.Strings.Builder2
import Derived.Shelf.Strings.Builder2Cap
import Derived.Shelf.Strings.BuilderCap
import Derived.Shelf.Strings.BuilderF
import Derived.Shelf.Strings.BuilderK
import Derived.Shelf.Strings.OnBuilder
import Derived.Shelf.Strings.Prefix
import Derived.Shelf.Strings.Repeat
import Derived.StillTailTactics
import Derived.Tactics
import Derived.Test.YtgkdealidnidiaaDoorProg
import Derived.Test.YtgkdealidnidiaaDoorRows
import Derived.WalkKit
import Derived.WideLaws
import Derived.WideShapes
import Derived.Test.YtgkdealidnidiaaDoorQNatShifts0
import Derived.Test.YtgkdealidnidiaaDoorQNatShifts1
import Derived.Test.YtgkdealidnidiaaDoorQNatShifts2
import Derived.Test.YtgkdealidnidiaaDoorQNatShifts3
import Derived.Test.YtgkdealidnidiaaDoorQNatShifts4
set_option linter.unusedVariables false
set_option linter.unusedSimpArgs false
namespace Go.Proofs.YtgkdealidnidiaaDoor.Na
open Go.RowKit Go.Proofs.YtgkdealidnidiaaDoorW.PrintWords Go.Proofs.YtgkdealidnidiaaDoorW.PrintLast Go.Proofs.YtgkdealidnidiaaDoorW.PrintMore Go.Proofs.YtgkdealidnidiaaDoor.Dg
set_option linter.unusedSimpArgs false
set_option linter.unusedVariables false
set_option maxRecDepth 100000 in
set_option maxHeartbeats 4000000 in
theorem shlneg_c {w : World} {u : Value} {x : Nat} (h1 : Nw w u x) (n : Int) (hn : n < 0) :
    Calls Tryd.prog 28 #[.agg #[u], .int .i64 n] w fun e w' => e = .returned (.tuple #[.agg #[.slice none 0 0], .int .i64 5]) ∧ Below w.heap.size w w' := by
  obtain ⟨A1, c1, rfl, hc1, hC1⟩ := h1
  have hd : decide (n < 0) = true := decide_eq_true hn
  have hu29 := Tryd.underlying29
  go_enter Tryd.func28, Tryd.ntmps28
  go_wp2_with fail
  have f1 : bx ((w.alloc (Obj.cells #[Value.slice A1 (wd BW x).length c1] 29)).alloc (Obj.cells #[Value.slice none 0 0] 29)) (w.heap.size + 1) (.slice none 0 0) := by have := bx.new (w.alloc (Obj.cells #[Value.slice A1 (wd BW x).length c1] 29)) (.slice none 0 0); simpa using this
  refine bodyPost_ret (results_list (rs := [.cell 4 29, .tmp 5]) rfl (by simp) (.cell (w.heap.size + 1) 29 #[.slice none 0 0] (0, 0) _ rfl f1 Tryd.underlying29 rfl infoN (.tmp .nil))) rfl ?_
  exact ⟨rfl, below_alloc (below_alloc (Below.refl _ _) _) _⟩
set_option maxRecDepth 100000 in
set_option maxHeartbeats 4000000 in
theorem shlgreat_c {w : World} {u : Value} {x : Nat} (h1 : Nw w u x) (hx : (wd BW x).length ≤ 64) (hx0 : ¬ x = 0) (n : Nat) (hn : n ≤ 9223372036854775807) (hg : 4096 < nb x + n) :
    Calls Tryd.prog 28 #[.agg #[u], .int .i64 (n : Int)] w fun e w' => e = .returned (.tuple #[.agg #[.slice none 0 0], .int .i64 1]) ∧ Below w.heap.size w w' := by
  obtain ⟨A1, c1, rfl, hc1, hC1⟩ := h1
  have h1 : Nw w (.slice A1 (wd BW x).length c1) x := ⟨A1, c1, rfl, hc1, hC1⟩
  have hxl : (wd BW x).length ≤ 1000000 := by omega
  generalize (wd BW x).length = n1 at h1 ⊢
  have hd : decide ((n : Int) < 0) = false := decide_eq_false (by omega)
  have hnb := (fits_nb x).1 hx
  have hu29 := Tryd.underlying29
  have hB : Below w.heap.size w ((w.alloc (Obj.cells #[.slice A1 n1 c1] 29)).alloc (Obj.cells #[Value.slice none 0 0] 29)) := below_alloc (below_alloc (Below.refl _ _) _) _
  go_enter Tryd.func28, Tryd.ntmps28
  go_wp2_with fail
  have f0 : bx ((w.alloc (Obj.cells #[Value.slice A1 n1 c1] 29)).alloc (Obj.cells #[Value.slice none 0 0] 29)) w.heap.size (.slice A1 n1 c1) := (bx.new w (.slice A1 n1 c1)).alloc _
  have f1 : bx ((w.alloc (Obj.cells #[Value.slice A1 n1 c1] 29)).alloc (Obj.cells #[Value.slice none 0 0] 29)) (w.heap.size + 1) (.slice none 0 0) := by have := bx.new (w.alloc (Obj.cells #[Value.slice A1 n1 c1] 29)) (.slice none 0 0); simpa using this
  generalize (w.alloc (Obj.cells #[Value.slice A1 n1 c1] 29)).alloc (Obj.cells #[Value.slice none 0 0] 29) = W at f0 f1 hB ⊢
  have l1 : w.heap.size ≤ w.heap.size + 1 := by omega
  have n01 : w.heap.size ≠ w.heap.size + 1 := by omega
  generalize w.heap.size + 1 = b1 at f1 l1 n01 ⊢
  have Z := zero_c (h1.below hB)
  rw [decf hx0] at Z
  refine Z.mono ?_
  rintro e w1 ⟨rfl, hb⟩
  replace f0 := f0.below hb
  replace f1 := f1.below hb
  replace hB := hB.trans (hb.mono hB.size)
  clear hb Z
  have hs1 : w1.cell? ⟨b1, 0, none⟩ = some (.slice none 0 0) := (blk_cell f1 0).trans rfl
  have hfs1 := blk_frozen f1 0
  by_cases hn4 : 4096 < n
  · have hd2 : decide ((n : Int) > 4096) = true := decide_eq_true (by omega)
    have hd3 : decide (4096 < (n : Int)) = true := decide_eq_true (by omega)
    go_wp2_with fail
    refine bodyPost_ret (results_list (rs := [.cell 4 29, .tmp 5]) rfl (by simp) (.cell b1 29 #[.slice none 0 0] (0, 0) _ rfl (blk_put (cs := #[.slice none 0 0]) (cs' := #[.slice none 0 0]) f1 0 (.slice none 0 0) rfl) Tryd.underlying29 rfl infoN (.tmp .nil))) rfl ?_
    exact ⟨rfl, below_set hB l1⟩
  · have hd2 : decide ((n : Int) > 4096) = false := decide_eq_false (by omega)
    have hd3 : decide (4096 < (n : Int)) = false := decide_eq_false (by omega)
    go_wp2_with (first | refine Cel.wpList_load_row_w rfl 29 _ rfl w.heap.size rfl 29 #[.slice A1 n1 c1] (0, 0) _ f0 hu29 rfl infoN ?_)
    refine (bits_c (h1.below hB) hxl).mono ?_
    rintro e w2 ⟨rfl, hb⟩
    replace f1 := f1.below hb
    replace hB := hB.trans (hb.mono hB.size)
    clear hb hs1 hfs1
    have hs1 : w2.cell? ⟨b1, 0, none⟩ = some (.slice none 0 0) := (blk_cell f1 0).trans rfl
    have hfs1 := blk_frozen f1 0
    have hsum : IntKind.i64.wrap ((nb x : Int) + (n : Int)) = ((nb x + n : Nat) : Int) := by rw [IntKind.wrap_i64]; omega
    have hd4 : decide (4096 < ((nb x + n : Nat) : Int)) = true := decide_eq_true (by omega)
    have hd5 : decide (((nb x + n : Nat) : Int) > 4096) = true := decide_eq_true (by omega)
    have hd6 : decide (4096 < ((nb x : Int) + (n : Int))) = true := decide_eq_true (by omega)
    go_wp2_with fail
    refine bodyPost_ret (results_list (rs := [.cell 4 29, .tmp 5]) rfl (by simp) (.cell b1 29 #[.slice none 0 0] (0, 0) _ rfl (blk_put (cs := #[.slice none 0 0]) (cs' := #[.slice none 0 0]) f1 0 (.slice none 0 0) rfl) Tryd.underlying29 rfl infoN (.tmp .nil))) rfl ?_
    exact ⟨rfl, below_set hB l1⟩
set_option maxRecDepth 100000 in
set_option maxHeartbeats 4000000 in
theorem shlzero_c {w : World} {u : Value} (h1 : Nw w u 0) (n : Nat) (hn : n ≤ 9223372036854775807) :
    Calls Tryd.prog 28 #[.agg #[u], .int .i64 (n : Int)] w fun e w' => e = .returned (.tuple #[.agg #[u], .int .i64 0]) ∧ Below w.heap.size w w' := by
  obtain ⟨A1, c1, rfl, hc1, hC1⟩ := h1
  have h1 : Nw w (.slice A1 (wd BW 0).length c1) 0 := ⟨A1, c1, rfl, hc1, hC1⟩
  generalize (wd BW 0).length = n1 at h1 ⊢
  have hd : decide ((n : Int) < 0) = false := decide_eq_false (by omega)
  have hu29 := Tryd.underlying29
  have hB : Below w.heap.size w ((w.alloc (Obj.cells #[.slice A1 n1 c1] 29)).alloc (Obj.cells #[Value.slice none 0 0] 29)) := below_alloc (below_alloc (Below.refl _ _) _) _
  go_enter Tryd.func28, Tryd.ntmps28
  go_wp2_with fail
  have f0 : bx ((w.alloc (Obj.cells #[Value.slice A1 n1 c1] 29)).alloc (Obj.cells #[Value.slice none 0 0] 29)) w.heap.size (.slice A1 n1 c1) := (bx.new w (.slice A1 n1 c1)).alloc _
  have f1 : bx ((w.alloc (Obj.cells #[Value.slice A1 n1 c1] 29)).alloc (Obj.cells #[Value.slice none 0 0] 29)) (w.heap.size + 1) (.slice none 0 0) := by have := bx.new (w.alloc (Obj.cells #[Value.slice A1 n1 c1] 29)) (.slice none 0 0); simpa using this
  generalize (w.alloc (Obj.cells #[Value.slice A1 n1 c1] 29)).alloc (Obj.cells #[Value.slice none 0 0] 29) = W at f0 f1 hB ⊢
  have l1 : w.heap.size ≤ w.heap.size + 1 := by omega
  have n01 : w.heap.size ≠ w.heap.size + 1 := by omega
  generalize w.heap.size + 1 = b1 at f1 l1 n01 ⊢
  have Z := zero_c (h1.below hB)
  rw [decide_eq_true (rfl : 0 = 0)] at Z
  refine Z.mono ?_
  rintro e w1 ⟨rfl, hb⟩
  replace f0 := f0.below hb
  replace f1 := f1.below hb
  replace hB := hB.trans (hb.mono hB.size)
  clear hb Z
  have hs0 : w1.cell? ⟨w.heap.size, 0, none⟩ = some (.slice A1 n1 c1) := (blk_cell f0 0).trans rfl
  have hs1 : w1.cell? ⟨b1, 0, none⟩ = some (.slice none 0 0) := (blk_cell f1 0).trans rfl
  have hfs1 := blk_frozen f1 0
  go_wp2_with (first | refine Cel.wpList_load_row_w rfl 29 _ rfl w.heap.size rfl 29 #[.slice A1 n1 c1] (0, 0) _ f0 hu29 rfl infoN ?_)
  refine bodyPost_ret (results_list (rs := [.cell 4 29, .tmp 5]) rfl (by simp) (.cell b1 29 #[.slice A1 n1 c1] (0, 0) _ rfl (blk_put (cs := #[.slice none 0 0]) (cs' := #[.slice A1 n1 c1]) f1 0 (.slice A1 n1 c1) rfl) Tryd.underlying29 rfl infoN (.tmp .nil))) rfl ?_
  exact ⟨rfl, below_set hB l1⟩
theorem V_shl (x n q p : Nat) (r : List Int) (hq : n / 64 = q) (hp : n % 64 = p) (hrV : V BW r = ((x * 2 ^ p : Nat) : Int)) : V BW (List.replicate q 0 ++ r) = ((x * 2 ^ n : Nat) : Int) := by
  rw [V_append, V_zeros, List.length_replicate, hrV, Int.zero_add]
  have e : BW ^ q * (x * 2 ^ p) = x * 2 ^ n := by
    rw [pow64, Nat.mul_left_comm, ← Nat.pow_add]
    congr 2; omega
  rw [← e, Int.natCast_mul (BW ^ q) (x * 2 ^ p), Int.natCast_pow BW q]
set_option maxRecDepth 100000 in
set_option maxHeartbeats 4000000 in
theorem shlmain_c {w : World} {u : Value} {x : Nat} (h1 : Nw w u x) (hx : (wd BW x).length ≤ 64) (hx0 : ¬ x = 0) (n : Nat) (hg : nb x + n ≤ 4096) :
    Calls Tryd.prog 28 #[.agg #[u], .int .i64 (n : Int)] w fun e w' => ∃ z, e = .returned (.tuple #[.agg #[z], .int .i64 0]) ∧ Nf w.heap.size w' z (x * 2 ^ n) ∧ Below w.heap.size w w' := by
  obtain ⟨A1, c1, rfl, hc1, hC1⟩ := h1
  have h1 : Nw w (.slice A1 (wd BW x).length c1) x := ⟨A1, c1, rfl, hc1, hC1⟩
  have hxl : (wd BW x).length ≤ 1000000 := by omega
  generalize (wd BW x).length = n1 at h1 ⊢
  have hd : decide ((n : Int) < 0) = false := decide_eq_false (by omega)
  have hnb := (fits_nb x).1 hx
  have hu29 := Tryd.underlying29
  have hB : Below w.heap.size w ((w.alloc (Obj.cells #[.slice A1 n1 c1] 29)).alloc (Obj.cells #[Value.slice none 0 0] 29)) := below_alloc (below_alloc (Below.refl _ _) _) _
  go_enter Tryd.func28, Tryd.ntmps28
  go_wp2_with fail
  have f0 : bx ((w.alloc (Obj.cells #[Value.slice A1 n1 c1] 29)).alloc (Obj.cells #[Value.slice none 0 0] 29)) w.heap.size (.slice A1 n1 c1) := (bx.new w (.slice A1 n1 c1)).alloc _
  have f1 : bx ((w.alloc (Obj.cells #[Value.slice A1 n1 c1] 29)).alloc (Obj.cells #[Value.slice none 0 0] 29)) (w.heap.size + 1) (.slice none 0 0) := by have := bx.new (w.alloc (Obj.cells #[Value.slice A1 n1 c1] 29)) (.slice none 0 0); simpa using this
  generalize (w.alloc (Obj.cells #[Value.slice A1 n1 c1] 29)).alloc (Obj.cells #[Value.slice none 0 0] 29) = W at f0 f1 hB ⊢
  have l1 : w.heap.size ≤ w.heap.size + 1 := by omega
  have n01 : w.heap.size ≠ w.heap.size + 1 := by omega
  generalize w.heap.size + 1 = b1 at f1 l1 n01 ⊢
  have Z := zero_c (h1.below hB)
  rw [decf hx0] at Z
  refine Z.mono ?_
  rintro e w1 ⟨rfl, hb⟩
  replace f0 := f0.below hb
  replace f1 := f1.below hb
  replace hB := hB.trans (hb.mono hB.size)
  clear hb Z
  have hd2 : decide ((n : Int) > 4096) = false := decide_eq_false (by omega)
  have hd3 : decide (4096 < (n : Int)) = false := decide_eq_false (by omega)
  go_wp2_with (first | refine Cel.wpList_load_row_w rfl 29 _ rfl w.heap.size rfl 29 #[.slice A1 n1 c1] (0, 0) _ f0 hu29 rfl infoN ?_)
  refine (bits_c (h1.below hB) hxl).mono ?_
  rintro e w2 ⟨rfl, hb⟩
  replace f0 := f0.below hb
  replace f1 := f1.below hb
  replace hB := hB.trans (hb.mono hB.size)
  clear hb
  have hsum : IntKind.i64.wrap ((nb x : Int) + (n : Int)) = ((nb x + n : Nat) : Int) := by rw [IntKind.wrap_i64]; omega
  have hd4 : decide (4096 < ((nb x + n : Nat) : Int)) = false := decide_eq_false (by omega)
  have hd5 : decide (((nb x + n : Nat) : Int) > 4096) = false := decide_eq_false (by omega)
  have hd6 : decide (4096 < ((nb x : Int) + (n : Int))) = false := decide_eq_false (by omega)
  go_wp2_with fail
  have k0 : w2.cell? ⟨w.heap.size, 0, none⟩ = some (.slice A1 n1 c1) := (blk_cell f0 0).trans rfl
  refine start_ (n := 11) (S := fun w' => w'.cell? ⟨w.heap.size, 0, none⟩ = some (.slice A1 n1 c1)) (ds := []) #[false, false, false, false, false, false, false, false, false, false, false] (by kernel_rfl) rfl rfl k0 (fun hHeld => ?_)
  replace f1 := f1.drew
  replace f0 := f0.drew
  replace hB := hB.drew
  clear k0
  generalize w2.drew = w3 at f1 f0 hB hHeld ⊢
  clear hsum hd2 hd3 hd4 hd5 hd6 hd
  obtain ⟨q, hq⟩ : ∃ q, n / 64 = q := ⟨_, rfl⟩
  obtain ⟨p, hp⟩ : ∃ p, n % 64 = p := ⟨_, rfl⟩
  have hpl : p < 64 := by omega
  have hX6 : (wd BW x).length ≤ 1000000 := by omega
  have hql : q ≤ 64 := by omega
  have hq35 : q ≤ 35184372088832 := by omega
  have eq64 : wrap64 ((n : Int) / 64) = (q : Int) := by rw [w64 (by omega) (by omega)]; omega
  have er65 : IntKind.u64.wrap (Int.tmod (n : Int) 64) = (p : Int) := by
    have a1 : (0 : Int) ≤ (n : Int) % 64 := by omega
    have a2 : (n : Int) % 64 < 18446744073709551616 := by omega
    have a3 : (n : Int) % 64 = (p : Int) := by omega
    rw [tmod_nn (by omega), u64w a1 a2, a3]
  refine pure_ (i := 0) (N := some 26) (v := ?_) (a' := ?_) #[true, false, false, false, false, false, false, false, false, false, false] rfl rfl (by kernel_rfl) (fun _ _ _ h => h) (Or.inl ⟨by rfl, ?_⟩) ?_ ?_
  rotate_left
  · intro w'
    go_simp
    with_reducible rfl
  rotate_left
  · simp only [Act.put, List.setIfInBounds_toArray, List.set_cons_zero, List.set_cons_succ, i64_w, i32_w]
    rfl
  refine pure_ (i := 1) (N := some 27) (v := ?_) (a' := ?_) #[true, true, false, false, false, false, false, false, false, false, false] rfl rfl (by kernel_rfl) (fun _ _ _ h => h) (Or.inl ⟨by rfl, ?_⟩) ?_ ?_
  rotate_left
  · intro w'
    go_simp
    with_reducible rfl
  rotate_left
  · simp only [Act.put, List.setIfInBounds_toArray, List.set_cons_zero, List.set_cons_succ, i64_w, i32_w]
    rfl
  refine pure_ (i := 3) (N := some 29) (v := ?_) (a' := ?_) #[true, true, false, true, false, false, false, false, false, false, false] rfl rfl (by kernel_rfl) (fun _ _ _ h => h) (Or.inl ⟨by rfl, ?_⟩) ?_ ?_
  rotate_left
  · intro w'
    go_simp
    with_reducible rfl
  rotate_left
  · simp only [Act.put, List.setIfInBounds_toArray, List.set_cons_zero, List.set_cons_succ, i64_w, i32_w]
    rfl
  refine pure_ (i := 5) (N := some 31) (v := ?_) (a' := ?_) #[true, true, false, true, false, true, false, false, false, false, false] rfl rfl (by kernel_rfl) (fun _ _ _ h => h) (Or.inl ⟨by rfl, ?_⟩) ?_ ?_
  rotate_left
  · intro w'
    go_simp
    with_reducible rfl
  rotate_left
  · simp only [Act.put, List.setIfInBounds_toArray, List.set_cons_zero, List.set_cons_succ, i64_w, i32_w]
    rfl
  refine pure_ (i := 6) (N := some 32) (v := ?_) (a' := ?_) #[true, true, false, true, false, true, true, false, false, false, false] rfl rfl (by kernel_rfl) (fun _ _ _ h => h) (Or.inl ⟨by rfl, ?_⟩) ?_ ?_
  rotate_left
  · intro w'
    go_simp
    with_reducible rfl
  rotate_left
  · simp only [Act.put, List.setIfInBounds_toArray, List.set_cons_zero, List.set_cons_succ, i64_w, i32_w]
    rfl
  refine pure_ (i := 7) (N := some 33) (v := ?_) (a' := ?_) #[true, true, false, true, false, true, true, true, false, false, false] rfl rfl (by kernel_rfl) (fun _ _ _ h => h) (Or.inl ⟨by rfl, ?_⟩) ?_ ?_
  rotate_left
  · intro w'
    go_simp
    with_reducible rfl
  rotate_left
  · simp only [Act.put, List.setIfInBounds_toArray, List.set_cons_zero, List.set_cons_succ, i64_w, i32_w]
    rfl
  refine take_ (i := 4) (N := some 30) (v := ?_) (a' := ?_) #[true, true, false, true, true, true, true, true, false, false, false] rfl rfl (by kernel_rfl) (fun _ _ _ h => h) (Or.inl ⟨by rfl, ?_⟩) hHeld ?_ ?_
  rotate_left
  · rintro w' s0
    go_simp
    with_reducible rfl
  rotate_left
  · simp only [Act.put, List.setIfInBounds_toArray, List.set_cons_zero, List.set_cons_succ, i64_w, i32_w]
    rfl
  have hB3 : Below w3.heap.size w3 w3 := Below.refl _ _
  have E64 := Aside0.mk eq64
  have E0 : 0 ≤ wrap64 ((n : Int) / 64) := by rw [eq64]; exact Int.natCast_nonneg q
  have E1 := Aside0.mk E0
  clear eq64 er65 E0
  refine join_ (σ := Value × Value) 2 #[true, true, true, true, true, true, true, true, true, false, false] (fun s_ => [(28, s_.1), (34, s_.2)]) (fun s_ w' => (w'.cell? ⟨w.heap.size, 0, none⟩ = some (.slice A1 n1 c1)) ∧ Kd.R (Kd.int .u64) 40 w' w3.heap.size (fun _ => True) s_.1 (List.replicate q 0) ∧ (∃ r, Kw .u64 w' s_.2 r ∧ R BW r ∧ V BW r = ((x * 2 ^ p : Nat) : Int) ∧ r.length ≤ 65) ∧ Below w3.heap.size w3 w') ?_ ?_
  rotate_left
  · intro hCont
    refine two_ (i := 2) (j := 8) (Ni := some 28) (Nj := some 34) #[true, true, true, true, true, true, true, true, false, false, false] #[true, true, false, true, true, true, true, true, true, false, false] rfl rfl rfl rfl (by kernel_rfl) (by decide) (by decide) (fun K hK => ?_) (fun K hK => ?_)
    · have WB : Below w3.heap.size w3 w3 := Below.refl _ _
      refine Kd.R_make_step (Kd.int .u64) (w0 := w3) w3.heap.size 40 (by rfl) (N := 28) rfl 22 _ _ rfl (wrap64 ((n : Int) / 64)) rfl rfl Tryd.underlying22 (.int .u64 0) 8 info40 rfl (by decide) (by omega) 0 (ok := fun _ => True) (okp := fun _ => True) rfl (fun _ hk => hk) trivial (E1.out) (by rw [E64.out, Int.toNat_natCast]; omega) WB WB.size ?_
      intro v28 w5 ho hb hg_ hnew_
      rw [E64.out, Int.toNat_natCast] at ho
      refine hK.out _ _ ((blk_cell (f0.below (hb)) 0).trans rfl) (fun hHeld => ?_)
      refine norm_ (a' := ?_) ?_ ?_
      rotate_left
      · show Act.put _ (some 28) _ = _
        simp only [Act.put, List.setIfInBounds_toArray, List.set_cons_zero, List.set_cons_succ, i64_w, i32_w]
        rfl
      refine one_ (i := 8) (N := some 34) #[true, true, true, true, true, true, true, true, true, false, false] rfl rfl (by kernel_rfl) (by decide) (fun K hK => ?_)
      refine goes_ Tryd.func76 (by kernel_rfl) rfl #[.slice A1 n1 c1, .int .u64 (p : Int)] (by rfl) rfl rfl (by (try simp only [List.map_toArray, List.map_cons, List.map_nil]); first | done | rfl) ?_
      refine (shifted_c (h1.below (hB.trans (hb.mono hB.size))) p hpl (wd_R (by decide) x) hX6).mono ?_
      rintro e w6 ⟨z, r, rfl, hz, hrR, hrV, hrl, hb6⟩
      refine ⟨_, rfl, ?_⟩
      have hb36 := hb.trans (hb6.mono hb.size)
      refine hK.out _ _ ((blk_cell (f0.below hb36) 0).trans rfl) (fun hHeld => ?_)
      refine norm_ (a' := ?_) ?_ ?_
      rotate_left
      · show Act.put _ (some 34) _ = _
        simp only [Act.put, List.setIfInBounds_toArray, List.set_cons_zero, List.set_cons_succ, i64_w, i32_w]
        rfl
      exact norm_ (by simp only [putAll, Act.put, List.setIfInBounds_toArray, List.set_cons_zero, List.set_cons_succ]) (hCont (v28, z) _ ⟨hHeld, Kd.R_below ho hb6, ⟨r, Kf.kw hz, hrR, by rw [hrV, wd_V (by decide), Int.natCast_mul], by omega⟩, hb36⟩)
    · refine goes_ Tryd.func76 (by kernel_rfl) rfl #[.slice A1 n1 c1, .int .u64 (p : Int)] (by rfl) rfl rfl (by (try simp only [List.map_toArray, List.map_cons, List.map_nil]); first | done | rfl) ?_
      refine (shifted_c (h1.below hB) p hpl (wd_R (by decide) x) hX6).mono ?_
      rintro e w6 ⟨z, r, rfl, hz, hrR, hrV, hrl, hb6⟩
      refine ⟨_, rfl, ?_⟩
      refine hK.out _ _ ((blk_cell (f0.below hb6) 0).trans rfl) (fun hHeld => ?_)
      refine norm_ (a' := ?_) ?_ ?_
      rotate_left
      · show Act.put _ (some 34) _ = _
        simp only [Act.put, List.setIfInBounds_toArray, List.set_cons_zero, List.set_cons_succ, i64_w, i32_w]
        rfl
      refine one_ (i := 2) (N := some 28) #[true, true, true, true, true, true, true, true, true, false, false] rfl rfl (by kernel_rfl) (by decide) (fun K hK => ?_)
      refine Kd.R_make_step (Kd.int .u64) (w0 := w3) w3.heap.size 40 (by rfl) (N := 28) rfl 22 _ _ rfl (wrap64 ((n : Int) / 64)) rfl rfl Tryd.underlying22 (.int .u64 0) 8 info40 rfl (by decide) (by omega) 0 (ok := fun _ => True) (okp := fun _ => True) rfl (fun _ hk => hk) trivial (E1.out) (by rw [E64.out, Int.toNat_natCast]; omega) hb6 hb6.size ?_
      intro v28 w5 ho hb hg_ hnew_
      rw [E64.out, Int.toNat_natCast] at ho
      have hb65 : Below w6.heap.size w6 w5 := (Below.refl _ w6).grown hg_ (Nat.le_refl _) (fun j hj => by cases hj)
      refine hK.out _ _ ((blk_cell (f0.below hb) 0).trans rfl) (fun hHeld => ?_)
      refine norm_ (a' := ?_) ?_ ?_
      rotate_left
      · show Act.put _ (some 28) _ = _
        simp only [Act.put, List.setIfInBounds_toArray, List.set_cons_zero, List.set_cons_succ, i64_w, i32_w]
        rfl
      exact norm_ (by simp only [putAll, Act.put, List.setIfInBounds_toArray, List.set_cons_zero, List.set_cons_succ]) (hCont (v28, z) _ ⟨hHeld, ho, ⟨r, (Kf.kw hz).below hb65, hrR, by rw [hrV, wd_V (by decide), Int.natCast_mul], by omega⟩, hb⟩)
  · rintro ⟨v28, z⟩ w4 ⟨hHeld, ho, ⟨r, hz, hrR, hrV, hrl⟩, hb⟩
    refine norm_ (a' := ?_) ?_ ?_
    rotate_left
    · simp only [putAll, Act.put, List.setIfInBounds_toArray, List.set_cons_zero, List.set_cons_succ]
      rfl
    have hw3 := hB.size
    have hb13 := f1.lt
    obtain ⟨Az, cz, rfl, hcz, hCz⟩ := hz
    refine one_ (i := 9) (N := some 35) #[true, true, true, true, true, true, true, true, true, true, false] rfl rfl (by kernel_rfl) (by decide) (fun K hK => ?_)
    refine Kd.R_append_rows_step (Kd.int .u64) (w0 := w3) w3.heap.size (by rfl) (.tmp 28) (.tmp 34) 22 40 (.int .u64 0) 8 rfl Tryd.underlying22 info40 rfl (by decide) (by omega) v28 (List.replicate q 0) r Az r.length cz (fun _ => True) (fun _ => False) rfl rfl ?aO ?aR (fun _ _ h => h) (fun _ h => h.elim) ?aF ?aB ?aS ?aL ?_
    case aO => exact ho
    case aR => exact hCz
    case aF => exact fun _ _ => trivial
    case aB => exact hb
    case aS => exact hb.size
    case aL => rw [List.length_replicate]; omega
    intro v35 w7 ho7 hb7 hg7 hat7
    refine hK.out _ _ ((blk_cell (f0.below hb7) 0).trans rfl) (fun hHeld => ?_)
    clear hK K
    refine norm_ (a' := ?_) ?_ ?_
    rotate_left
    · show Act.put _ (some 35) _ = _
      simp only [Act.put, List.setIfInBounds_toArray, List.set_cons_zero, List.set_cons_succ, i64_w, i32_w]
      rfl
    refine pure_ (i := 10) (N := some 6) (v := ?_) (a' := ?_) #[true, true, true, true, true, true, true, true, true, true, true] rfl rfl (by kernel_rfl) (fun _ _ _ h => h) (Or.inl ⟨by rfl, ?_⟩) ?_ ?_
    rotate_left
    · intro w'
      go_simp
      with_reducible rfl
    rotate_left
    · simp only [Act.put, List.setIfInBounds_toArray, List.set_cons_zero, List.set_cons_succ, i64_w, i32_w]
      rfl
    refine done_ (by kernel_rfl) ?_
    have hK7 : Kf .u64 w3.heap.size w7 v35 (List.replicate q 0 ++ r) := Kf.ofR ho7
    have hR7 : R BW (List.replicate q 0 ++ r) := R_append.2 ⟨R_zeros (by decide) q, hrR⟩
    have hV7 : V BW (List.replicate q 0 ++ r) = ((x * 2 ^ n : Nat) : Int) := V_shl x n q p r hq hp hrV
    replace f1 := f1.below hb7
    replace hB := hB.trans (hb7.mono hB.size)
    clear f0 hHeld hat7 hg7 hcz hCz ho hb
    obtain ⟨A7, c7, rfl⟩ := Kd.V_slice hK7
    obtain ⟨n7, en7⟩ : ∃ n, (List.replicate q 0 ++ r).length = n := ⟨_, rfl⟩
    rw [en7] at hK7 ⊢
    go_wp2_with fail
    refine (norm_c (n := x * 2 ^ n) hb7.size (show Kf .u64 w3.heap.size w7 _ _ from hK7) hR7 hV7 (by rw [List.length_append, List.length_replicate]; omega)).mono ?_
    rintro e w8 ⟨z8, rfl, hz8, hb8⟩
    replace f1 := f1.below hb8
    replace hB := hB.trans (hb8.mono hB.size)
    obtain ⟨A8, c8, rfl⟩ := Kd.V_slice hz8
    obtain ⟨n8, en8⟩ : ∃ k, (wd BW (x * 2 ^ n)).length = k := ⟨_, rfl⟩
    rw [en8] at hz8 ⊢
    clear hK7 hR7 hV7 en7
    have hs1 : w8.cell? ⟨b1, 0, none⟩ = some (.slice none 0 0) := (blk_cell f1 0).trans rfl
    have hfs1 := blk_frozen f1 0
    go_wp2_with fail
    refine bodyPost_ret (results_list (rs := [.cell 4 29, .tmp 5]) rfl (by simp) (.cell b1 29 #[.slice A8 n8 c8] (0, 0) _ rfl (blk_put (cs := #[.slice none 0 0]) (cs' := #[.slice A8 n8 c8]) f1 0 (.slice A8 n8 c8) rfl) Tryd.underlying29 rfl infoN (.tmp .nil))) rfl ?_
    exact ⟨_, rfl, Kf.mono (Kf.put hz8 hb13 (.slice A8 n8 c8)) hw3, below_set hB l1⟩
end Go.Proofs.YtgkdealidnidiaaDoor.Na
namespace Go.Proofs.YtgkdealidnidiaaDoor.Na
open Go.RowKit Go.Proofs.YtgkdealidnidiaaDoorW.PrintWords Go.Proofs.YtgkdealidnidiaaDoorW.PrintLast Go.Proofs.YtgkdealidnidiaaDoorW.PrintMore Go.Proofs.YtgkdealidnidiaaDoor.Dg
set_option linter.unusedSimpArgs false
set_option linter.unusedVariables false
abbrev Tab (w : World) : Prop := Lib.TabIs Tryd.prog w "internal/strconv.uint64pow10" .u64 Lib.pow10Tab
set_option maxRecDepth 100000 in
set_option maxHeartbeats 4000000 in
theorem fmtsmall_c {w : World} (u : Nat) (hu : u < 100) :
    Calls Tryd.prog 99 #[.int .u64 (u : Int), .int .i64 10] w fun e w' => e = .returned (.string (decS u)) ∧ Below w.heap.size w w' := by
  have hd : decide ((u : Int) < 100) = true := decide_eq_true (by omega)
  have hwr := Aside0.mk (w64 (x := (u : Int)) (by omega) (by omega))
  have hwi : IntKind.i64.wrap (u : Int) = (u : Int) := by rw [IntKind.wrap_i64]; omega
  go_enter Tryd.func99, Tryd.ntmps99
  go_wp2_with fail
  refine (Tryd.internal_strconv_small u hu _).mono ?_
  rintro e w' ⟨rfl, rfl⟩
  go_wp2
  go_ret
  exact ⟨rfl, Below.refl _ _⟩
set_option maxRecDepth 100000 in
set_option maxHeartbeats 4000000 in
theorem fmtbig_c {w : World} (u : Nat) (hu : ¬ u < 100) (hu64 : u < 18446744073709551616) (htab : Tab w) :
    Calls Tryd.prog 99 #[.int .u64 (u : Int), .int .i64 10] w fun e w' => e = .returned (.string (decS u)) ∧ Below w.heap.size w w' := by
  have hd : decide ((u : Int) < 100) = false := decide_eq_false (by omega)
  have hu1 : 1 ≤ u := by omega
  have hnd20 : Lib.nDigits u ≤ 20 := by have := Lib.numDigits_eq u hu1 hu64; split at this <;> omega
  go_enter Tryd.func99, Tryd.ntmps99
  go_wp2_with fail
  have hH0 := Lib.holds_zero0 w 150 (Lib.nDigits u) (by omega)
  have hfmt := Tryd.internal_strconv_formatBase10 w.heap.size 0 24 u (Array.replicate (Lib.nDigits u) 0) (w.alloc (.cells Lib.zeros24 150)) hH0 (by rw [Array.size_replicate]; exact Lib.lt_pow_nDigits u) hu64 (by rw [Array.size_replicate]; omega)
  rw [Array.size_replicate] at hfmt
  have HH0 := Aside0.mk hH0
  have HF := Aside0.mk hfmt
  clear hH0 hfmt
  have hal : Tryd.prog.arrayLen 150 = 24 := by kernel_rfl
  have hsl : ∀ W, (Instr.sliceAt 150 (.pointer (some ⟨w.heap.size, 0, none⟩)) none (some (.int .i64 (Lib.nDigits u : Int))) none).run Tryd.prog W = .ok (.slice (some ⟨w.heap.size, 0, none⟩) (Lib.nDigits u) 24) W := fun W => by
    rw [run_sliceAt_array_h W 150 ⟨w.heap.size, 0, none⟩ (by kernel_rfl) .i64 (Lib.nDigits u : Int) (by omega) (by rw [hal]; omega)]
    go_simp
  clear hal
  refine (Tryd.internal_strconv_numDigits u hu1 hu64 _ (Lib.tabIs_alloc htab _)).mono ?_
  rintro e w' ⟨rfl, rfl⟩
  go_wp2_with fail
  refine (HF.out).mono ?_
  rintro e w' ⟨rfl, k, v', dk, rfl, hF⟩
  have hcv : (convert 104 9 (.slice (some ⟨w.heap.size, 0, none⟩) (Lib.nDigits u) 24)).run Tryd.prog ((«Sort».putRow (fun (b : UInt8) => Value.int .u8 (b.toNat : Int)) (w.alloc (.cells Lib.zeros24 150)) w.heap.size 0 dk).drewN k) = .ok (.string ⟨(Lib.decDigits u).toArray⟩) ((«Sort».putRow (fun (b : UInt8) => Value.int .u8 (b.toNat : Int)) (w.alloc (.cells Lib.zeros24 150)) w.heap.size 0 dk).drewN k) := by
    have h := run_convert_bytes_back (P := Tryd.prog) ((«Sort».putRow (fun (b : UInt8) => Value.int .u8 (b.toNat : Int)) (w.alloc (.cells Lib.zeros24 150)) w.heap.size 0 dk).drewN k) 104 9 5 ⟨w.heap.size, 0, none⟩ 24 (Lib.decDigits u) Tryd.underlying104 Tryd.underlying5 Tryd.underlying9 (fun j hj => by
      rw [Lib.row_is_numeral hF j hj, Lib.add_plain, World.cell?_drewN]
      exact «Sort».cell?_putRow (fun (b : UInt8) => Value.int .u8 (b.toNat : Int)) _ w.heap.size 0 _ dk HH0.out (by rw [hF.size, Array.size_replicate]) j (by rw [hF.size]; rw [Lib.decDigits_length] at hj; exact hj))
    rw [Lib.decDigits_length] at h
    exact h
  generalize hW : («Sort».putRow (fun (b : UInt8) => Value.int .u8 (b.toNat : Int)) (w.alloc (.cells Lib.zeros24 150)) w.heap.size 0 dk).drewN k = W at hcv ⊢
  go_wp2
  go_ret
  subst hW
  obtain ⟨os, eo⟩ : ∃ os, («Sort».putRow (fun (b : UInt8) => Value.int .u8 (b.toNat : Int)) (w.alloc (.cells Lib.zeros24 150)) w.heap.size 0 dk).drewN k = «Sort».grow (w.drewN k) os := by
    rw [«Sort».alloc_eq_grow]
    obtain ⟨os', _, e⟩ := «Sort».putRow_grow_new (fun (b : UInt8) => Value.int .u8 (b.toNat : Int)) w #[.cells Lib.zeros24 150] w.heap.size 0 dk (Nat.le_refl _)
    exact ⟨os', by rw [e]; rfl⟩
  refine ⟨rfl, ?_⟩
  rw [eo]
  exact Lib.below_grow _ w (Nat.le_refl _) k os
set_option maxRecDepth 100000 in
theorem fmt_c {w : World} (u : Nat) (hu64 : u < 18446744073709551616) (htab : Tab w) :
    Calls Tryd.prog 69 #[.int .u64 (u : Int), .int .i64 10] w fun e w' => e = .returned (.string (decS u)) ∧ Below w.heap.size w w' := by
  have K : Calls Tryd.prog 99 #[.int .u64 (u : Int), .int .i64 10] w fun e w' => e = .returned (.string (decS u)) ∧ Below w.heap.size w w' := by
    by_cases h : u < 100
    · exact fmtsmall_c u h
    · exact fmtbig_c u h hu64 htab
  go_enter Tryd.func69, Tryd.ntmps69
  go_wp2_with fail
  refine K.mono ?_
  rintro e w' ⟨rfl, hb⟩
  go_wp2
  go_ret
  exact ⟨rfl, hb⟩
end Go.Proofs.YtgkdealidnidiaaDoor.Na
namespace Go.Proofs.YtgkdealidnidiaaDoor.Na
def padK : Nat → Nat → List UInt8
  | 0, _ => []
  | k + 1, r => padK k (r / 10) ++ [UInt8.ofNat (48 + r % 10)]
theorem padK_len : ∀ k r, (padK k r).length = k
  | 0, _ => rfl
  | k + 1, r => by rw [padK, List.length_append, padK_len k]; rfl
theorem padK_zero : ∀ k, padK k 0 = List.replicate k 48
  | 0 => rfl
  | k + 1 => by rw [padK, Nat.zero_div, padK_zero k, List.replicate_succ', Nat.zero_mod]; rfl
theorem dec_split : ∀ (k q r : Nat), 0 < q → r < 10 ^ k → Lib.decDigits (q * 10 ^ k + r) = Lib.decDigits q ++ padK k r
  | 0, q, r, hq, hr => by
    obtain rfl : r = 0 := by rw [Nat.pow_zero] at hr; omega
    simp [padK]
  | k + 1, q, r, hq, hr => by
    have hp : 10 ^ (k + 1) = 10 ^ k * 10 := Nat.pow_succ ..
    rw [hp] at hr ⊢
    have h1 : (q * (10 ^ k * 10) + r) / 10 = q * 10 ^ k + r / 10 := by
      rw [← Nat.mul_assoc, Nat.mul_comm _ 10, Nat.mul_add_div (by decide)]
    have h2 : (q * (10 ^ k * 10) + r) % 10 = r % 10 := by
      rw [← Nat.mul_assoc, Nat.mul_comm _ 10, Nat.mul_add_mod]
    have hpos : 0 < 10 ^ k := Nat.pow_pos (by decide)
    have hge : 1 * 10 ^ k ≤ q * 10 ^ k := Nat.mul_le_mul_right _ hq
    have h3 : ¬ q * (10 ^ k * 10) + r < 10 := by
      rw [← Nat.mul_assoc]; omega
    rw [Lib.decDigits, dif_neg h3, h1, h2, dec_split k q (r / 10) hq (by omega), padK, List.append_assoc]
theorem padK_dec : ∀ (k r : Nat), r < 10 ^ (k + 1) → padK (k + 1) r = List.replicate (k + 1 - (Lib.decDigits r).length) 48 ++ Lib.decDigits r
  | 0, r, hr => by
    have h : r < 10 := by simpa using hr
    rw [Lib.decDigits_one h, padK, padK, Nat.mod_eq_of_lt h]; rfl
  | k + 1, r, hr => by
    by_cases h : r < 10
    · rw [Lib.decDigits_one h, padK, Nat.div_eq_of_lt h, padK_zero, Nat.mod_eq_of_lt h]; rfl
    · have hd : r / 10 < 10 ^ (k + 1) := by rw [Nat.pow_succ] at hr; omega
      have e : Lib.decDigits r = Lib.decDigits (r / 10) ++ [UInt8.ofNat (48 + r % 10)] := by
        rw [Lib.decDigits, dif_neg h]
      rw [padK, padK_dec k (r / 10) hd, e, List.length_append, List.length_singleton, List.append_assoc]
      congr 2
      omega
theorem dec_len_le (k r : Nat) (hr : r < 10 ^ (k + 1)) : (Lib.decDigits r).length ≤ k + 1 := by
  have h := congrArg List.length (padK_dec k r hr)
  rw [padK_len, List.length_append, List.length_replicate] at h
  omega
def D19 : Nat := 10000000000000000000
theorem D19_eq : D19 = 10 ^ (18 + 1) := by decide
theorem div19_lt {n : Nat} (h : ¬ n = 0) : n / D19 < n := Nat.div_lt_self (by omega) (by decide)
def part (n : Nat) : List UInt8 := if n / D19 = 0 then Lib.decDigits (n % D19) else List.replicate (19 - (Lib.decDigits (n % D19)).length) 48 ++ Lib.decDigits (n % D19)
def partsOf (n : Nat) : List (List UInt8) := if h : n = 0 then [] else part n :: partsOf (n / D19)
termination_by n
decreasing_by exact div19_lt h
theorem parts_zero : partsOf 0 = [] := by rw [partsOf, dif_pos rfl]
theorem parts_step {n : Nat} (h : 0 < n) : partsOf n = part n :: partsOf (n / D19) := by rw [partsOf, dif_neg (by omega)]
theorem parts_text : ∀ (k n : Nat), n < k → 0 < n → (partsOf n).reverse.flatten = Lib.decDigits n
  | 0, n, h, _ => by omega
  | k + 1, n, h, h0 => by
    rw [parts_step h0, List.reverse_cons, List.flatten_append]
    have e1 : ([part n] : List (List UInt8)).flatten = part n := by simp
    rw [e1]
    unfold part
    by_cases hq : n / D19 = 0
    · rw [if_pos hq, hq, parts_zero]
      have : n < D19 := (Nat.div_eq_zero_iff.1 hq).resolve_left (by decide)
      rw [Nat.mod_eq_of_lt this]; simp
    · have hlt := div19_lt (n := n) (by omega)
      rw [if_neg hq, parts_text k (n / D19) (Nat.lt_of_lt_of_le hlt (by omega)) (Nat.pos_of_ne_zero hq)]
      have hm : n % D19 < 10 ^ (18 + 1) := by rw [← D19_eq]; exact Nat.mod_lt _ (by decide)
      rw [← padK_dec 18 _ hm, ← dec_split (18 + 1) (n / D19) (n % D19) (Nat.pos_of_ne_zero hq) hm, ← D19_eq]
      congr 1
      have := Nat.div_add_mod n D19
      rw [Nat.mul_comm]; exact this
theorem parts_dec {n : Nat} (h : 0 < n) : (partsOf n).reverse.flatten = Lib.decDigits n := parts_text (n + 1) n (by omega) h
theorem parts_len : ∀ (k n : Nat), n < 2 ^ k → (partsOf n).length ≤ k
  | 0, n, h => by
    obtain rfl : n = 0 := by simpa using h
    rw [parts_zero]; exact Nat.le_refl _
  | k + 1, n, h => by
    rcases Nat.eq_zero_or_pos n with h0 | h0
    · subst h0; rw [parts_zero]; exact Nat.zero_le _
    · rw [parts_step h0, List.length_cons]
      have : n / D19 < 2 ^ k := by
        have h1 : n / D19 ≤ n / 2 := Nat.div_le_div_left (by decide) (by decide)
        rw [Nat.pow_succ] at h; omega
      have := parts_len k (n / D19) this
      omega
theorem join_flat (xs : List (List UInt8)) : Lib.join xs [] = xs.flatten := by
  unfold Lib.join List.intercalate
  induction xs with
  | nil => rfl
  | cons a t ih =>
    cases t with
    | nil => rfl
    | cons b r => simp only [List.intersperse, List.flatten_cons, List.nil_append] at ih ⊢; rw [ih]
end Go.Proofs.YtgkdealidnidiaaDoor.Na
namespace Go.Proofs.YtgkdealidnidiaaDoor.Na
open Go.RowKit Go.Proofs.YtgkdealidnidiaaDoorW.PrintWords Go.Proofs.YtgkdealidnidiaaDoorW.PrintLast Go.Proofs.YtgkdealidnidiaaDoorW.PrintMore Go.Proofs.YtgkdealidnidiaaDoor.Dg
set_option linter.unusedSimpArgs false
set_option linter.unusedVariables false
theorem Tab.below {w w' : World} (h : Tab w) (hb : Below w.heap.size w w') : Tab w' := by
  unfold Tab Lib.TabIs World.var? at *
  cases hg : Tryd.prog.globalNamed "internal/strconv.uint64pow10" with
  | none => simp [hg] at h
  | some g =>
    simp only [hg, Option.bind_some] at h ⊢
    have hlt : g < w.heap.size := by
      rcases Nat.lt_or_ge g w.heap.size with h' | h'
      · exact h'
      · rw [Array.getElem?_eq_none h'] at h; simp at h
    rw [hb.block g hlt]; exact h
def bs (l : List UInt8) : ByteArray := ⟨l.toArray⟩
theorem bs_data (l : List UInt8) : (bs l).data.toList = l := by simp [bs]
theorem bs_size (l : List UInt8) : (bs l).size = l.length := by simp [bs, ByteArray.size]
theorem bs_dec (n : Nat) : bs (Lib.decDigits n) = decS n := rfl
theorem map_bs (zs : List (List UInt8)) : zs.map Proofs.encStr = (zs.map bs).map Value.string := by
  simp [List.map_map, bs, Function.comp_def]
theorem turn_c {w0 w : World} {N : Nat} {v : Value} {zs : List (List UInt8)} (h : w.ownsRow N 9 1 v zs.length (zs.map Proofs.encStr)) (hne : v ≠ .slice none 0 0) (hB : Below N w0 w) :
    Calls Tryd.prog 71 #[v] w fun e w' => e = .returned (.tuple #[]) ∧ w'.ownsRow N 9 1 v zs.length (zs.reverse.map Proofs.encStr) ∧ Below N w0 w' := by
  obtain ⟨g, cap, rfl, hbg, hgl, hnc, hcm, hlen, hH⟩ := Lib.holds_of_ownsRow h hne
  refine (Tryd.slices_Reverse_string g 0 cap zs w hH (by unfold maxLen at hcm; omega)).mono ?_
  rintro e w' ⟨rfl, n, rfl⟩
  have h1 := Lib.ownsRow_putRow (q := n) (ys := zs.reverse) h (by simp) (Nat.le_refl _)
  rw [List.take_of_length_le (by simp)] at h1
  exact ⟨rfl, h1, Lib.below_putRow hB hbg⟩
theorem join_c {w : World} {N : Nat} {v : Value} {zs : List (List UInt8)} (h : w.ownsRow N 9 1 v zs.length (zs.map Proofs.encStr)) (hne : v ≠ .slice none 0 0) (hl : zs.flatten.length ≤ 140737488355328) (hz : zs.length ≤ 140737488355328) :
    Calls Tryd.prog 72 #[v, .string ⟨#[]⟩] w fun e w' => e = .returned (.string (bs zs.flatten)) ∧ Below w.heap.size w w' := by
  obtain ⟨g, cap, rfl, hbg, hgl, hnc, hcm, hlen, hH⟩ := Lib.holds_of_ownsRow h hne
  have e1 : (zs.map bs).map (·.data.toList) = zs := by simp [List.map_map, Function.comp_def, bs]
  have H := Tryd.strings_Join g 0 cap (zs.map bs) ⟨#[]⟩ w (fun j x hj => by
    have hj' : j < zs.length := by
      rcases Nat.lt_or_ge j zs.length with h' | h'
      · exact h'
      · rw [List.getElem?_eq_none (by simpa using h')] at hj; cases hj
    have := (hH j (by simpa using hj')).1
    rw [this]
    rw [List.getElem?_map, List.getElem?_eq_getElem hj'] at hj
    obtain rfl := Option.some.inj hj
    simp [hj', bs]) hgl (by simpa using hz) (by simpa using hnc) (by rw [e1, join_flat]; exact hl)
  rw [e1, join_flat, List.length_map] at H
  exact H
theorem rep0_c {w : World} (c : Nat) (hc : c ≤ 19) :
    Calls Tryd.prog 70 #[.string ⟨#[48]⟩, .int .i64 (c : Int)] w fun e w' => e = .returned (.string (bs (List.replicate c 48))) ∧ Below w.heap.size w w' := by
  have H := Tryd.strings_Repeat ⟨#[48]⟩ c w (by omega) (by show 1 * c ≤ _; omega)
  refine H.mono ?_
  rintro e w' ⟨rfl, hb⟩
  refine ⟨?_, hb⟩
  have := Lib.repeatL_replicate 48 1 c
  simp only [List.replicate_one, Nat.mul_one] at this
  simp only [bs]
  rw [this]
theorem divs19_c {w : World} {u : Value} {x : Nat} (h1 : Nw w u x) (hx : (wd BW x).length ≤ 1000000) : Calls Tryd.prog 67 #[u, .int .u64 10000000000000000000] w fun e w' => ∃ z q, e = .returned (.tuple #[z, .int .u64 ((x % D19 : Nat) : Int)]) ∧ Kf .u64 w.heap.size w' z q ∧ R BW q ∧ q.length = (wd BW x).length ∧ V BW q = ((x / D19 : Nat) : Int) ∧ Below w.heap.size w w' :=
  divs_c h1 hx D19 (by decide) (by decide)
theorem part_eq (n : Nat) : bs (part n) = if n / D19 = 0 then decS (n % D19) else bs (List.replicate (19 - (decS (n % D19)).size) 48) ++ decS (n % D19) := by
  have hs : (decS (n % D19)).size = (Lib.decDigits (n % D19)).length := bs_size _
  unfold part
  split
  · rfl
  · apply ba_ext
    rw [ba_append, bs_data, bs_data, decS_data, hs]
theorem dec19 (n : Nat) : (decS (n % D19)).size ≤ 19 := by
  have hm : n % D19 < 10 ^ (18 + 1) := by rw [← D19_eq]; exact Nat.mod_lt _ (by decide)
  have := dec_len_le 18 _ hm
  rw [show (decS (n % D19)).size = (Lib.decDigits (n % D19)).length from bs_size _]
  exact this
theorem infoS : (Tryd.prog.info? 9).map (fun i => (i.zero, i.size, i.bytes)) = some (some (.string ⟨#[]⟩), Kd.string.sz, 16) := by kernel_rfl
theorem run_field29 (v : Value) (w : World) : (Instr.field 29 (.agg #[v]) 0).run Tryd.prog w = .ok v w := by
  have hu29 := Tryd.underlying29
  have hu22 : Tryd.prog.underlying 22 = some (.slice 40) := Tryd.underlying22
  unfold Instr.field
  go_simp
  simp [asAgg]
theorem dec_zero : decS 0 = ⟨#[48]⟩ := by
  apply ba_ext
  rw [decS_data, decD_small (by omega)]; rfl
theorem dec_bound (x : Nat) : (Lib.decDigits x).length ≤ 20 * (wd BW x).length + 1 := by
  have h1 : x < BW ^ (wd BW x).length := (len_le_iff (by decide) _).1 (Nat.le_refl _)
  have h2 : BW ^ (wd BW x).length ≤ (10 ^ 20) ^ (wd BW x).length := Nat.pow_le_pow_left (by decide) _
  rw [← Nat.pow_mul] at h2
  have h3 : 10 ^ (20 * (wd BW x).length) ≤ 10 ^ (20 * (wd BW x).length + 1) := Nat.pow_le_pow_right (by decide) (by omega)
  exact dec_len_le _ x (Nat.lt_of_lt_of_le h1 (Nat.le_trans h2 h3))
theorem parts_bound (x : Nat) : (partsOf x).length ≤ 64 * (wd BW x).length := by
  have h1 : x < BW ^ (wd BW x).length := (len_le_iff (by decide) _).1 (Nat.le_refl _)
  rw [pow64] at h1
  exact parts_len _ x h1
set_option maxRecDepth 100000 in
set_option maxHeartbeats 4000000 in
theorem str_c {w : World} {u : Value} {x : Nat} (h1 : Nw w u x) (hx : (wd BW x).length ≤ 10000) (htab : Tab w) :
    Calls Tryd.prog 23 #[.agg #[u]] w fun e w' => e = .returned (.string (decS x)) ∧ Below w.heap.size w w' := by
  have hu29 := Tryd.underlying29
  have hu22 := Tryd.underlying22
  obtain ⟨A1, c1, rfl, hc1, hC1⟩ := h1
  have h1 : Nw w (.slice A1 (wd BW x).length c1) x := ⟨A1, c1, rfl, hc1, hC1⟩
  clear hC1 hc1
  obtain ⟨n1, en1⟩ : ∃ n, (wd BW x).length = n := ⟨_, rfl⟩
  rw [en1] at h1 ⊢
  go_enter Tryd.func23, Tryd.ntmps23
  go_wp2_with fail
  have hV0 : Kd.V (Kd.int .u64) 0 (w.alloc (Obj.cells #[Value.slice A1 n1 c1] 29)) 0 (fun i => True ∧ some i ≠ (Value.slice none 0 0).ownBlock) (.slice A1 n1 c1) (wd BW x) := Kd.V_apart_nil (Kd.V_mono (Kd.V_below (h1.V 0 0) (below_alloc (Below.refl _ _) _)) (fun i hi => trivial))
  have hB0 : Below w.heap.size w (w.alloc (Obj.cells #[Value.slice A1 n1 c1] 29)) := below_alloc (Below.refl _ _) _
  generalize w.alloc (Obj.cells #[Value.slice A1 n1 c1] 29) = W at hV0 hB0 ⊢
  rw [← en1] at hV0 ⊢
  clear en1 h1
  go_loopg [3, 4] x (fun k s3 s4 wr => ∃ zs : List (List UInt8), Aside0 (zs ++ partsOf k = partsOf x) ∧ Aside0 (k ≤ x) ∧ Aside0 (Kd.R Kd.string 9 wr w.heap.size (fun i => w.heap.size ≤ i) s3 (zs.map bs)) ∧ Aside0 (Kd.V (Kd.int .u64) 0 wr 0 (fun i => True ∧ some i ≠ s3.ownBlock) s4 (wd BW k)) ∧ Aside0 (Below w.heap.size w wr))
  case atStart => exact ⟨[], ⟨rfl⟩, ⟨Nat.le_refl _⟩, ⟨Kd.R_nil _ _ _ _ _⟩, ⟨hV0⟩, ⟨hB0⟩⟩
  case round =>
    clear hV0 hB0
    obtain ⟨zs, HZ, HK, HO, HV, HB⟩ := hrel
    obtain ⟨A4, c4, rfl⟩ := Kd.V_slice HV.out
    by_cases hk : gk = 0
    · subst hk
      rw [wd_zero] at HV ⊢
      obtain ⟨A3, c3, rfl⟩ := Kd.R_slice HO.out
      rw [parts_zero, List.append_nil] at HZ
      rw [List.length_map] at HO HV ⊢
      by_cases hz : zs.length = 0
      · have hd : ((zs.length : Int) == 0) = true := beq_iff_eq.2 (by omega)
        have HX := Aside0.mk hz
        clear hz
        go_wp2_with fail
        go_ret
        refine ⟨?_, HB.out⟩
        have h0 := HX.out
        rw [HZ.out] at h0
        have : x = 0 := by
          rcases Nat.eq_zero_or_pos x with h | h
          · exact h
          · rw [parts_step h] at h0; simp at h0
        subst this
        rw [dec_zero]
        rfl
      · have hd : ((zs.length : Int) == 0) = false := beq_eq_false_iff_ne.2 (by omega)
        have HX := Aside0.mk hz
        clear hz
        go_wp2_with fail
        have hx0 : 0 < x := by
          rcases Nat.eq_zero_or_pos x with h | h
          · exfalso; apply HX.out; rw [HZ.out, h, parts_zero]; rfl
          · exact h
        have ho := Kd.own_of_R HO.out
        rw [List.length_map] at ho
        have ho' : wr.ownsRow w.heap.size 9 1 (.slice A3 zs.length c3) zs.length (zs.map Proofs.encStr) := by
          rw [map_bs]; exact ho
        have hne : Value.slice A3 zs.length c3 ≠ .slice none 0 0 := by
          intro h; injection h with _ h _; exact HX.out h
        refine (turn_c ho' hne HB.out).mono ?_
        rintro e w1 ⟨rfl, ho1, hB1⟩
        go_wp2_with fail
        have hz1 : zs.reverse.flatten = Lib.decDigits x := by rw [HZ.out]; exact parts_dec hx0
        have hb1 := dec_bound x
        have hb2 := parts_bound x
        rw [← HZ.out] at hb2
        have J := join_c (zs := zs.reverse) (by rw [List.length_reverse]; exact ho1) hne (by rw [hz1]; omega) (by rw [List.length_reverse]; omega)
        rw [hz1, bs_dec] at J
        refine J.mono ?_
        rintro e w2 ⟨rfl, hb⟩
        go_wp2
        go_ret
        exact ⟨rfl, hB1.trans (hb.mono hB1.size)⟩
    · have hl : 0 < (wd BW gk).length := by
        rcases Nat.eq_zero_or_pos (wd BW gk).length with h | h
        · exact absurd (List.length_eq_zero_iff.1 h) (wd_ne (by decide) (Nat.pos_of_ne_zero hk))
        · exact h
      have HL := len_mono (b := BW) (x := gk) (y := x) (by decide) HK.out
      have hN : Nw wr (.slice A4 (wd BW gk).length c4) gk := Kw.ofV HV.out
      obtain ⟨n4, en4⟩ : ∃ n, (wd BW gk).length = n := ⟨_, rfl⟩
      rw [en4] at hl hN HV HL ⊢
      have d1 : decide ((n4 : Int) > 0) = true := decide_eq_true (by omega)
      have d2 : decide (0 < (n4 : Int)) = true := decide_eq_true (by omega)
      have d3 : decide (0 < n4) = true := decide_eq_true (by omega)
      have HN := Aside0.mk hN
      have EN := Aside0.mk en4
      clear hl en4 hN
      have hxl : (wd BW gk).length ≤ 10000 := by rw [EN.out]; omega
      have HXL := Aside0.mk hxl
      clear hxl
      go_wp2_with fail
      refine (divs19_c HN.out (by have := HXL.out; omega)).mono ?_
      rintro e w1 ⟨q, Q, rfl, hq, hqR, hql, hqV, hb⟩
      have hB1 := HB.out.trans (hb.mono HB.out.size)
      have hO1 := Kd.R_below HO.out hb
      have HQ := Aside0.mk (show R BW Q ∧ Q.length = (wd BW gk).length ∧ V BW Q = ((gk / D19 : Nat) : Int) from ⟨hqR, hql, hqV⟩)
      obtain ⟨m, hm⟩ : ∃ m, gk % D19 = m := ⟨_, rfl⟩
      have hm64 : m < 18446744073709551616 := by rw [← hm]; exact Nat.lt_of_lt_of_le (Nat.mod_lt _ (by decide)) (by decide)
      rw [hm]
      have HM := Aside0.mk hm
      have HN1 := Aside0.mk (show wr.heap.size ≤ w1.heap.size from hb.size)
      have hZL : zs.length ≤ 640000 := by
        have h1 := congrArg List.length HZ.out
        rw [List.length_append] at h1
        have h2 := parts_bound x
        omega
      have HZL := Aside0.mk hZL
      have HP0 := Aside0.mk (part_eq gk)
      rw [hm] at HP0
      have hd19 := dec19 gk
      rw [hm] at hd19
      clear HB HV HN hqR hql hqV hm hZL
      have HO0 := HO
      clear HO
      clear hb
      go_wp2_with fail
      refine (norm_c (n := gk / D19) HN1.out hq HQ.out.1 HQ.out.2.2 (by rw [HQ.out.2.1]; have := HXL.out; omega)).mono ?_
      rintro e w2 ⟨z, rfl, hz, hb⟩
      have hB2 := hB1.trans (hb.mono hB1.size)
      have hO2 := Kd.R_below hO1 hb
      obtain ⟨A5, c5, rfl⟩ := Kd.V_slice hz
      obtain ⟨n5, en5⟩ : ∃ n, (wd BW (gk / D19)).length = n := ⟨_, rfl⟩
      rw [en5] at hz ⊢
      have E5 := Aside0.mk en5
      clear hq hB1 hO1 HQ hb en5
      have hfd := run_field29 (.slice A5 n5 c5) w2
      go_wp2_with fail
      refine (fmt_c m hm64 (htab.below hB2)).mono ?_
      rintro e w3 ⟨rfl, hb⟩
      have hB3 := hB2.trans (hb.mono hB2.size)
      have hO3 := Kd.R_below hO2 hb
      have hz3 := Kd.V_below hz hb
      clear hz hB2 hO2 hb
      by_cases hq0 : gk / D19 = 0
      · have e5 : n5 = 0 := by rw [← E5.out, hq0, wd_zero]; rfl
        have e1 : decide ((n5 : Int) > 0) = false := decide_eq_false (by omega)
        have e2 : decide (0 < (n5 : Int)) = false := decide_eq_false (by omega)
        have e3 : decide (0 < n5) = false := decide_eq_false (by omega)
        obtain ⟨P, hP⟩ : ∃ P, decS m = P := ⟨_, rfl⟩
        have HP : Aside0 (P = bs (part gk)) := ⟨by rw [HP0.out, if_pos hq0, hP]⟩
        rw [hP]
        have hO4 := hO3
        have hB4 := hB3
        have HQ0 := Aside0.mk hq0
        clear hO3 hB3 hq0 e5 hP
        have hVz : Kd.V (Kd.int .u64) 0 w3 0 (fun i => True ∧ some i ≠ u3.ownBlock) (.slice A5 n5 c5) (wd BW (gk / D19)) := Kd.V_mono hz3 (fun i hi => ⟨trivial, fun h => by have := (Kd.R_bound HO0.out).1 i h.symm; omega⟩)
        have hL0 := HZL.out
        have hLen : ((zs.map bs).length + 1) * 16 ≤ 140737488355328 := by rw [List.length_map]; omega
        go_wp2_with (first | ((with_reducible refine gate_builtin (b := .append) (xs := #[.tmp 32, .tmp 34]) rfl ?_); at_builtin; refine Kd.R_append Kd.string (w0 := w) w.heap.size rfl (.tmp 32) (.tmp 34) 96 9 (.string ⟨#[]⟩) 16 rfl Tryd.underlying96 infoS rfl (by decide) (by omega) u3 (zs.map bs) P [.string P] (fun k_ => w.heap.size ≤ k_) (fun _ => False) rfl rfl (show Kd.M Kd.string _ _ _ P [.string P] from rfl) (fun _ hk => hk.elim) (fun k_ hk => Nat.le_trans hB4.size hk) hO4 hB4 hB4.size hLen ?_; intro v1 w5 ho5 hb5 hg5 hat5; have HO5 := Aside0.mk ho5; have HB5 := Aside0.mk hb5; have HG5 := Aside0.mk hg5; have HA5 := Aside0.mk hat5; clear ho5 hb5 hg5 hat5))
        go_roundg (gk / D19)
        case measure => exact div19_lt hk
        case rel =>
          refine ⟨zs ++ [part gk], ⟨?_⟩, ⟨?_⟩, ⟨?_⟩, ⟨?_⟩, ⟨HB5.out⟩⟩
          · rw [← HZ.out, parts_step (Nat.pos_of_ne_zero hk), List.append_assoc]; rfl
          · exact Nat.le_trans (Nat.div_le_self _ _) HK.out
          · rw [List.map_append, List.map_cons, List.map_nil, ← HP.out]; exact HO5.out
          · exact Kd.V_after hVz HG5.out HA5.out
      · have e5 : 0 < n5 := by
          rw [← E5.out]
          rcases Nat.eq_zero_or_pos (wd BW (gk / D19)).length with h | h
          · exact absurd (List.length_eq_zero_iff.1 h) (wd_ne (by decide) (Nat.pos_of_ne_zero hq0))
          · exact h
        have e1 : decide ((n5 : Int) > 0) = true := decide_eq_true (by omega)
        have e2 : decide (0 < (n5 : Int)) = true := decide_eq_true (by omega)
        have e3 : decide (0 < n5) = true := decide_eq_true (by omega)
        obtain ⟨s1, hs1⟩ : ∃ s, (decS m).size = s := ⟨_, rfl⟩
        have hsub : IntKind.i64.wrap (19 - ((decS m).size : Int)) = ((19 - s1 : Nat) : Int) := by rw [IntKind.wrap_i64]; omega
        have HQ0 := Aside0.mk hq0
        clear hq0 e5
        go_wp2_with fail
        have J := rep0_c (w := w3) (19 - s1) (by omega)
        rw [show ((19 - s1 : Nat) : Int) = 19 - (s1 : Int) by omega] at J
        refine J.mono ?_
        rintro e w4 ⟨rfl, hb⟩
        have hO4 := Kd.R_below hO3 hb
        have hB4 := hB3.trans (hb.mono hB3.size)
        have hz4 := Kd.V_below hz3 hb
        obtain ⟨X, hX⟩ : ∃ X, bs (List.replicate (19 - s1) 48) = X := ⟨_, rfl⟩
        have hXs : X.size = 19 - s1 := by rw [← hX, bs_size, List.length_replicate]
        obtain ⟨Y, hY⟩ : ∃ Y, decS m = Y := ⟨_, rfl⟩
        have HP1 : Aside0 (bs (part gk) = X ++ Y) := ⟨by rw [HP0.out, if_neg HQ0.out, hs1, hX, hY]⟩
        have hYs : Y.size ≤ 19 := by rw [← hY]; exact hd19
        rw [hX]
        rw [hY] at hs1 ⊢
        have hsz : X.size + Y.size ≤ 9223372036854775807 := by omega
        obtain ⟨P, hP⟩ : ∃ P, X ++ Y = P := ⟨_, rfl⟩
        have HP : Aside0 (P = bs (part gk)) := ⟨by rw [HP1.out, hP]⟩
        clear J hb hX hY hXs hYs hs1 hsub hO3 hB3 hz3 HP0 hd19
        have hVz : Kd.V (Kd.int .u64) 0 w4 0 (fun i => True ∧ some i ≠ u3.ownBlock) (.slice A5 n5 c5) (wd BW (gk / D19)) := Kd.V_mono hz4 (fun i hi => ⟨trivial, fun h => by have := (Kd.R_bound HO0.out).1 i h.symm; omega⟩)
        have hL0 := HZL.out
        have hLen : ((zs.map bs).length + 1) * 16 ≤ 140737488355328 := by rw [List.length_map]; omega
        go_wp2_with (first | ((with_reducible refine gate_builtin (b := .append) (xs := #[.tmp 32, .tmp 34]) rfl ?_); at_builtin; refine Kd.R_append Kd.string (w0 := w) w.heap.size rfl (.tmp 32) (.tmp 34) 96 9 (.string ⟨#[]⟩) 16 rfl Tryd.underlying96 infoS rfl (by decide) (by omega) u3 (zs.map bs) P [.string P] (fun k_ => w.heap.size ≤ k_) (fun _ => False) rfl rfl (show Kd.M Kd.string _ _ _ P [.string P] from rfl) (fun _ hk => hk.elim) (fun k_ hk => Nat.le_trans hB4.size hk) hO4 hB4 hB4.size hLen ?_; intro v1 w5 ho5 hb5 hg5 hat5; have HO5 := Aside0.mk ho5; have HB5 := Aside0.mk hb5; have HG5 := Aside0.mk hg5; have HA5 := Aside0.mk hat5; clear ho5 hb5 hg5 hat5))
        go_roundg (gk / D19)
        case measure => exact div19_lt hk
        case rel =>
          refine ⟨zs ++ [part gk], ⟨?_⟩, ⟨?_⟩, ⟨?_⟩, ⟨?_⟩, ⟨HB5.out⟩⟩
          · rw [← HZ.out, parts_step (Nat.pos_of_ne_zero hk), List.append_assoc]; rfl
          · exact Nat.le_trans (Nat.div_le_self _ _) HK.out
          · rw [List.map_append, List.map_cons, List.map_nil, ← HP.out]; exact HO5.out
          · exact Kd.V_after hVz HG5.out HA5.out
end Go.Proofs.YtgkdealidnidiaaDoor.Na
namespace Go.Proofs.YtgkdealidnidiaaDoor.Na
open Go.RowKit Go.Proofs.YtgkdealidnidiaaDoorW.PrintWords Go.Proofs.YtgkdealidnidiaaDoorW.PrintLast Go.Proofs.YtgkdealidnidiaaDoorW.PrintMore Go.Proofs.YtgkdealidnidiaaDoor.Dg
set_option linter.unusedSimpArgs false
set_option linter.unusedVariables false
def decF : Nat → Nat → List UInt8
  | 0, _ => []
  | k + 1, u => if u < 10 then [UInt8.ofNat (48 + u)] else decF k (u / 10) ++ [UInt8.ofNat (48 + u % 10)]
theorem decF_eq : ∀ (k u : Nat), u < 10 ^ (k + 1) → Lib.decDigits u = decF (k + 1) u
  | 0, u, h => by
    have h : u < 10 := by simpa using h
    rw [Lib.decDigits_one h, decF, if_pos h]
  | k + 1, u, h => by
    by_cases h1 : u < 10
    · rw [Lib.decDigits_one h1, decF, if_pos h1]
    · rw [Lib.decDigits, dif_neg h1, decF, if_neg h1, decF_eq k (u / 10) (by rw [Nat.pow_succ] at h; omega)]
theorem dec_awake : decS 18446744073709551616 = ⟨#[49, 56, 52, 52, 54, 55, 52, 52, 48, 55, 51, 55, 48, 57, 53, 53, 49, 54, 49, 54]⟩ := by
  unfold decS
  rw [decF_eq 19 _ (by decide)]
  rfl
theorem Kw.newly (k : IntKind) (w : World) (l : List Int) (e : Nat) (c : Nat) (hl : l.length ≤ 1000) (hc : l.length ≤ c) : Kw k (w.alloc (.cells (l.map (Value.int k)).toArray e)) (.slice (some ⟨w.heap.size, 0, none⟩) l.length c) l := by
  refine ⟨_, _, rfl, hc, rfl, by omega, fun _ => ⟨_, rfl, ?_⟩⟩
  intro j p hj
  refine ⟨[.int k p], rfl, rfl, ?_⟩
  intro i u hi
  match i, hi with
  | 0, hi =>
    have hu : Value.int k p = u := by simpa using hi
    subst hu
    have h0 : (w.alloc (.cells (l.map (Value.int k)).toArray e)).heap[w.heap.size]? = some (.cells (l.map (Value.int k)).toArray e (0, 0)) := heap_alloc_new w _
    have h1 := blk_cell h0 j
    have e1 : (⟨w.heap.size, 0, none⟩ : Addr).add (j * (Kd.int k).sz + 0) = ⟨w.heap.size, j, none⟩ := by
      show (⟨w.heap.size, 0, none⟩ : Addr).add (j * 1 + 0) = _
      unfold Addr.add
      by_cases hj0 : j = 0
      · subst hj0; simp
      · simp; omega
    rw [e1, h1]
    simp [List.getElem?_map, hj]
  | i + 1, hi => simp at hi
theorem Kw.shape {k : IntKind} {w : World} {v : Value} {l : List Int} (h : Kw k w v l) : ∃ A n c, v = .slice A n c := by
  obtain ⟨A, c, rfl, _⟩ := h
  exact ⟨_, _, _, rfl⟩
theorem V_nat {l : List Int} (h : R BW l) : ∃ n : Nat, V BW l = n ∧ (wd BW n).length ≤ l.length := by
  have h0 := V_nonneg (by decide) h
  have h1 := V_lt (by decide) h
  obtain ⟨n, hn⟩ := Int.eq_ofNat_of_zero_le h0
  refine ⟨n, hn, (len_le_iff (by decide) _).2 ?_⟩
  rw [hn] at h1
  exact_mod_cast h1
set_option maxRecDepth 100000 in
set_option maxHeartbeats 4000000 in
theorem awake_c {w : World} (htab : Tab w) :
    Calls Tryd.prog 14 #[] w fun e w' => e = .returned (.bool true) ∧ Below w.heap.size w w' := by
  have hu29 := Tryd.underlying29
  have hB : Below w.heap.size w w := Below.refl _ _
  go_enter Tryd.func14, Tryd.ntmps14
  go_wp2_with fail
  have hl : (wd BW 18446744073709551616).length ≤ 2 := (len_le_iff (by decide) 2).2 (by decide)
  have F := from_c (n := 18446744073709551616) (Kw.newly .u64 w [0, 1] 40 2 (by decide) (by decide)) (by intro x hx; simp at hx; rcases hx with rfl | rfl <;> decide) (by decide) (by decide)
  rw [show fitE 18446744073709551616 = 0 by unfold fitE; rw [if_pos (by omega)], show fitN 18446744073709551616 = 18446744073709551616 by unfold fitN; rw [if_pos (by omega)]] at F
  refine F.mono ?_
  rintro e w1 ⟨z, rfl, hz, hb⟩
  have hB1 : Below w.heap.size w w1 := (below_alloc (Below.refl _ _) _).trans (hb.mono (by simp))
  have hN : Nw w1 z 18446744073709551616 := Kf.kw hz
  obtain ⟨A3, n3, c3, rfl⟩ := hN.shape
  clear F hz hb hB
  go_wp2_with fail
  have f1 := bx.new w1 (.slice A3 n3 c3)
  have hN2 := hN.below (below_alloc (Below.refl w1.heap.size w1) (.cells #[.slice A3 n3 c3] 29))
  have hB := hB1.trans ((below_alloc (Below.refl w1.heap.size w1) (.cells #[.slice A3 n3 c3] 29)).mono hB1.size)
  clear hN hB1
  generalize w1.alloc (.cells #[.slice A3 n3 c3] 29) = w2 at f1 hN2 hB ⊢
  generalize w1.heap.size = b1 at f1 ⊢
  have F := bits_c hN2 (by omega)
  rw [show nb 18446744073709551616 = 65 by decide] at F
  refine F.mono ?_
  rintro e w3 ⟨rfl, hb⟩
  replace f1 := f1.below hb
  replace hN2 := hN2.below hb
  replace hB := hB.trans (hb.mono hB.size)
  clear hb
  clear F
  go_wp2_with (first | refine Cel.wpList_load_row_w rfl 29 _ rfl b1 rfl 29 #[.slice A3 n3 c3] (0, 0) _ f1 hu29 rfl infoN ?_)
  have F := str_c hN2 (by omega) (htab.below hB)
  rw [dec_awake] at F
  refine F.mono ?_
  rintro e w4 ⟨rfl, hb⟩
  replace hB := hB.trans (hb.mono hB.size)
  clear hb
  clear F f1 hN2
  go_wp2_with fail
  refine (of_c 7 (by decide)).mono ?_
  rintro e w5 ⟨z7, rfl, h7, hb⟩
  replace hB := hB.trans (hb.mono hB.size)
  clear hb
  go_wp2_with fail
  refine (of_c 6 (by decide)).mono ?_
  rintro e w6 ⟨z6, rfl, h6, hb⟩
  have h7' := (Kf.kw h7).below hb
  replace hB := hB.trans (hb.mono hB.size)
  clear hb
  go_wp2_with fail
  have l7 : (wd BW 7).length ≤ 1000000 := Nat.le_trans ((len_le_iff (by decide) 1).2 (by decide)) (by decide)
  refine (cmp_c h7' (Kf.kw h6) l7).mono ?_
  rintro e w7 ⟨rfl, hb⟩
  replace hB := hB.trans (hb.mono hB.size)
  clear hb
  rw [show cmpN 7 6 = 1 by decide]
  go_wp2
  go_ret
  exact ⟨rfl, hB⟩
end Go.Proofs.YtgkdealidnidiaaDoor.Na
namespace Go.Proofs.YtgkdealidnidiaaDoor.Na
open Go.RowKit Go.Proofs.YtgkdealidnidiaaDoorW.PrintWords Go.Proofs.YtgkdealidnidiaaDoorW.PrintLast Go.Proofs.YtgkdealidnidiaaDoorW.PrintMore Go.Proofs.YtgkdealidnidiaaDoor.Dg
set_option linter.unusedVariables false
theorem len_mul {x y i j : Nat} (hx : (wd BW x).length ≤ i) (hy : (wd BW y).length ≤ j) : (wd BW (x * y)).length ≤ i + j := by
  rw [len_le_iff (by decide)] at hx hy ⊢
  rw [Nat.pow_add]
  exact Nat.mul_lt_mul'' hx hy
theorem fitE_ok {n : Nat} (h : (wd BW n).length ≤ 64) : fitE n = 0 := by unfold fitE; rw [if_pos h]
theorem fitN_ok {n : Nat} (h : (wd BW n).length ≤ 64) : fitN n = n := by unfold fitN; rw [if_pos h]
theorem fromk_c {w : World} {u : Value} {l : List Int} {n : Nat} (h1 : Kw .u64 w u l) (hR : R BW l) (hV : V BW l = n) (hl : l.length ≤ 1000000) (hf : (wd BW n).length ≤ 64) : Calls Tryd.prog 16 #[u] w fun e w' => ∃ z, e = .returned (.tuple #[.agg #[z], .int .i64 0]) ∧ Nw w' z n ∧ Below w.heap.size w w' := by
  have F := from_c h1 hR hV hl
  rw [fitE_ok hf, fitN_ok hf] at F
  refine F.mono ?_
  rintro e w' ⟨z, rfl, hz, hb⟩
  exact ⟨z, rfl, Kf.kw hz, hb⟩
end Go.Proofs.YtgkdealidnidiaaDoor.Na
namespace Go.Proofs.YtgkdealidnidiaaDoor.Na
open Go.RowKit Go.Proofs.YtgkdealidnidiaaDoorW.PrintWords Go.Proofs.YtgkdealidnidiaaDoorW.PrintLast Go.Proofs.YtgkdealidnidiaaDoorW.PrintMore Go.Proofs.YtgkdealidnidiaaDoor.Dg
set_option linter.unusedVariables false
theorem C_two {w : World} {vs : List (Option Addr × Nat × List Int)} {e : Nat} (hv : ∀ x ∈ vs, x.2.2.length ≤ x.2.1 ∧ Kd.C (Kd.int .u64) w x.1 x.2.2.length x.2.2) (hl : vs.length ≤ 100) :
    Kd.C (Kd.slice 40 (Kd.int .u64)) (w.alloc (.cells (vs.map fun x => Value.slice x.1 x.2.2.length x.2.1).toArray e)) (some ⟨w.heap.size, 0, none⟩) (vs.map (·.2.2)).length (vs.map (·.2.2)) := by
  refine ⟨rfl, by rw [List.length_map]; omega, fun _ => ⟨_, rfl, ?_⟩⟩
  intro j p hj
  rw [List.getElem?_map] at hj
  obtain ⟨x, hx, rfl⟩ := Option.map_eq_some_iff.1 hj
  have hm := List.mem_of_getElem? hx
  refine ⟨[Value.slice x.1 x.2.2.length x.2.1], rfl, ⟨x.1, x.2.1, rfl, (hv x hm).1, Kd.C_alloc (hv x hm).2 _⟩, ?_⟩
  intro i u hi
  match i, hi with
  | 0, hi =>
    have hu : Value.slice x.1 x.2.2.length x.2.1 = u := by simpa using hi
    subst hu
    have h0 : (w.alloc (.cells (vs.map fun x => Value.slice x.1 x.2.2.length x.2.1).toArray e)).heap[w.heap.size]? = some (.cells (vs.map fun x => Value.slice x.1 x.2.2.length x.2.1).toArray e (0, 0)) := heap_alloc_new w _
    have h1 := blk_cell h0 j
    have e1 : (⟨w.heap.size, 0, none⟩ : Addr).add (j * (Kd.slice 40 (Kd.int .u64)).sz + 0) = ⟨w.heap.size, j, none⟩ := by
      show (⟨w.heap.size, 0, none⟩ : Addr).add (j * 1 + 0) = _
      unfold Addr.add
      by_cases hj0 : j = 0
      · subst hj0; simp
      · simp; omega
    rw [e1, h1]
    simp [List.getElem?_map, hx]
  | i + 1, hi => simp at hi
theorem few1_c {w : World} {A1 : Option Addr} {n1 c1 e : Nat} {l1 : List Int} (h1 : Kw .u64 w (.slice A1 n1 c1) l1) :
    Calls Tryd.prog 13 #[.slice (some ⟨w.heap.size, 0, none⟩) 1 1] (w.alloc (.cells #[.slice A1 n1 c1] e)) fun e' w' => e' = .returned (.bool (decide (n1 ≤ 70))) ∧ Below w.heap.size w w' := by
  obtain ⟨A, c, e1, hc, hC⟩ := h1
  injection e1 with e1 e2 e3
  subst e1 e2 e3
  obtain ⟨k, hk⟩ := (few_ev [l1] (by simp)).rounds
  have H := chafflaw01_Few.calls k (some ⟨w.heap.size, 0, none⟩) 1 [l1] _ (w.alloc (.cells #[.slice A1 l1.length c1] e)) (C_two (vs := [(A1, c1, l1)]) (by simp; exact ⟨hc, hC⟩) (by simp)) (Nat.le_refl _) hk
  refine H.mono ?_
  rintro e' w' ⟨rfl, hD⟩
  refine ⟨?_, (below_alloc (Below.refl _ _) _).trans (hD.below.mono (by simp))⟩
  simp [fewL]
end Go.Proofs.YtgkdealidnidiaaDoor.Na
namespace Go.Proofs.YtgkdealidnidiaaDoor.Na
open Go.RowKit Go.Proofs.YtgkdealidnidiaaDoorW.PrintWords Go.Proofs.YtgkdealidnidiaaDoorW.PrintLast Go.Proofs.YtgkdealidnidiaaDoorW.PrintMore Go.Proofs.YtgkdealidnidiaaDoor.Dg
set_option linter.unusedSimpArgs false
set_option linter.unusedVariables false
theorem got_true (y : Nat) : (if 4096 < nb y then (decide (fitE y = 1) && decide (fitN y = 0)) else (decide (fitE y = 0) && decide (fitN y = y))) = true := by
  unfold fitE fitN
  by_cases h : (wd BW y).length ≤ 64
  · have := (fits_nb y).1 h
    rw [if_neg (by omega), if_pos h, if_pos h]; simp
  · have := mt (fits_nb y).2 h
    rw [if_pos (by omega), if_neg h, if_neg h]; simp
end Go.Proofs.YtgkdealidnidiaaDoor.Na
namespace Go.Proofs.YtgkdealidnidiaaDoor.Na
open Go.RowKit Go.Proofs.YtgkdealidnidiaaDoorW.PrintWords Go.Proofs.YtgkdealidnidiaaDoorW.PrintLast Go.Proofs.YtgkdealidnidiaaDoorW.PrintMore Go.Proofs.YtgkdealidnidiaaDoor.Dg
attribute [local go_sem] min2_int min_two
set_option linter.unusedSimpArgs false
set_option linter.unusedVariables false
theorem shl_c {w : World} {u : Value} {x : Nat} (h1 : Nw w u x) (hx : (wd BW x).length ≤ 64) (n : Nat) (hn : n ≤ 9223372036854775807) :
    Calls Tryd.prog 28 #[.agg #[u], .int .i64 (n : Int)] w fun e w' => ∃ z, e = .returned (.tuple #[.agg #[z], .int .i64 (fitE (x * 2 ^ n))]) ∧ Nw w' z (fitN (x * 2 ^ n)) ∧ Below w.heap.size w w' := by
  by_cases hx0 : x = 0
  · subst hx0
    rw [Nat.zero_mul]
    have e0 : (wd BW 0).length ≤ 64 := by rw [wd_zero]; exact Nat.zero_le _
    rw [fitE_ok e0, fitN_ok e0]
    refine (shlzero_c h1 n hn).mono ?_
    rintro e w' ⟨rfl, hb⟩
    exact ⟨_, rfl, h1.below hb, hb⟩
  · have hb := nb_shl n (Nat.pos_of_ne_zero hx0)
    by_cases hg : 4096 < nb x + n
    · have hf : ¬ (wd BW (x * 2 ^ n)).length ≤ 64 := by rw [fits_nb, hb]; omega
      have e1 : fitE (x * 2 ^ n) = 1 := by unfold fitE; rw [if_neg hf]
      have e2 : fitN (x * 2 ^ n) = 0 := by unfold fitN; rw [if_neg hf]
      rw [e1, e2]
      refine (shlgreat_c h1 hx hx0 n hn hg).mono ?_
      rintro e w' ⟨rfl, hb⟩
      exact ⟨_, rfl, Nw.zero _, hb⟩
    · have hf : (wd BW (x * 2 ^ n)).length ≤ 64 := by rw [fits_nb, hb]; omega
      rw [fitE_ok hf, fitN_ok hf]
      refine (shlmain_c h1 hx hx0 n (by omega)).mono ?_
      rintro e w' ⟨z, rfl, hz, hb⟩
      exact ⟨_, rfl, Kf.kw hz, hb⟩
theorem fit_min (x n K : Nat) (hK : 4097 ≤ K) : fitE (x * 2 ^ n) = fitE (x * 2 ^ (min n K)) ∧ fitN (x * 2 ^ n) = fitN (x * 2 ^ (min n K)) := by
  by_cases hn : n ≤ K
  · rw [Nat.min_eq_left hn]; exact ⟨rfl, rfl⟩
  · rw [Nat.min_eq_right (by omega)]
    by_cases hx0 : x = 0
    · subst hx0; rw [Nat.zero_mul, Nat.zero_mul]; exact ⟨rfl, rfl⟩
    · have h1 : ¬ (wd BW (x * 2 ^ n)).length ≤ 64 := by rw [fits_nb, nb_shl n (Nat.pos_of_ne_zero hx0)]; omega
      have h2 : ¬ (wd BW (x * 2 ^ K)).length ≤ 64 := by rw [fits_nb, nb_shl K (Nat.pos_of_ne_zero hx0)]; omega
      unfold fitE fitN
      rw [if_neg h1, if_neg h2, if_neg h1, if_neg h2]; exact ⟨rfl, rfl⟩
theorem shr_min (x n K : Nat) (hK : 4097 ≤ K) (hx : (wd BW x).length ≤ 64) : x / 2 ^ n = x / 2 ^ (min n K) := by
  by_cases hn : n ≤ K
  · rw [Nat.min_eq_left hn]
  · rw [Nat.min_eq_right (by omega)]
    have h := (fits_nb x).1 hx
    have h0 : x < 2 ^ nb x := nb_lt x
    have h1 : x < 2 ^ n := Nat.lt_of_lt_of_le h0 (Nat.pow_le_pow_right (by decide) (by omega))
    have h2 : x < 2 ^ K := Nat.lt_of_lt_of_le h0 (Nat.pow_le_pow_right (by decide) (by omega))
    rw [Nat.div_eq_of_lt h1, Nat.div_eq_of_lt h2]
theorem len_shl (x k : Nat) (hx : (wd BW x).length ≤ 64) (hk : k ≤ 5000) : (wd BW (x * 2 ^ k)).length ≤ 143 := by
  have h : (wd BW (2 ^ k)).length ≤ 79 := by
    obtain ⟨K, hK⟩ : ∃ K, 79 = K := ⟨_, rfl⟩
    rw [hK, len_le_iff (by decide), pow64]
    exact Nat.pow_lt_pow_right (by decide) (by omega)
  exact len_mul (i := 64) (j := 79) hx h
set_option maxRecDepth 100000 in
set_option maxHeartbeats 8000000 in
theorem shifts_walk {w : World} (A1 : Option Addr) (c1 : Nat) (l1 : List Int) (nn : Int) (h1 : Kw .u64 w (.slice A1 l1.length c1) l1) (r1 : R BW l1) (htab : Tab w) (hn1 : nn ≤ 9223372036854775807) :
    Calls Tryd.prog 5 #[.slice A1 l1.length c1, .int .i64 nn] w fun e w' => e = .returned (.bool true) ∧ Below w.heap.size w w' := by
  have hu29 := Tryd.underlying29
  have hB : Below w.heap.size w w := Below.refl _ _
  obtain ⟨m, em, lm⟩ := V_nat r1
  obtain ⟨n1, en1⟩ : ∃ n, l1.length = n := ⟨_, rfl⟩
  rw [en1] at h1 lm ⊢
  have HN1 := Aside0.mk hn1
  clear hn1
  go_enter Tryd.func5, Tryd.ntmps5
  go_wp2_with fail
  by_cases hf : 70 < n1
  · have F := few1_c (e := 22) h1
    rw [decide_eq_false (show ¬ n1 ≤ 70 by omega)] at F
    refine (F).mono ?_
    rintro e w_1 ⟨rfl, hb⟩
    replace h1 := h1.below hb
    replace htab := htab.below hb
    replace hB := hB.trans (hb.mono hB.size)
    clear hb
    clear F
    go_wp2_with fail
    refine (awake_c htab).mono ?_
    rintro e w_2 ⟨rfl, hb⟩
    replace h1 := h1.below hb
    replace htab := htab.below hb
    replace hB := hB.trans (hb.mono hB.size)
    clear hb
    go_wp2
    go_ret
    exact ⟨rfl, hB⟩
  · have F := few1_c (e := 22) h1
    rw [decide_eq_true (show n1 ≤ 70 by omega)] at F
    refine (F).mono ?_
    rintro e w_1 ⟨rfl, hb⟩
    replace h1 := h1.below hb
    replace htab := htab.below hb
    replace hB := hB.trans (hb.mono hB.size)
    clear hb
    clear F
    have lBm := len_BD lm
    go_wp2_with fail
    refine (rfrom_c h1 r1 em (by omega)).mono ?_
    rintro e w_2 ⟨zm, rfl, hzm, hb⟩
    replace h1 := h1.below hb
    replace htab := htab.below hb
    replace hB := hB.trans (hb.mono hB.size)
    clear hb
    go_wp2_with fail
    by_cases g_m : (wd BW m).length ≤ 64
    · refine (fromk_c h1 r1 em (by omega) g_m).mono ?_
      rintro e w_3 ⟨z_a, rfl, ha, hb⟩
      replace htab := htab.below hb
      replace hzm := hzm.below hb
      replace hB := hB.trans (hb.mono hB.size)
      clear hb
      obtain ⟨A_4, n_4, c_4, rfl⟩ := ha.shape
      go_wp2_with (first | refine Cel.wpList_load_row_w rfl 29 _ rfl w_3.heap.size rfl 29 #[(.slice A_4 n_4 c_4)] (0, 0) _ (bx.new w_3 _) hu29 rfl infoN ?_)
      have f_a := bx.new w_3 (.slice A_4 n_4 c_4)
      have hA_ := below_alloc (Below.refl w_3.heap.size w_3) (.cells #[(.slice A_4 n_4 c_4)] 29)
      replace htab := htab.below hA_
      replace hzm := hzm.below hA_
      replace ha := ha.below hA_
      replace hB := hB.trans (hA_.mono hB.size)
      clear hA_
      generalize w_3.alloc (.cells #[(.slice A_4 n_4 c_4)] 29) = w_5 at f_a htab hzm ha hB ⊢
      generalize w_3.heap.size = b_a at f_a ⊢
      clear r1 em
      by_cases hneg : nn < 0
      · have d1 : decide (nn < 0) = true := decide_eq_true hneg
        refine (shlneg_c ha nn hneg).mono ?_
        rintro e w_6 ⟨rfl, hb⟩
        replace htab := htab.below hb
        replace hzm := hzm.below hb
        replace ha := ha.below hb
        replace f_a := f_a.below hb
        replace hB := hB.trans (hb.mono hB.size)
        clear hb
        have hl := Nw.zero w_6
        go_wp2_with (first | refine Cel.wpList_load_row_w rfl 29 _ rfl b_a rfl 29 #[(.slice A_4 n_4 c_4)] (0, 0) _ (f_a.alloc _) hu29 rfl infoN ?_)
        have f_l := bx.new w_6 (.slice none 0 0)
        have hA_ := below_alloc (Below.refl w_6.heap.size w_6) (.cells #[(.slice none 0 0)] 29)
        replace htab := htab.below hA_
        replace hzm := hzm.below hA_
        replace ha := ha.below hA_
        replace hl := hl.below hA_
        replace f_a := f_a.below hA_
        replace hB := hB.trans (hA_.mono hB.size)
        clear hA_
        generalize w_6.alloc (.cells #[(.slice none 0 0)] 29) = w_7 at f_l htab hzm ha hl f_a hB ⊢
        generalize w_6.heap.size = b_l at f_l ⊢
        refine (shrneg_c ha nn hneg).mono ?_
        rintro e w_8 ⟨z_r, rfl, hr0, hb⟩
        replace htab := htab.below hb
        replace hzm := hzm.below hb
        replace ha := ha.below hb
        replace hl := hl.below hb
        replace f_a := f_a.below hb
        replace f_l := f_l.below hb
        replace hB := hB.trans (hb.mono hB.size)
        clear hb
        have hr := Kf.kw hr0
        clear hr0
        obtain ⟨A_9, n_9, c_9, rfl⟩ := hr.shape
        go_wp2_with fail
        have f_r := bx.new w_8 (.slice A_9 n_9 c_9)
        have hA_ := below_alloc (Below.refl w_8.heap.size w_8) (.cells #[(.slice A_9 n_9 c_9)] 29)
        replace htab := htab.below hA_
        replace hzm := hzm.below hA_
        replace ha := ha.below hA_
        replace hl := hl.below hA_
        replace hr := hr.below hA_
        replace f_a := f_a.below hA_
        replace f_l := f_l.below hA_
        replace hB := hB.trans (hA_.mono hB.size)
        clear hA_
        generalize w_8.alloc (.cells #[(.slice A_9 n_9 c_9)] 29) = w_10 at f_r htab hzm ha hl hr f_a f_l hB ⊢
        generalize w_8.heap.size = b_r at f_r ⊢
        refine (awake_c htab).mono ?_
        rintro e w_11 ⟨rfl, hb⟩
        replace htab := htab.below hb
        replace hzm := hzm.below hb
        replace ha := ha.below hb
        replace hl := hl.below hb
        replace hr := hr.below hb
        replace f_a := f_a.below hb
        replace f_l := f_l.below hb
        replace f_r := f_r.below hb
        replace hB := hB.trans (hb.mono hB.size)
        clear hb
        go_wp2_with (first | refine Cel.wpList_load_row_w rfl 29 _ rfl b_l rfl 29 #[(.slice none 0 0)] (0, 0) _ f_l hu29 rfl infoN ?_)
        have F := zero_c hl
        rw [decide_eq_true rfl] at F
        refine (F).mono ?_
        rintro e w_12 ⟨rfl, hb⟩
        replace htab := htab.below hb
        replace hzm := hzm.below hb
        replace ha := ha.below hb
        replace hl := hl.below hb
        replace hr := hr.below hb
        replace f_a := f_a.below hb
        replace f_l := f_l.below hb
        replace f_r := f_r.below hb
        replace hB := hB.trans (hb.mono hB.size)
        clear hb
        clear F
        go_wp2_with (first | refine Cel.wpList_load_row_w rfl 29 _ rfl b_r rfl 29 #[(.slice A_9 n_9 c_9)] (0, 0) _ f_r hu29 rfl infoN ?_)
        have F := zero_c hr
        rw [decide_eq_true rfl] at F
        refine (F).mono ?_
        rintro e w_13 ⟨rfl, hb⟩
        replace htab := htab.below hb
        replace hzm := hzm.below hb
        replace ha := ha.below hb
        replace hl := hl.below hb
        replace hr := hr.below hb
        replace f_a := f_a.below hb
        replace f_l := f_l.below hb
        replace f_r := f_r.below hb
        replace hB := hB.trans (hb.mono hB.size)
        clear hb
        clear F
        go_wp2
        go_ret
        exact ⟨rfl, hB⟩
      · obtain ⟨n, rfl⟩ := Int.eq_ofNat_of_zero_le (show 0 ≤ nn by omega)
        have hn1 : n ≤ 9223372036854775807 := by have := HN1.out; omega
        clear HN1 hneg
        have d1 : decide ((n : Int) < 0) = false := decide_eq_false (by omega)
        obtain ⟨k, hk⟩ : ∃ k, min n 5000 = k := ⟨_, rfl⟩
        have hk5 : k ≤ 5000 := by omega
        have gt := got_true (m * 2 ^ k)
        have lft := fitN_len (m * 2 ^ k)
        have lsk := len_BD (len_shl m k g_m hk5)
        have lrk := len_mono (b := BW) (x := m / 2 ^ k) (y := m) (by decide) (Nat.div_le_self _ _)
        have e1 := (fit_min m n 5000 (by decide)).1
        have e2 := (fit_min m n 5000 (by decide)).2
        have e3 := shr_min m n 5000 (by decide) g_m
        rw [hk] at e1 e2 e3
        obtain ⟨P, hP⟩ : ∃ P, m * 2 ^ k = P := ⟨_, rfl⟩
        obtain ⟨D, hD⟩ : ∃ D, m / 2 ^ k = D := ⟨_, rfl⟩
        rw [hP] at gt lft lsk e1 e2
        rw [hD] at lrk e3
        obtain ⟨es, hes⟩ : ∃ e, fitE P = e := ⟨_, rfl⟩
        obtain ⟨NP, hNP⟩ : ∃ e, fitN P = e := ⟨_, rfl⟩
        rw [hes, hNP] at gt
        rw [hes] at e1
        rw [hNP] at e2 lft
        have GT := Aside0.mk gt
        have EK := Aside0.mk hk
        have EP := Aside0.mk hP
        have ED := Aside0.mk hD
        clear gt hes hNP hP hD hk
        have F := shl_c ha g_m n hn1
        rw [e1, e2] at F
        refine (F).mono ?_
        rintro e w_6 ⟨z_l, rfl, hl, hb⟩
        replace htab := htab.below hb
        replace hzm := hzm.below hb
        replace ha := ha.below hb
        replace f_a := f_a.below hb
        replace hB := hB.trans (hb.mono hB.size)
        clear hb
        clear F e1 e2
        obtain ⟨A_7, n_7, c_7, rfl⟩ := hl.shape
        go_wp2_with (first | refine Cel.wpList_load_row_w rfl 29 _ rfl b_a rfl 29 #[(.slice A_4 n_4 c_4)] (0, 0) _ (f_a.alloc _) hu29 rfl infoN ?_)
        have f_l := bx.new w_6 (.slice A_7 n_7 c_7)
        have hA_ := below_alloc (Below.refl w_6.heap.size w_6) (.cells #[(.slice A_7 n_7 c_7)] 29)
        replace htab := htab.below hA_
        replace hzm := hzm.below hA_
        replace ha := ha.below hA_
        replace hl := hl.below hA_
        replace f_a := f_a.below hA_
        replace hB := hB.trans (hA_.mono hB.size)
        clear hA_
        generalize w_6.alloc (.cells #[(.slice A_7 n_7 c_7)] 29) = w_8 at f_l htab hzm ha hl f_a hB ⊢
        generalize w_6.heap.size = b_l at f_l ⊢
        have F := shr_c ha (by omega) n (by omega)
        rw [e3] at F
        refine (F).mono ?_
        rintro e w_9 ⟨z_r, rfl, hr0, hb⟩
        replace htab := htab.below hb
        replace hzm := hzm.below hb
        replace ha := ha.below hb
        replace hl := hl.below hb
        replace f_a := f_a.below hb
        replace f_l := f_l.below hb
        replace hB := hB.trans (hb.mono hB.size)
        clear hb
        have hr := Kf.kw hr0
        clear hr0 F e3
        obtain ⟨A_10, n_10, c_10, rfl⟩ := hr.shape
        by_cases hle : (n : Int) ≤ 5000
        · have hkI : (k : Int) = (n : Int) := by have := EK.out; omega
          go_wp2_with fail
          have f_r := bx.new w_9 (.slice A_10 n_10 c_10)
          have hA_ := below_alloc (Below.refl w_9.heap.size w_9) (.cells #[(.slice A_10 n_10 c_10)] 29)
          replace htab := htab.below hA_
          replace hzm := hzm.below hA_
          replace ha := ha.below hA_
          replace hl := hl.below hA_
          replace hr := hr.below hA_
          replace f_a := f_a.below hA_
          replace f_l := f_l.below hA_
          replace hB := hB.trans (hA_.mono hB.size)
          clear hA_
          generalize w_9.alloc (.cells #[(.slice A_10 n_10 c_10)] 29) = w_11 at f_r htab hzm ha hl hr f_a f_l hB ⊢
          generalize w_9.heap.size = b_r at f_r ⊢
          have hb : Below w_11.heap.size w_11 w_11.drew := below_drew (Below.refl _ _)
          refine start_ (n := 21) (S := fun w' => Below w_11.drew.heap.size w_11.drew w') (ds := []) #[false, false, false, false, false, false, false, false, false, false, false, false, false, false, false, false, false, false, false, false, false] (by kernel_rfl) rfl rfl (Below.refl _ _) (fun hS => ?_)
          replace htab := htab.below hb
          replace hzm := hzm.below hb
          replace ha := ha.below hb
          replace hl := hl.below hb
          replace hr := hr.below hb
          replace f_a := f_a.below hb
          replace f_l := f_l.below hb
          replace f_r := f_r.below hb
          replace hB := hB.trans (hb.mono hB.size)
          clear hb
          generalize w_11.drew = w_12 at htab hzm ha hl hr f_a f_l f_r hB hS ⊢
          have sf_a := f_a
          have sf_l := f_l
          have sf_r := f_r
          refine one_ (i := 0) (N := some 65) #[true, false, false, false, false, false, false, false, false, false, false, false, false, false, false, false, false, false, false, false, false] rfl rfl (by kernel_rfl) (by decide) (fun K hK => ?_)
          refine goes_ Tryd.func14 (by kernel_rfl) rfl #[] (by rfl) rfl rfl (by (try simp only [List.map_toArray, List.map_cons, List.map_nil]); first | done | rfl | (simp only [List.length_drop, List.length_take]; rfl)) ?_
          refine (awake_c htab).mono ?_
          rintro e w_13 ⟨rfl, hb⟩
          refine ⟨_, rfl, ?_⟩
          replace hS := hS.trans (hb.mono hS.size)
          replace htab := htab.below hb
          replace hzm := hzm.below hb
          replace ha := ha.below hb
          replace hl := hl.below hb
          replace hr := hr.below hb
          replace f_a := f_a.below hb
          replace f_l := f_l.below hb
          replace f_r := f_r.below hb
          replace hB := hB.trans (hb.mono hB.size)
          clear hb
          refine hK.out _ _ hS (fun hS => ?_)
          clear hK K
          refine norm_ (a' := ?_) ?_ ?_
          rotate_left
          · show Act.put _ (some 65) _ = _
            simp only [Act.put, List.setIfInBounds_toArray, List.set_cons_zero, List.set_cons_succ, i64_w, i32_w]
            rfl
          refine pure_ (i := 1) (N := some 66) (v := ?_) (a' := ?_) #[true, true, false, false, false, false, false, false, false, false, false, false, false, false, false, false, false, false, false, false, false] rfl rfl (by kernel_rfl) (fun _ _ _ h => h) (Or.inl ⟨by rfl, ?_⟩) ?_ ?_
          rotate_left
          · intro w'
            go_simp
            with_reducible rfl
          rotate_left
          · simp only [Act.put, List.setIfInBounds_toArray, List.set_cons_zero, List.set_cons_succ, i64_w, i32_w]
            rfl
          refine take_ (i := 2) (N := some 67) (v := ?_) (a' := ?_) #[true, true, true, false, false, false, false, false, false, false, false, false, false, false, false, false, false, false, false, false, false] rfl rfl (by kernel_rfl) (fun _ _ _ h => h) (Or.inl ⟨by rfl, ?_⟩) hS ?_ ?_
          rotate_left
          · intro w' hS_
            have k_ := (blk_cell (bx.below sf_l hS_) 0).trans rfl
            go_simp
            with_reducible rfl
          rotate_left
          · simp only [Act.put, List.setIfInBounds_toArray, List.set_cons_zero, List.set_cons_succ, i64_w, i32_w]
            rfl
          refine pure_ (i := 3) (N := some 68) (v := ?_) (a' := ?_) #[true, true, true, true, false, false, false, false, false, false, false, false, false, false, false, false, false, false, false, false, false] rfl rfl (by kernel_rfl) (fun _ _ _ h => h) (Or.inl ⟨by rfl, ?_⟩) ?_ ?_
          rotate_left
          · intro w'
            go_simp
            with_reducible rfl
          rotate_left
          · simp only [Act.put, List.setIfInBounds_toArray, List.set_cons_zero, List.set_cons_succ, i64_w, i32_w]
            rfl
          refine pure_ (i := 4) (N := some 69) (v := ?_) (a' := ?_) #[true, true, true, true, true, false, false, false, false, false, false, false, false, false, false, false, false, false, false, false, false] rfl rfl (by kernel_rfl) (fun _ _ _ h => h) (Or.inl ⟨by rfl, ?_⟩) ?_ ?_
          rotate_left
          · intro w'
            go_simp
            with_reducible rfl
          rotate_left
          · simp only [Act.put, List.setIfInBounds_toArray, List.set_cons_zero, List.set_cons_succ, i64_w, i32_w]
            rfl
          refine pure_ (i := 5) (N := some 70) (v := ?_) (a' := ?_) #[true, true, true, true, true, true, false, false, false, false, false, false, false, false, false, false, false, false, false, false, false] rfl rfl (by kernel_rfl) (fun _ _ _ h => h) (Or.inl ⟨by rfl, ?_⟩) ?_ ?_
          rotate_left
          · intro w'
            go_simp
            with_reducible rfl
          rotate_left
          · simp only [Act.put, List.setIfInBounds_toArray, List.set_cons_zero, List.set_cons_succ, i64_w, i32_w]
            rfl
          refine one_ (i := 6) (N := some 71) #[true, true, true, true, true, true, true, false, false, false, false, false, false, false, false, false, false, false, false, false, false] rfl rfl (by kernel_rfl) (by decide) (fun K hK => ?_)
          refine goes_ Tryd.func30 (by kernel_rfl) rfl #[zm, .int .i64 (n : Int)] (by rfl) rfl rfl (by (try simp only [List.map_toArray, List.map_cons, List.map_nil]); first | done | rfl | (simp only [List.length_drop, List.length_take]; rfl)) ?_
          have F := rshl_c hzm (by omega) k (by omega)
          rw [EP.out, hkI] at F
          refine (F).mono ?_
          rintro e w_14 ⟨z_t, rfl, ht, hb⟩
          refine ⟨_, rfl, ?_⟩
          replace hS := hS.trans (hb.mono hS.size)
          replace htab := htab.below hb
          replace hzm := hzm.below hb
          replace ha := ha.below hb
          replace hl := hl.below hb
          replace hr := hr.below hb
          replace f_a := f_a.below hb
          replace f_l := f_l.below hb
          replace f_r := f_r.below hb
          replace hB := hB.trans (hb.mono hB.size)
          clear hb
          refine hK.out _ _ hS (fun hS => ?_)
          clear hK K
          refine norm_ (a' := ?_) ?_ ?_
          rotate_left
          · show Act.put _ (some 71) _ = _
            simp only [Act.put, List.setIfInBounds_toArray, List.set_cons_zero, List.set_cons_succ, i64_w, i32_w]
            rfl
          clear F
          refine one_ (i := 7) (N := some 72) #[true, true, true, true, true, true, true, true, false, false, false, false, false, false, false, false, false, false, false, false, false] rfl rfl (by kernel_rfl) (by decide) (fun K hK => ?_)
          refine goes_ Tryd.func17 (by kernel_rfl) rfl #[.agg #[(.slice A_7 n_7 c_7)], .int .i64 es, z_t] (by rfl) rfl rfl (by (try simp only [List.map_toArray, List.map_cons, List.map_nil]); first | done | rfl | (simp only [List.length_drop, List.length_take]; rfl)) ?_
          have F := got_c hl es ht (by omega) (by omega)
          rw [GT.out] at F
          refine (F).mono ?_
          rintro e w_15 ⟨rfl, hb⟩
          refine ⟨_, rfl, ?_⟩
          replace hS := hS.trans (hb.mono hS.size)
          replace htab := htab.below hb
          replace hzm := hzm.below hb
          replace ha := ha.below hb
          replace hr := hr.below hb
          replace f_a := f_a.below hb
          replace f_l := f_l.below hb
          replace f_r := f_r.below hb
          replace hB := hB.trans (hb.mono hB.size)
          clear hb
          refine hK.out _ _ hS (fun hS => ?_)
          clear hK K
          refine norm_ (a' := ?_) ?_ ?_
          rotate_left
          · show Act.put _ (some 72) _ = _
            simp only [Act.put, List.setIfInBounds_toArray, List.set_cons_zero, List.set_cons_succ, i64_w, i32_w]
            rfl
          clear F
          refine pure_ (i := 8) (N := some 73) (v := ?_) (a' := ?_) #[true, true, true, true, true, true, true, true, true, false, false, false, false, false, false, false, false, false, false, false, false] rfl rfl (by kernel_rfl) (fun _ _ _ h => h) (Or.inl ⟨by rfl, ?_⟩) ?_ ?_
          rotate_left
          · intro w'
            go_simp
            with_reducible rfl
          rotate_left
          · simp only [Act.put, List.setIfInBounds_toArray, List.set_cons_zero, List.set_cons_succ, i64_w, i32_w]
            rfl
          refine pure_ (i := 9) (N := some 74) (v := ?_) (a' := ?_) #[true, true, true, true, true, true, true, true, true, true, false, false, false, false, false, false, false, false, false, false, false] rfl rfl (by kernel_rfl) (fun _ _ _ h => h) (Or.inl ⟨by rfl, ?_⟩) ?_ ?_
          rotate_left
          · intro w'
            go_simp
            with_reducible rfl
          rotate_left
          · simp only [Act.put, List.setIfInBounds_toArray, List.set_cons_zero, List.set_cons_succ, i64_w, i32_w]
            rfl
          refine pure_ (i := 10) (N := some 75) (v := ?_) (a' := ?_) #[true, true, true, true, true, true, true, true, true, true, true, false, false, false, false, false, false, false, false, false, false] rfl rfl (by kernel_rfl) (fun _ _ _ h => h) (Or.inl ⟨by rfl, ?_⟩) ?_ ?_
          rotate_left
          · intro w'
            go_simp
            with_reducible rfl
          rotate_left
          · simp only [Act.put, List.setIfInBounds_toArray, List.set_cons_zero, List.set_cons_succ, i64_w, i32_w]
            rfl
          refine pure_ (i := 11) (N := some 76) (v := ?_) (a' := ?_) #[true, true, true, true, true, true, true, true, true, true, true, true, false, false, false, false, false, false, false, false, false] rfl rfl (by kernel_rfl) (fun _ _ _ h => h) (Or.inl ⟨by rfl, ?_⟩) ?_ ?_
          rotate_left
          · intro w'
            go_simp
            with_reducible rfl
          rotate_left
          · simp only [Act.put, List.setIfInBounds_toArray, List.set_cons_zero, List.set_cons_succ, i64_w, i32_w]
            rfl
          refine pure_ (i := 12) (N := some 77) (v := ?_) (a' := ?_) #[true, true, true, true, true, true, true, true, true, true, true, true, true, false, false, false, false, false, false, false, false] rfl rfl (by kernel_rfl) (fun _ _ _ h => h) (Or.inl ⟨by rfl, ?_⟩) ?_ ?_
          rotate_left
          · intro w'
            go_simp
            with_reducible rfl
          rotate_left
          · simp only [Act.put, List.setIfInBounds_toArray, List.set_cons_zero, List.set_cons_succ, i64_w, i32_w]
            rfl
          refine pure_ (i := 13) (N := some 78) (v := ?_) (a' := ?_) #[true, true, true, true, true, true, true, true, true, true, true, true, true, true, false, false, false, false, false, false, false] rfl rfl (by kernel_rfl) (fun _ _ _ h => h) (Or.inl ⟨by rfl, ?_⟩) ?_ ?_
          rotate_left
          · intro w'
            go_simp
            with_reducible rfl
          rotate_left
          · simp only [Act.put, List.setIfInBounds_toArray, List.set_cons_zero, List.set_cons_succ, i64_w, i32_w]
            rfl
          refine take_ (i := 14) (N := some 79) (v := ?_) (a' := ?_) #[true, true, true, true, true, true, true, true, true, true, true, true, true, true, true, false, false, false, false, false, false] rfl rfl (by kernel_rfl) (fun _ _ _ h => h) (Or.inl ⟨by rfl, ?_⟩) hS ?_ ?_
          rotate_left
          · intro w' hS_
            have k_ := (blk_cell (bx.below sf_r hS_) 0).trans rfl
            go_simp
            with_reducible rfl
          rotate_left
          · simp only [Act.put, List.setIfInBounds_toArray, List.set_cons_zero, List.set_cons_succ, i64_w, i32_w]
            rfl
          refine pure_ (i := 15) (N := some 80) (v := ?_) (a' := ?_) #[true, true, true, true, true, true, true, true, true, true, true, true, true, true, true, true, false, false, false, false, false] rfl rfl (by kernel_rfl) (fun _ _ _ h => h) (Or.inl ⟨by rfl, ?_⟩) ?_ ?_
          rotate_left
          · intro w'
            go_simp
            with_reducible rfl
          rotate_left
          · simp only [Act.put, List.setIfInBounds_toArray, List.set_cons_zero, List.set_cons_succ, i64_w, i32_w]
            rfl
          refine pure_ (i := 16) (N := some 81) (v := ?_) (a' := ?_) #[true, true, true, true, true, true, true, true, true, true, true, true, true, true, true, true, true, false, false, false, false] rfl rfl (by kernel_rfl) (fun _ _ _ h => h) (Or.inl ⟨by rfl, ?_⟩) ?_ ?_
          rotate_left
          · intro w'
            go_simp
            with_reducible rfl
          rotate_left
          · simp only [Act.put, List.setIfInBounds_toArray, List.set_cons_zero, List.set_cons_succ, i64_w, i32_w]
            rfl
          refine one_ (i := 17) (N := some 82) #[true, true, true, true, true, true, true, true, true, true, true, true, true, true, true, true, true, true, false, false, false] rfl rfl (by kernel_rfl) (by decide) (fun K hK => ?_)
          refine goes_ Tryd.func31 (by kernel_rfl) rfl #[zm, .int .i64 (n : Int)] (by rfl) rfl rfl (by (try simp only [List.map_toArray, List.map_cons, List.map_nil]); first | done | rfl | (simp only [List.length_drop, List.length_take]; rfl)) ?_
          have F := rshr_c hzm (by omega) k (by omega)
          rw [ED.out, hkI] at F
          refine (F).mono ?_
          rintro e w_16 ⟨z_t, rfl, ht, hb⟩
          refine ⟨_, rfl, ?_⟩
          replace hS := hS.trans (hb.mono hS.size)
          replace htab := htab.below hb
          replace hzm := hzm.below hb
          replace ha := ha.below hb
          replace hr := hr.below hb
          replace f_a := f_a.below hb
          replace f_l := f_l.below hb
          replace f_r := f_r.below hb
          replace hB := hB.trans (hb.mono hB.size)
          clear hb
          refine hK.out _ _ hS (fun hS => ?_)
          clear hK K
          refine norm_ (a' := ?_) ?_ ?_
          rotate_left
          · show Act.put _ (some 82) _ = _
            simp only [Act.put, List.setIfInBounds_toArray, List.set_cons_zero, List.set_cons_succ, i64_w, i32_w]
            rfl
          clear F
          refine one_ (i := 18) (N := some 83) #[true, true, true, true, true, true, true, true, true, true, true, true, true, true, true, true, true, true, true, false, false] rfl rfl (by kernel_rfl) (by decide) (fun K hK => ?_)
          refine goes_ Tryd.func27 (by kernel_rfl) rfl #[.agg #[(.slice A_10 n_10 c_10)], z_t] (by rfl) rfl rfl (by (try simp only [List.map_toArray, List.map_cons, List.map_nil]); first | done | rfl | (simp only [List.length_drop, List.length_take]; rfl)) ?_
          have F := is_c hr ht (by omega)
          rw [decide_eq_true rfl] at F
          refine (F).mono ?_
          rintro e w_17 ⟨rfl, hb⟩
          refine ⟨_, rfl, ?_⟩
          replace hS := hS.trans (hb.mono hS.size)
          replace htab := htab.below hb
          replace hzm := hzm.below hb
          replace ha := ha.below hb
          replace hr := hr.below hb
          replace ht := ht.below hb
          replace f_a := f_a.below hb
          replace f_l := f_l.below hb
          replace f_r := f_r.below hb
          replace hB := hB.trans (hb.mono hB.size)
          clear hb
          refine hK.out _ _ hS (fun hS => ?_)
          clear hK K
          refine norm_ (a' := ?_) ?_ ?_
          rotate_left
          · show Act.put _ (some 83) _ = _
            simp only [Act.put, List.setIfInBounds_toArray, List.set_cons_zero, List.set_cons_succ, i64_w, i32_w]
            rfl
          clear F
          refine pure_ (i := 19) (N := some 84) (v := ?_) (a' := ?_) #[true, true, true, true, true, true, true, true, true, true, true, true, true, true, true, true, true, true, true, true, false] rfl rfl (by kernel_rfl) (fun _ _ _ h => h) (Or.inl ⟨by rfl, ?_⟩) ?_ ?_
          rotate_left
          · intro w'
            go_simp
            with_reducible rfl
          rotate_left
          · simp only [Act.put, List.setIfInBounds_toArray, List.set_cons_zero, List.set_cons_succ, i64_w, i32_w]
            rfl
          refine pure_ (i := 20) (N := some 4) (v := ?_) (a' := ?_) #[true, true, true, true, true, true, true, true, true, true, true, true, true, true, true, true, true, true, true, true, true] rfl rfl (by kernel_rfl) (fun _ _ _ h => h) (Or.inl ⟨by rfl, ?_⟩) ?_ ?_
          rotate_left
          · intro w'
            go_simp
            with_reducible rfl
          rotate_left
          · simp only [Act.put, List.setIfInBounds_toArray, List.set_cons_zero, List.set_cons_succ, i64_w, i32_w]
            rfl
          refine done_ (by kernel_rfl) ?_
          go_wp2
          go_ret
          exact ⟨rfl, hB⟩
        · have hkI : (k : Int) = 5000 := by have := EK.out; omega
          go_wp2_with fail
          have f_r := bx.new w_9 (.slice A_10 n_10 c_10)
          have hA_ := below_alloc (Below.refl w_9.heap.size w_9) (.cells #[(.slice A_10 n_10 c_10)] 29)
          replace htab := htab.below hA_
          replace hzm := hzm.below hA_
          replace ha := ha.below hA_
          replace hl := hl.below hA_
          replace hr := hr.below hA_
          replace f_a := f_a.below hA_
          replace f_l := f_l.below hA_
          replace hB := hB.trans (hA_.mono hB.size)
          clear hA_
          generalize w_9.alloc (.cells #[(.slice A_10 n_10 c_10)] 29) = w_11 at f_r htab hzm ha hl hr f_a f_l hB ⊢
          generalize w_9.heap.size = b_r at f_r ⊢
          have hb : Below w_11.heap.size w_11 w_11.drew := below_drew (Below.refl _ _)
          refine start_ (n := 21) (S := fun w' => Below w_11.drew.heap.size w_11.drew w') (ds := []) #[false, false, false, false, false, false, false, false, false, false, false, false, false, false, false, false, false, false, false, false, false] (by kernel_rfl) rfl rfl (Below.refl _ _) (fun hS => ?_)
          replace htab := htab.below hb
          replace hzm := hzm.below hb
          replace ha := ha.below hb
          replace hl := hl.below hb
          replace hr := hr.below hb
          replace f_a := f_a.below hb
          replace f_l := f_l.below hb
          replace f_r := f_r.below hb
          replace hB := hB.trans (hb.mono hB.size)
          clear hb
          generalize w_11.drew = w_12 at htab hzm ha hl hr f_a f_l f_r hB hS ⊢
          have sf_a := f_a
          have sf_l := f_l
          have sf_r := f_r
          refine one_ (i := 0) (N := some 65) #[true, false, false, false, false, false, false, false, false, false, false, false, false, false, false, false, false, false, false, false, false] rfl rfl (by kernel_rfl) (by decide) (fun K hK => ?_)
          refine goes_ Tryd.func14 (by kernel_rfl) rfl #[] (by rfl) rfl rfl (by (try simp only [List.map_toArray, List.map_cons, List.map_nil]); first | done | rfl | (simp only [List.length_drop, List.length_take]; rfl)) ?_
          refine (awake_c htab).mono ?_
          rintro e w_13 ⟨rfl, hb⟩
          refine ⟨_, rfl, ?_⟩
          replace hS := hS.trans (hb.mono hS.size)
          replace htab := htab.below hb
          replace hzm := hzm.below hb
          replace ha := ha.below hb
          replace hl := hl.below hb
          replace hr := hr.below hb
          replace f_a := f_a.below hb
          replace f_l := f_l.below hb
          replace f_r := f_r.below hb
          replace hB := hB.trans (hb.mono hB.size)
          clear hb
          refine hK.out _ _ hS (fun hS => ?_)
          clear hK K
          refine norm_ (a' := ?_) ?_ ?_
          rotate_left
          · show Act.put _ (some 65) _ = _
            simp only [Act.put, List.setIfInBounds_toArray, List.set_cons_zero, List.set_cons_succ, i64_w, i32_w]
            rfl
          refine pure_ (i := 1) (N := some 66) (v := ?_) (a' := ?_) #[true, true, false, false, false, false, false, false, false, false, false, false, false, false, false, false, false, false, false, false, false] rfl rfl (by kernel_rfl) (fun _ _ _ h => h) (Or.inl ⟨by rfl, ?_⟩) ?_ ?_
          rotate_left
          · intro w'
            go_simp
            with_reducible rfl
          rotate_left
          · simp only [Act.put, List.setIfInBounds_toArray, List.set_cons_zero, List.set_cons_succ, i64_w, i32_w]
            rfl
          refine take_ (i := 2) (N := some 67) (v := ?_) (a' := ?_) #[true, true, true, false, false, false, false, false, false, false, false, false, false, false, false, false, false, false, false, false, false] rfl rfl (by kernel_rfl) (fun _ _ _ h => h) (Or.inl ⟨by rfl, ?_⟩) hS ?_ ?_
          rotate_left
          · intro w' hS_
            have k_ := (blk_cell (bx.below sf_l hS_) 0).trans rfl
            go_simp
            with_reducible rfl
          rotate_left
          · simp only [Act.put, List.setIfInBounds_toArray, List.set_cons_zero, List.set_cons_succ, i64_w, i32_w]
            rfl
          refine pure_ (i := 3) (N := some 68) (v := ?_) (a' := ?_) #[true, true, true, true, false, false, false, false, false, false, false, false, false, false, false, false, false, false, false, false, false] rfl rfl (by kernel_rfl) (fun _ _ _ h => h) (Or.inl ⟨by rfl, ?_⟩) ?_ ?_
          rotate_left
          · intro w'
            go_simp
            with_reducible rfl
          rotate_left
          · simp only [Act.put, List.setIfInBounds_toArray, List.set_cons_zero, List.set_cons_succ, i64_w, i32_w]
            rfl
          refine pure_ (i := 4) (N := some 69) (v := ?_) (a' := ?_) #[true, true, true, true, true, false, false, false, false, false, false, false, false, false, false, false, false, false, false, false, false] rfl rfl (by kernel_rfl) (fun _ _ _ h => h) (Or.inl ⟨by rfl, ?_⟩) ?_ ?_
          rotate_left
          · intro w'
            go_simp
            with_reducible rfl
          rotate_left
          · simp only [Act.put, List.setIfInBounds_toArray, List.set_cons_zero, List.set_cons_succ, i64_w, i32_w]
            rfl
          refine pure_ (i := 5) (N := some 70) (v := ?_) (a' := ?_) #[true, true, true, true, true, true, false, false, false, false, false, false, false, false, false, false, false, false, false, false, false] rfl rfl (by kernel_rfl) (fun _ _ _ h => h) (Or.inl ⟨by rfl, ?_⟩) ?_ ?_
          rotate_left
          · intro w'
            go_simp
            with_reducible rfl
          rotate_left
          · simp only [Act.put, List.setIfInBounds_toArray, List.set_cons_zero, List.set_cons_succ, i64_w, i32_w]
            rfl
          refine one_ (i := 6) (N := some 71) #[true, true, true, true, true, true, true, false, false, false, false, false, false, false, false, false, false, false, false, false, false] rfl rfl (by kernel_rfl) (by decide) (fun K hK => ?_)
          refine goes_ Tryd.func30 (by kernel_rfl) rfl #[zm, .int .i64 5000] (by rfl) rfl rfl (by (try simp only [List.map_toArray, List.map_cons, List.map_nil]); first | done | rfl | (simp only [List.length_drop, List.length_take]; rfl)) ?_
          have F := rshl_c hzm (by omega) k (by omega)
          rw [EP.out, hkI] at F
          refine (F).mono ?_
          rintro e w_14 ⟨z_t, rfl, ht, hb⟩
          refine ⟨_, rfl, ?_⟩
          replace hS := hS.trans (hb.mono hS.size)
          replace htab := htab.below hb
          replace hzm := hzm.below hb
          replace ha := ha.below hb
          replace hl := hl.below hb
          replace hr := hr.below hb
          replace f_a := f_a.below hb
          replace f_l := f_l.below hb
          replace f_r := f_r.below hb
          replace hB := hB.trans (hb.mono hB.size)
          clear hb
          refine hK.out _ _ hS (fun hS => ?_)
          clear hK K
          refine norm_ (a' := ?_) ?_ ?_
          rotate_left
          · show Act.put _ (some 71) _ = _
            simp only [Act.put, List.setIfInBounds_toArray, List.set_cons_zero, List.set_cons_succ, i64_w, i32_w]
            rfl
          clear F
          refine one_ (i := 7) (N := some 72) #[true, true, true, true, true, true, true, true, false, false, false, false, false, false, false, false, false, false, false, false, false] rfl rfl (by kernel_rfl) (by decide) (fun K hK => ?_)
          refine goes_ Tryd.func17 (by kernel_rfl) rfl #[.agg #[(.slice A_7 n_7 c_7)], .int .i64 es, z_t] (by rfl) rfl rfl (by (try simp only [List.map_toArray, List.map_cons, List.map_nil]); first | done | rfl | (simp only [List.length_drop, List.length_take]; rfl)) ?_
          have F := got_c hl es ht (by omega) (by omega)
          rw [GT.out] at F
          refine (F).mono ?_
          rintro e w_15 ⟨rfl, hb⟩
          refine ⟨_, rfl, ?_⟩
          replace hS := hS.trans (hb.mono hS.size)
          replace htab := htab.below hb
          replace hzm := hzm.below hb
          replace ha := ha.below hb
          replace hr := hr.below hb
          replace f_a := f_a.below hb
          replace f_l := f_l.below hb
          replace f_r := f_r.below hb
          replace hB := hB.trans (hb.mono hB.size)
          clear hb
          refine hK.out _ _ hS (fun hS => ?_)
          clear hK K
          refine norm_ (a' := ?_) ?_ ?_
          rotate_left
          · show Act.put _ (some 72) _ = _
            simp only [Act.put, List.setIfInBounds_toArray, List.set_cons_zero, List.set_cons_succ, i64_w, i32_w]
            rfl
          clear F
          refine pure_ (i := 8) (N := some 73) (v := ?_) (a' := ?_) #[true, true, true, true, true, true, true, true, true, false, false, false, false, false, false, false, false, false, false, false, false] rfl rfl (by kernel_rfl) (fun _ _ _ h => h) (Or.inl ⟨by rfl, ?_⟩) ?_ ?_
          rotate_left
          · intro w'
            go_simp
            with_reducible rfl
          rotate_left
          · simp only [Act.put, List.setIfInBounds_toArray, List.set_cons_zero, List.set_cons_succ, i64_w, i32_w]
            rfl
          refine pure_ (i := 9) (N := some 74) (v := ?_) (a' := ?_) #[true, true, true, true, true, true, true, true, true, true, false, false, false, false, false, false, false, false, false, false, false] rfl rfl (by kernel_rfl) (fun _ _ _ h => h) (Or.inl ⟨by rfl, ?_⟩) ?_ ?_
          rotate_left
          · intro w'
            go_simp
            with_reducible rfl
          rotate_left
          · simp only [Act.put, List.setIfInBounds_toArray, List.set_cons_zero, List.set_cons_succ, i64_w, i32_w]
            rfl
          refine pure_ (i := 10) (N := some 75) (v := ?_) (a' := ?_) #[true, true, true, true, true, true, true, true, true, true, true, false, false, false, false, false, false, false, false, false, false] rfl rfl (by kernel_rfl) (fun _ _ _ h => h) (Or.inl ⟨by rfl, ?_⟩) ?_ ?_
          rotate_left
          · intro w'
            go_simp
            with_reducible rfl
          rotate_left
          · simp only [Act.put, List.setIfInBounds_toArray, List.set_cons_zero, List.set_cons_succ, i64_w, i32_w]
            rfl
          refine pure_ (i := 11) (N := some 76) (v := ?_) (a' := ?_) #[true, true, true, true, true, true, true, true, true, true, true, true, false, false, false, false, false, false, false, false, false] rfl rfl (by kernel_rfl) (fun _ _ _ h => h) (Or.inl ⟨by rfl, ?_⟩) ?_ ?_
          rotate_left
          · intro w'
            go_simp
            with_reducible rfl
          rotate_left
          · simp only [Act.put, List.setIfInBounds_toArray, List.set_cons_zero, List.set_cons_succ, i64_w, i32_w]
            rfl
          refine pure_ (i := 12) (N := some 77) (v := ?_) (a' := ?_) #[true, true, true, true, true, true, true, true, true, true, true, true, true, false, false, false, false, false, false, false, false] rfl rfl (by kernel_rfl) (fun _ _ _ h => h) (Or.inl ⟨by rfl, ?_⟩) ?_ ?_
          rotate_left
          · intro w'
            go_simp
            with_reducible rfl
          rotate_left
          · simp only [Act.put, List.setIfInBounds_toArray, List.set_cons_zero, List.set_cons_succ, i64_w, i32_w]
            rfl
          refine pure_ (i := 13) (N := some 78) (v := ?_) (a' := ?_) #[true, true, true, true, true, true, true, true, true, true, true, true, true, true, false, false, false, false, false, false, false] rfl rfl (by kernel_rfl) (fun _ _ _ h => h) (Or.inl ⟨by rfl, ?_⟩) ?_ ?_
          rotate_left
          · intro w'
            go_simp
            with_reducible rfl
          rotate_left
          · simp only [Act.put, List.setIfInBounds_toArray, List.set_cons_zero, List.set_cons_succ, i64_w, i32_w]
            rfl
          refine take_ (i := 14) (N := some 79) (v := ?_) (a' := ?_) #[true, true, true, true, true, true, true, true, true, true, true, true, true, true, true, false, false, false, false, false, false] rfl rfl (by kernel_rfl) (fun _ _ _ h => h) (Or.inl ⟨by rfl, ?_⟩) hS ?_ ?_
          rotate_left
          · intro w' hS_
            have k_ := (blk_cell (bx.below sf_r hS_) 0).trans rfl
            go_simp
            with_reducible rfl
          rotate_left
          · simp only [Act.put, List.setIfInBounds_toArray, List.set_cons_zero, List.set_cons_succ, i64_w, i32_w]
            rfl
          refine pure_ (i := 15) (N := some 80) (v := ?_) (a' := ?_) #[true, true, true, true, true, true, true, true, true, true, true, true, true, true, true, true, false, false, false, false, false] rfl rfl (by kernel_rfl) (fun _ _ _ h => h) (Or.inl ⟨by rfl, ?_⟩) ?_ ?_
          rotate_left
          · intro w'
            go_simp
            with_reducible rfl
          rotate_left
          · simp only [Act.put, List.setIfInBounds_toArray, List.set_cons_zero, List.set_cons_succ, i64_w, i32_w]
            rfl
          refine pure_ (i := 16) (N := some 81) (v := ?_) (a' := ?_) #[true, true, true, true, true, true, true, true, true, true, true, true, true, true, true, true, true, false, false, false, false] rfl rfl (by kernel_rfl) (fun _ _ _ h => h) (Or.inl ⟨by rfl, ?_⟩) ?_ ?_
          rotate_left
          · intro w'
            go_simp
            with_reducible rfl
          rotate_left
          · simp only [Act.put, List.setIfInBounds_toArray, List.set_cons_zero, List.set_cons_succ, i64_w, i32_w]
            rfl
          refine one_ (i := 17) (N := some 82) #[true, true, true, true, true, true, true, true, true, true, true, true, true, true, true, true, true, true, false, false, false] rfl rfl (by kernel_rfl) (by decide) (fun K hK => ?_)
          refine goes_ Tryd.func31 (by kernel_rfl) rfl #[zm, .int .i64 5000] (by rfl) rfl rfl (by (try simp only [List.map_toArray, List.map_cons, List.map_nil]); first | done | rfl | (simp only [List.length_drop, List.length_take]; rfl)) ?_
          have F := rshr_c hzm (by omega) k (by omega)
          rw [ED.out, hkI] at F
          refine (F).mono ?_
          rintro e w_16 ⟨z_t, rfl, ht, hb⟩
          refine ⟨_, rfl, ?_⟩
          replace hS := hS.trans (hb.mono hS.size)
          replace htab := htab.below hb
          replace hzm := hzm.below hb
          replace ha := ha.below hb
          replace hr := hr.below hb
          replace f_a := f_a.below hb
          replace f_l := f_l.below hb
          replace f_r := f_r.below hb
          replace hB := hB.trans (hb.mono hB.size)
          clear hb
          refine hK.out _ _ hS (fun hS => ?_)
          clear hK K
          refine norm_ (a' := ?_) ?_ ?_
          rotate_left
          · show Act.put _ (some 82) _ = _
            simp only [Act.put, List.setIfInBounds_toArray, List.set_cons_zero, List.set_cons_succ, i64_w, i32_w]
            rfl
          clear F
          refine one_ (i := 18) (N := some 83) #[true, true, true, true, true, true, true, true, true, true, true, true, true, true, true, true, true, true, true, false, false] rfl rfl (by kernel_rfl) (by decide) (fun K hK => ?_)
          refine goes_ Tryd.func27 (by kernel_rfl) rfl #[.agg #[(.slice A_10 n_10 c_10)], z_t] (by rfl) rfl rfl (by (try simp only [List.map_toArray, List.map_cons, List.map_nil]); first | done | rfl | (simp only [List.length_drop, List.length_take]; rfl)) ?_
          have F := is_c hr ht (by omega)
          rw [decide_eq_true rfl] at F
          refine (F).mono ?_
          rintro e w_17 ⟨rfl, hb⟩
          refine ⟨_, rfl, ?_⟩
          replace hS := hS.trans (hb.mono hS.size)
          replace htab := htab.below hb
          replace hzm := hzm.below hb
          replace ha := ha.below hb
          replace hr := hr.below hb
          replace ht := ht.below hb
          replace f_a := f_a.below hb
          replace f_l := f_l.below hb
          replace f_r := f_r.below hb
          replace hB := hB.trans (hb.mono hB.size)
          clear hb
          refine hK.out _ _ hS (fun hS => ?_)
          clear hK K
          refine norm_ (a' := ?_) ?_ ?_
          rotate_left
          · show Act.put _ (some 83) _ = _
            simp only [Act.put, List.setIfInBounds_toArray, List.set_cons_zero, List.set_cons_succ, i64_w, i32_w]
            rfl
          clear F
          refine pure_ (i := 19) (N := some 84) (v := ?_) (a' := ?_) #[true, true, true, true, true, true, true, true, true, true, true, true, true, true, true, true, true, true, true, true, false] rfl rfl (by kernel_rfl) (fun _ _ _ h => h) (Or.inl ⟨by rfl, ?_⟩) ?_ ?_
          rotate_left
          · intro w'
            go_simp
            with_reducible rfl
          rotate_left
          · simp only [Act.put, List.setIfInBounds_toArray, List.set_cons_zero, List.set_cons_succ, i64_w, i32_w]
            rfl
          refine pure_ (i := 20) (N := some 4) (v := ?_) (a' := ?_) #[true, true, true, true, true, true, true, true, true, true, true, true, true, true, true, true, true, true, true, true, true] rfl rfl (by kernel_rfl) (fun _ _ _ h => h) (Or.inl ⟨by rfl, ?_⟩) ?_ ?_
          rotate_left
          · intro w'
            go_simp
            with_reducible rfl
          rotate_left
          · simp only [Act.put, List.setIfInBounds_toArray, List.set_cons_zero, List.set_cons_succ, i64_w, i32_w]
            rfl
          refine done_ (by kernel_rfl) ?_
          go_wp2
          go_ret
          exact ⟨rfl, hB⟩
    · have F := from_c h1 r1 em (by omega)
      rw [show fitE m = 1 by unfold fitE; rw [if_neg g_m]] at F
      refine (F).mono ?_
      rintro e w_3 ⟨z_a, rfl, ha0, hb⟩
      replace h1 := h1.below hb
      replace htab := htab.below hb
      replace hzm := hzm.below hb
      replace hB := hB.trans (hb.mono hB.size)
      clear hb
      have ha := Kf.kw ha0
      clear ha0 F
      obtain ⟨A_4, n_4, c_4, rfl⟩ := ha.shape
      go_wp2_with fail
      have f_a := bx.new w_3 (.slice A_4 n_4 c_4)
      have hA_ := below_alloc (Below.refl w_3.heap.size w_3) (.cells #[(.slice A_4 n_4 c_4)] 29)
      replace h1 := h1.below hA_
      replace htab := htab.below hA_
      replace hzm := hzm.below hA_
      replace ha := ha.below hA_
      replace hB := hB.trans (hA_.mono hB.size)
      clear hA_
      generalize w_3.alloc (.cells #[(.slice A_4 n_4 c_4)] 29) = w_5 at f_a h1 htab hzm ha hB ⊢
      generalize w_3.heap.size = b_a at f_a ⊢
      have gn := mt (fits_nb m).2 g_m
      refine (awake_c htab).mono ?_
      rintro e w_6 ⟨rfl, hb⟩
      replace h1 := h1.below hb
      replace htab := htab.below hb
      replace hzm := hzm.below hb
      replace ha := ha.below hb
      replace f_a := f_a.below hb
      replace hB := hB.trans (hb.mono hB.size)
      clear hb
      go_wp2_with fail
      have d1 : decide ((nb m : Int) > 4096) = true := decide_eq_true (by omega)
      have d2 : decide (4096 < (nb m : Int)) = true := decide_eq_true (by omega)
      have d3 : decide (4096 < nb m) = true := decide_eq_true (by omega)
      refine (rbits_c hzm (by omega)).mono ?_
      rintro e w_7 ⟨rfl, hb⟩
      replace h1 := h1.below hb
      replace htab := htab.below hb
      replace hzm := hzm.below hb
      replace ha := ha.below hb
      replace f_a := f_a.below hb
      replace hB := hB.trans (hb.mono hB.size)
      clear hb
      go_wp2
      go_ret
      exact ⟨rfl, hB⟩
end Go.Proofs.YtgkdealidnidiaaDoor.Na
namespace Go.Proofs.YtgkdealidnidiaaDoor.Na
set_option linter.unusedVariables false
open Go.RowKit Go.Proofs.YtgkdealidnidiaaDoorW.PrintWords Go.Proofs.YtgkdealidnidiaaDoorW.PrintLast Go.Proofs.YtgkdealidnidiaaDoorW.PrintMore Go.Proofs.YtgkdealidnidiaaDoor.Dg
set_option maxRecDepth 100000 in
theorem open_ws {H : Type} {enc : TypeId × Value → H} {W : World} {base : Nat} {spare : Nat → Bool} {held : Bool} {r : Reach} {b0 : Nat} {v : Value} {d : DataW H} {ps : List MemPlace}
    (hv : Value.okWide Tryd.prog W r b0 22 v) (h : DataW.Trod enc Tryd.prog W base spare held 22 v d ps) :
    ∃ A c l, v = .slice A l.length c ∧ l.length ≤ c ∧ Kd.C (Kd.int .u64) W A l.length l ∧ R BW l ∧ l.length ≤ 9223372036854775807 := by
  obtain ⟨a, len, cap, rfl⟩ := Go.WideShapes.okWide_slice Tryd.underlying22 hv
  obtain ⟨fuel, hf⟩ := h
  have hcz : Tryd.prog.cellsOf 40 = 1 := by kernel_rfl
  rcases Go.ChangeShapes.open_ints Tryd.underlying22 Tryd.underlying40 hcz hf with ⟨hc, _⟩ | ⟨a', len', cap', zs, hc, _, hlc, hcm, hzl, _, hcell, hwf⟩
  · simp [Value.cells] at hc
    obtain ⟨rfl, rfl, rfl⟩ := hc
    exact ⟨none, 0, [], rfl, Nat.le_refl _, Kd.C_nil _ _, R_nil _, by simp⟩
  · simp [Value.cells] at hc
    obtain ⟨rfl, rfl, rfl⟩ := hc
    have hle : len ≤ zs.length := by rw [hzl]; split <;> omega
    have hcap : cap ≤ 9223372036854775807 := by
      have : cap ≤ maxLen := hcm
      unfold maxLen at this
      omega
    have hl : (zs.take len).length = len := by rw [List.length_take, Nat.min_eq_left hle]
    refine ⟨some a', cap, zs.take len, by rw [hl], by omega, ⟨rfl, by omega, fun _ => ⟨a', rfl, ?_⟩⟩, ?_, by omega⟩
    · intro j p hj
      refine ⟨[.int .u64 p], rfl, rfl, ?_⟩
      intro i u hi
      match i, hi with
      | 0, hi =>
        have hu : Value.int .u64 p = u := by simpa using hi
        subst hu
        have hj1 : j < (zs.take len).length := (List.getElem?_eq_some_iff.1 hj).1
        have hj2 : j < zs.length := by omega
        have hc := hcell j hj2
        have hz : zs.getD j 0 = p := by
          rw [List.getElem?_take, if_pos (by omega)] at hj
          rw [List.getD_eq_getElem?_getD, hj]; rfl
        rw [hz] at hc
        show W.cell? (a'.add (j * 1 + 0)) = _
        rw [Nat.mul_one, Nat.add_zero]; exact hc
      | i + 1, hi => simp at hi
    · intro x hx
      have hw := hwf x (List.mem_of_mem_take hx)
      simp [Lit.wf, IntKind.min, IntKind.max, IntKind.signed, IntKind.bits] at hw
      have : ((BW : Nat) : Int) = 18446744073709551616 := rfl
      rw [this]
      omega
end Go.Proofs.YtgkdealidnidiaaDoor.Na
namespace Go.Proofs.YtgkdealidnidiaaDoor
open Go.RowKit
mutual
def flat : DataW Unit → List Value
  | .lit (.int k n) => [.int k n]
  | .agg parts => flats parts
  | _ => []
def flats : List (DataW Unit) → List Value
  | [] => []
  | d :: r => flat d ++ flats r
end
def layObj (d : DataW Unit) : Obj → Obj
  | .cells _ t fr => .cells (flat d).toArray t fr
  | o => o
noncomputable def laidWorld (os : Os) : World :=
  let w0 := World.holding Tryd.prog os ⟨#[], #[], []⟩
  { w0 with heap := ((w0.heap.modify 4 (layObj Rows.laid_math_bits_deBruijn32tab)).modify 5 (layObj Rows.laid_math_bits_deBruijn64tab)).modify 2 (layObj Rows.laid_internal_strconv_uint64pow10) }
theorem tab_of {W : World} (h : laidMetH Tryd.prog [("math/bits.deBruijn32tab", Rows.laid_math_bits_deBruijn32tab), ("math/bits.deBruijn64tab", Rows.laid_math_bits_deBruijn64tab), ("internal/strconv.uint64pow10", Rows.laid_internal_strconv_uint64pow10)] W) : Na.Tab W := by
  rw [MakeChecks.laidMetH_plain _ _ _ (by kernel_rfl)] at h
  have h2 := h.filter (fun x => x.1 == "internal/strconv.uint64pow10")
  have e : ([("math/bits.deBruijn32tab", Rows.laid_math_bits_deBruijn32tab), ("math/bits.deBruijn64tab", Rows.laid_math_bits_deBruijn64tab), ("internal/strconv.uint64pow10", Rows.laid_internal_strconv_uint64pow10)] : List (String × DataW Unit)).filter (fun x => x.1 == "internal/strconv.uint64pow10") = [("internal/strconv.uint64pow10", Lib.tabData .u64 Lib.pow10Tab)] := by kernel_rfl
  rw [e] at h2
  exact Lib.tabIs_of_head (g := 2) (t := 161) (e := 40) (n := 20) (by kernel_rfl) (by kernel_rfl) Tryd.underlying161 Tryd.underlying40 (by kernel_rfl) (by kernel_rfl) h2
end Go.Proofs.YtgkdealidnidiaaDoor
