/- Texts of the seat, as far as the row needs them. -/
import Derived.ArgAppend
import Derived.Below
import Derived.BigQuiet
import Derived.Deep.AppendLies
import Derived.Deep.CutBlock
import Derived.Deep.DeepCutAuto
import Derived.Deep.Draws
import Derived.Deep.Light
import Derived.Deep.LoopGhost
import Derived.Deep.OwnRows
import Derived.Deep.QuietTactic
import Derived.Deep.RegionHeld3
import Derived.Ground.Names2Prog
import Derived.KernelRfl
import Derived.LaidMore
import Derived.LaidSub
import Derived.Laws.AppendOwn
import Derived.Laws.BitsAllLaws
import Derived.Laws.BitsLemmas
import Derived.Laws.BytesArg
import Derived.Laws.CopyOwn
import Derived.Laws.Externs
import Derived.Laws.IdiomCopy
import Derived.Laws.MakeOwn
import Derived.Laws.OwnMore
import Derived.Laws.ResultCell
import Derived.Laws.Rows
import Derived.Laws.Slices
import Derived.Laws.StructEq
import Derived.Laws.Tables
import Derived.Lib.AppendIntMem
import Derived.Lib.AppendStr
import Derived.Lib.BitFns
import Derived.Lib.ConvBytes
import Derived.Lib.ItoaMem
import Derived.Lib.Join
import Derived.Lib.LazyBuf
import Derived.Lib.OwnBridge
import Derived.Lib.Repeat
import Derived.Lib.SliceRun
import Derived.Lib.SmallJoins
import Derived.Lib.Strings
import Derived.Lib.Walk
import Derived.MakeChecks
import Derived.Maps.AppendAt
import Derived.OrdersHeld
import Derived.Outline
import Derived.OwnWalk
import Derived.ProofKit
import Derived.RowKit
import Derived.RowKit3
import Derived.Shelf.Bits.Mul64
import Derived.Shelf.LaysM
import Derived.Shelf.Slices.Cells
import Derived.Shelf.Slices.CompactI
import Derived.Shelf.Slices.ReverseS
import Derived.Shelf.Small.Bits
import Derived.Shelf.Spec.BitsCarry
import Derived.Shelf.Strconv.Itoa0
import Derived.Shelf.Strconv.Itoa1
import Derived.Shelf.Strconv.Itoa2
import Derived.Shelf.Strings.Builder1
import Derived.Shelf.Strings.Builder2
import Derived.Shelf.Strings.Builder2Cap
import Derived.Shelf.Strings.BuilderCap
import Derived.Shelf.Strings.BuilderF
import Derived.Shelf.Strings.BuilderK
import Derived.Shelf.Strings.OnBuilder
import Derived.Shelf.Strings.Prefix
import Derived.Shelf.Strings.Repeat
import Derived.StillTailTactics
import Derived.Tactics
import Derived.Test.YtgkdealidnidiaaDoorProg
import Derived.Test.YtgkdealidnidiaaDoorRows
import Derived.WalkKit
import Derived.WideLaws
import Derived.Test.YtgkdealidnidiaaDoorQNatParses0
import Derived.Test.YtgkdealidnidiaaDoorQNatParses1
import Derived.Test.YtgkdealidnidiaaDoorQNatParses2
import Derived.Test.YtgkdealidnidiaaDoorQNatParses3
import Derived.Test.YtgkdealidnidiaaDoorQNatParses4
set_option linter.unusedVariables false
set_option linter.unusedSimpArgs false
namespace Go.Proofs.YtgkdealidnidiaaDoor.Na
open Go.RowKit Go.Proofs.YtgkdealidnidiaaDoorW.PrintWords Go.Proofs.YtgkdealidnidiaaDoorW.PrintLast Go.Proofs.YtgkdealidnidiaaDoorW.PrintMore Go.Proofs.YtgkdealidnidiaaDoor.Dg
set_option linter.unusedSimpArgs false
set_option linter.unusedVariables false
def decF : Nat → Nat → List UInt8
  | 0, _ => []
  | k + 1, u => if u < 10 then [UInt8.ofNat (48 + u)] else decF k (u / 10) ++ [UInt8.ofNat (48 + u % 10)]
theorem decF_eq : ∀ (k u : Nat), u < 10 ^ (k + 1) → Lib.decDigits u = decF (k + 1) u
  | 0, u, h => by
    have h : u < 10 := by simpa using h
    rw [Lib.decDigits_one h, decF, if_pos h]
  | k + 1, u, h => by
    by_cases h1 : u < 10
    · rw [Lib.decDigits_one h1, decF, if_pos h1]
    · rw [Lib.decDigits, dif_neg h1, decF, if_neg h1, decF_eq k (u / 10) (by rw [Nat.pow_succ] at h; omega)]
theorem dec_awake : decS 18446744073709551616 = ⟨#[49, 56, 52, 52, 54, 55, 52, 52, 48, 55, 51, 55, 48, 57, 53, 53, 49, 54, 49, 54]⟩ := by
  unfold decS
  rw [decF_eq 19 _ (by decide)]
  rfl
theorem Kw.newly (k : IntKind) (w : World) (l : List Int) (e : Nat) (c : Nat) (hl : l.length ≤ 1000) (hc : l.length ≤ c) : Kw k (w.alloc (.cells (l.map (Value.int k)).toArray e)) (.slice (some ⟨w.heap.size, 0, none⟩) l.length c) l := by
  refine ⟨_, _, rfl, hc, rfl, by omega, fun _ => ⟨_, rfl, ?_⟩⟩
  intro j p hj
  refine ⟨[.int k p], rfl, rfl, ?_⟩
  intro i u hi
  match i, hi with
  | 0, hi =>
    have hu : Value.int k p = u := by simpa using hi
    subst hu
    have h0 : (w.alloc (.cells (l.map (Value.int k)).toArray e)).heap[w.heap.size]? = some (.cells (l.map (Value.int k)).toArray e (0, 0)) := heap_alloc_new w _
    have h1 := blk_cell h0 j
    have e1 : (⟨w.heap.size, 0, none⟩ : Addr).add (j * (Kd.int k).sz + 0) = ⟨w.heap.size, j, none⟩ := by
      show (⟨w.heap.size, 0, none⟩ : Addr).add (j * 1 + 0) = _
      unfold Addr.add
      by_cases hj0 : j = 0
      · subst hj0; simp
      · simp; omega
    rw [e1, h1]
    simp [List.getElem?_map, hj]
  | i + 1, hi => simp at hi
theorem Kw.shape {k : IntKind} {w : World} {v : Value} {l : List Int} (h : Kw k w v l) : ∃ A n c, v = .slice A n c := by
  obtain ⟨A, c, rfl, _⟩ := h
  exact ⟨_, _, _, rfl⟩
set_option maxRecDepth 100000 in
set_option maxHeartbeats 4000000 in
theorem awake_c {w : World} (htab : Tab w) :
    Calls Tryd.prog 14 #[] w fun e w' => e = .returned (.bool true) ∧ Below w.heap.size w w' := by
  have hu29 := Tryd.underlying29
  have hB : Below w.heap.size w w := Below.refl _ _
  go_enter Tryd.func14, Tryd.ntmps14
  go_wp2_with fail
  have hl : (wd BW 18446744073709551616).length ≤ 2 := (len_le_iff (by decide) 2).2 (by decide)
  have F := from_c (n := 18446744073709551616) (Kw.newly .u64 w [0, 1] 40 2 (by decide) (by decide)) (by intro x hx; simp at hx; rcases hx with rfl | rfl <;> decide) (by decide) (by decide)
  rw [show fitE 18446744073709551616 = 0 by unfold fitE; rw [if_pos (by omega)], show fitN 18446744073709551616 = 18446744073709551616 by unfold fitN; rw [if_pos (by omega)]] at F
  refine F.mono ?_
  rintro e w1 ⟨z, rfl, hz, hb⟩
  have hB1 : Below w.heap.size w w1 := (below_alloc (Below.refl _ _) _).trans (hb.mono (by simp))
  have hN : Nw w1 z 18446744073709551616 := Kf.kw hz
  obtain ⟨A3, n3, c3, rfl⟩ := hN.shape
  clear F hz hb hB
  go_wp2_with fail
  have f1 := bx.new w1 (.slice A3 n3 c3)
  have hN2 := hN.below (below_alloc (Below.refl w1.heap.size w1) (.cells #[.slice A3 n3 c3] 29))
  have hB := hB1.trans ((below_alloc (Below.refl w1.heap.size w1) (.cells #[.slice A3 n3 c3] 29)).mono hB1.size)
  clear hN hB1
  generalize w1.alloc (.cells #[.slice A3 n3 c3] 29) = w2 at f1 hN2 hB ⊢
  generalize w1.heap.size = b1 at f1 ⊢
  have F := bits_c hN2 (by omega)
  rw [show nb 18446744073709551616 = 65 by decide] at F
  refine F.mono ?_
  rintro e w3 ⟨rfl, hb⟩
  replace f1 := f1.below hb
  replace hN2 := hN2.below hb
  replace hB := hB.trans (hb.mono hB.size)
  clear hb
  clear F
  go_wp2_with (first | refine Cel.wpList_load_row_w rfl 29 _ rfl b1 rfl 29 #[.slice A3 n3 c3] (0, 0) _ f1 hu29 rfl infoN ?_)
  have F := str_c hN2 (by omega) (htab.below hB)
  rw [dec_awake] at F
  refine F.mono ?_
  rintro e w4 ⟨rfl, hb⟩
  replace hB := hB.trans (hb.mono hB.size)
  clear hb
  clear F f1 hN2
  go_wp2_with fail
  refine (of_c 7 (by decide)).mono ?_
  rintro e w5 ⟨z7, rfl, h7, hb⟩
  replace hB := hB.trans (hb.mono hB.size)
  clear hb
  go_wp2_with fail
  refine (of_c 6 (by decide)).mono ?_
  rintro e w6 ⟨z6, rfl, h6, hb⟩
  have h7' := (Kf.kw h7).below hb
  replace hB := hB.trans (hb.mono hB.size)
  clear hb
  go_wp2_with fail
  have l7 : (wd BW 7).length ≤ 1000000 := Nat.le_trans ((len_le_iff (by decide) 1).2 (by decide)) (by decide)
  refine (cmp_c h7' (Kf.kw h6) l7).mono ?_
  rintro e w7 ⟨rfl, hb⟩
  replace hB := hB.trans (hb.mono hB.size)
  clear hb
  rw [show cmpN 7 6 = 1 by decide]
  go_wp2
  go_ret
  exact ⟨rfl, hB⟩
end Go.Proofs.YtgkdealidnidiaaDoor.Na
namespace Go.Proofs.YtgkdealidnidiaaDoor.Na
open Go.RowKit Go.Proofs.YtgkdealidnidiaaDoorW.PrintWords Go.Proofs.YtgkdealidnidiaaDoorW.PrintLast Go.Proofs.YtgkdealidnidiaaDoorW.PrintMore Go.Proofs.YtgkdealidnidiaaDoor.Dg
set_option linter.unusedSimpArgs false
set_option linter.unusedVariables false
theorem parX_len (s : ByteArray) : (wd BW (parX s)).length ≤ 64 := by
  unfold parX
  split
  · split
    · rw [wd_zero]; exact Nat.zero_le _
    · exact (fits_nb _).2 (by omega)
  · rw [wd_zero]; exact Nat.zero_le _
theorem parX_zero (s : ByteArray) (h : ¬ parC s = 0) : parX s = 0 := by
  unfold parC at h
  unfold parX
  split
  · rename_i hf
    rw [if_pos hf] at h
    split
    · rfl
    · rename_i hb
      rw [if_neg hb] at h; exact absurd rfl h
  · rfl
theorem par_text (s : ByteArray) (h : parC s = 0) : decS (parX s) = s := by
  unfold parC at h
  unfold parX
  by_cases hf : Form s
  · rw [if_pos hf] at h ⊢
    by_cases hb : 4096 < nb (pv s s.size)
    · rw [if_pos hb] at h; omega
    · rw [if_neg hb]; exact text_back s hf
  · rw [if_neg hf] at h; omega
set_option maxRecDepth 100000 in
set_option maxHeartbeats 8000000 in
theorem parses_walk {w : World} (s : ByteArray) (htab : Tab w) :
    Calls Tryd.prog 4 #[.string s] w fun e w' => e = .returned (.bool true) ∧ Below w.heap.size w w' := by
  have hu29 := Tryd.underlying29
  have hB : Below w.heap.size w w := Below.refl _ _
  by_cases hg : 1500 < s.size
  · have d1 : decide ((s.size : Int) > 1500) = true := decide_eq_true (by omega)
    have d2 : decide (1500 < (s.size : Int)) = true := decide_eq_true (by omega)
    have d3 : decide (1500 < s.size) = true := decide_eq_true (by omega)
    go_enter Tryd.func4, Tryd.ntmps4
    go_wp2_with fail
    refine (awake_c htab).mono ?_
    rintro e w_1 ⟨rfl, hb⟩
    replace htab := htab.below hb
    replace hB := hB.trans (hb.mono hB.size)
    clear hb
    go_wp2
    go_ret
    exact ⟨rfl, hB⟩
  · have d1 : decide ((s.size : Int) > 1500) = false := decide_eq_false (by omega)
    have d2 : decide (1500 < (s.size : Int)) = false := decide_eq_false (by omega)
    have d3 : decide (1500 < s.size) = false := decide_eq_false (by omega)
    go_enter Tryd.func4, Tryd.ntmps4
    go_wp2_with fail
    obtain ⟨cc, hcc⟩ : ∃ c, parC s = c := ⟨_, rfl⟩
    have lX := parX_len s
    have lXD := len_BD lX
    have eX : ¬ cc = 0 → parX s = 0 := fun h => parX_zero s (by rw [hcc]; exact h)
    have eS : cc = 0 → decS (parX s) = s := fun h => par_text s (by rw [hcc]; exact h)
    have F := rparse_c (w := w) s (by omega)
    rw [hcc] at F
    refine (F).mono ?_
    rintro e w_1 ⟨zm, rfl, hzm, hb⟩
    replace htab := htab.below hb
    replace hB := hB.trans (hb.mono hB.size)
    clear hb
    clear F
    go_wp2_with fail
    have F := parse_c (w := w_1) s (by omega)
    rw [hcc] at F
    refine (F).mono ?_
    rintro e w_2 ⟨z_a, rfl, ha0, hb⟩
    replace htab := htab.below hb
    replace hzm := hzm.below hb
    replace hB := hB.trans (hb.mono hB.size)
    clear hb
    have ha := Kf.kw ha0
    clear ha0 F
    obtain ⟨X, hX⟩ : ∃ X, parX s = X := ⟨_, rfl⟩
    rw [hX] at ha hzm lX lXD eX eS
    clear hX hcc
    obtain ⟨A_3, n_3, c_3, rfl⟩ := ha.shape
    have hcs : (cc == cc) = true := beq_self_eq_true cc
    by_cases hc0 : cc = 0
    · subst hc0
      have hS := Aside0.mk (eS rfl)
      clear eX eS
      go_wp2_with fail
      have f_a := bx.new w_2 (.slice A_3 n_3 c_3)
      have hA_ := below_alloc (Below.refl w_2.heap.size w_2) (.cells #[(.slice A_3 n_3 c_3)] 29)
      replace htab := htab.below hA_
      replace hzm := hzm.below hA_
      replace ha := ha.below hA_
      replace hB := hB.trans (hA_.mono hB.size)
      clear hA_
      generalize w_2.alloc (.cells #[(.slice A_3 n_3 c_3)] 29) = w_4 at f_a htab hzm ha hB ⊢
      generalize w_2.heap.size = b_a at f_a ⊢
      refine (awake_c htab).mono ?_
      rintro e w_5 ⟨rfl, hb⟩
      replace htab := htab.below hb
      replace hzm := hzm.below hb
      replace ha := ha.below hb
      replace f_a := f_a.below hb
      replace hB := hB.trans (hb.mono hB.size)
      clear hb
      go_wp2_with (first | refine Cel.wpList_load_row_w rfl 29 _ rfl b_a rfl 29 #[(.slice A_3 n_3 c_3)] (0, 0) _ f_a hu29 rfl infoN ?_)
      have F := is_c ha hzm (by omega)
      rw [decide_eq_true rfl] at F
      refine (F).mono ?_
      rintro e w_6 ⟨rfl, hb⟩
      replace htab := htab.below hb
      replace hzm := hzm.below hb
      replace ha := ha.below hb
      replace f_a := f_a.below hb
      replace hB := hB.trans (hb.mono hB.size)
      clear hb
      clear F
      go_wp2_with (first | refine Cel.wpList_load_row_w rfl 29 _ rfl b_a rfl 29 #[(.slice A_3 n_3 c_3)] (0, 0) _ f_a hu29 rfl infoN ?_)
      have F := str_c ha (by omega) htab
      rw [hS.out] at F
      refine (F).mono ?_
      rintro e w_7 ⟨rfl, hb⟩
      replace htab := htab.below hb
      replace hzm := hzm.below hb
      replace ha := ha.below hb
      replace f_a := f_a.below hb
      replace hB := hB.trans (hb.mono hB.size)
      clear hb
      clear F
      go_wp2
      go_ret
      exact ⟨rfl, hB⟩
    · have X0 := eX hc0
      subst X0
      have hz0 : (cc == 0) = false := beq_eq_false_iff_ne.2 hc0
      clear eX eS
      go_wp2_with (first | refine Cel.wpList_load_row_w rfl 29 _ rfl w_2.heap.size rfl 29 #[(.slice A_3 n_3 c_3)] (0, 0) _ (bx.new w_2 _) hu29 rfl infoN ?_)
      have f_a := bx.new w_2 (.slice A_3 n_3 c_3)
      have hA_ := below_alloc (Below.refl w_2.heap.size w_2) (.cells #[(.slice A_3 n_3 c_3)] 29)
      replace htab := htab.below hA_
      replace hzm := hzm.below hA_
      replace ha := ha.below hA_
      replace hB := hB.trans (hA_.mono hB.size)
      clear hA_
      generalize w_2.alloc (.cells #[(.slice A_3 n_3 c_3)] 29) = w_4 at f_a htab hzm ha hB ⊢
      generalize w_2.heap.size = b_a at f_a ⊢
      have F := zero_c ha
      rw [decide_eq_true rfl] at F
      refine (F).mono ?_
      rintro e w_5 ⟨rfl, hb⟩
      replace htab := htab.below hb
      replace hzm := hzm.below hb
      replace ha := ha.below hb
      replace f_a := f_a.below hb
      replace hB := hB.trans (hb.mono hB.size)
      clear hb
      clear F
      go_wp2_with fail
      refine (awake_c htab).mono ?_
      rintro e w_6 ⟨rfl, hb⟩
      replace htab := htab.below hb
      replace hzm := hzm.below hb
      replace ha := ha.below hb
      replace f_a := f_a.below hb
      replace hB := hB.trans (hb.mono hB.size)
      clear hb
      go_wp2
      go_ret
      exact ⟨rfl, hB⟩
end Go.Proofs.YtgkdealidnidiaaDoor.Na
namespace Go.Proofs.YtgkdealidnidiaaDoor
open Go.RowKit
mutual
def flat : DataW Unit → List Value
  | .lit (.int k n) => [.int k n]
  | .agg parts => flats parts
  | _ => []
def flats : List (DataW Unit) → List Value
  | [] => []
  | d :: r => flat d ++ flats r
end
def layObj (d : DataW Unit) : Obj → Obj
  | .cells _ t fr => .cells (flat d).toArray t fr
  | o => o
noncomputable def laidWorld (os : Os) : World :=
  let w0 := World.holding Tryd.prog os ⟨#[], #[], []⟩
  { w0 with heap := ((w0.heap.modify 4 (layObj Rows.laid_math_bits_deBruijn32tab)).modify 5 (layObj Rows.laid_math_bits_deBruijn64tab)).modify 2 (layObj Rows.laid_internal_strconv_uint64pow10) }
theorem tab_of {W : World} (h : laidMetH Tryd.prog [("math/bits.deBruijn32tab", Rows.laid_math_bits_deBruijn32tab), ("math/bits.deBruijn64tab", Rows.laid_math_bits_deBruijn64tab), ("internal/strconv.uint64pow10", Rows.laid_internal_strconv_uint64pow10)] W) : Na.Tab W := by
  rw [MakeChecks.laidMetH_plain _ _ _ (by kernel_rfl)] at h
  have h2 := h.filter (fun x => x.1 == "internal/strconv.uint64pow10")
  have e : ([("math/bits.deBruijn32tab", Rows.laid_math_bits_deBruijn32tab), ("math/bits.deBruijn64tab", Rows.laid_math_bits_deBruijn64tab), ("internal/strconv.uint64pow10", Rows.laid_internal_strconv_uint64pow10)] : List (String × DataW Unit)).filter (fun x => x.1 == "internal/strconv.uint64pow10") = [("internal/strconv.uint64pow10", Lib.tabData .u64 Lib.pow10Tab)] := by kernel_rfl
  rw [e] at h2
  exact Lib.tabIs_of_head (g := 2) (t := 161) (e := 40) (n := 20) (by kernel_rfl) (by kernel_rfl) Tryd.underlying161 Tryd.underlying40 (by kernel_rfl) (by kernel_rfl) h2
end Go.Proofs.YtgkdealidnidiaaDoor
