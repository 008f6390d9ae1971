/- Texts of the seat, as far as the row needs them. -/
import Derived.ArgAppend
import Derived.Below
import Derived.BigQuiet
import Derived.ChangeArms
import Derived.ChangeSlices
import Derived.DataReads
import Derived.Deep.AppendLies
import Derived.Deep.CutBlock
import Derived.Deep.DeepCutAuto
import Derived.Deep.Draws
import Derived.Deep.Light
import Derived.Deep.LoopGhost
import Derived.Deep.OwnRows
import Derived.Deep.QuietTactic
import Derived.Deep.RegionHeld3
import Derived.Ground.Names2Prog
import Derived.KernelRfl
import Derived.LaidMore
import Derived.LaidSub
import Derived.Laws.AppendOwn
import Derived.Laws.BitsAllLaws
import Derived.Laws.BitsLemmas
import Derived.Laws.BytesArg
import Derived.Laws.CopyOwn
import Derived.Laws.Externs
import Derived.Laws.IdiomCopy
import Derived.Laws.MakeOwn
import Derived.Laws.OwnMore
import Derived.Laws.ResultCell
import Derived.Laws.Rows
import Derived.Laws.Slices
import Derived.Laws.StructEq
import Derived.Laws.Tables
import Derived.Lib.AppendIntMem
import Derived.Lib.AppendStr
import Derived.Lib.BitFns
import Derived.Lib.ConvBytes
import Derived.Lib.ItoaMem
import Derived.Lib.Join
import Derived.Lib.LazyBuf
import Derived.Lib.OwnBridge
import Derived.Lib.Repeat
import Derived.Lib.SliceRun
import Derived.Lib.SmallJoins
import Derived.Lib.Strings
import Derived.Lib.Walk
import Derived.MakeChecks
import Derived.Maps.AppendAt
import Derived.OrdersHeld
import Derived.Outline
import Derived.OwnWalk
import Derived.ProofKit
import Derived.RowKit
import Derived.RowKit3
import Derived.Shelf.Bits.Mul64
import Derived.Shelf.LaysM
import Derived.Shelf.Slices.Cells
import Derived.Shelf.Slices.CompactI
import Derived.Shelf.Slices.ReverseS
import Derived.Shelf.Small.Bits
import Derived.Shelf.Spec.BitsCarry
import Derived.Shelf.Strconv.Itoa0
import Derived.Shelf.Strconv.Itoa1
import Derived.Shelf.Strconv.Itoa2
import Derived.Shelf.Strings.Builder1
import Derived.Shelf.Strings.Builder2
import Derived.Shelf.Strings.Builder2Cap
import Derived.Shelf.Strings.BuilderCap
import Derived.Shelf.Strings.BuilderF
import Derived.Shelf.Strings.BuilderK
import Derived.Shelf.Strings.OnBuilder
import Derived.Shelf.Strings.Prefix
import Derived.Shelf.Strings.Repeat
import Derived.StillTailTactics
import Derived.Tactics
import Derived.Test.YtgkdealidnidiaaDoorProg
import Derived.Test.YtgkdealidnidiaaDoorRows
import Derived.WalkKit
import Derived.WideLaws
import Derived.WideShapes
import Derived.Test.YtgkdealidnidiaaDoorQNatReads0
import Derived.Test.YtgkdealidnidiaaDoorQNatReads1
import Derived.Test.YtgkdealidnidiaaDoorQNatReads2
import Derived.Test.YtgkdealidnidiaaDoorQNatReads3
set_option linter.unusedVariables false
set_option linter.unusedSimpArgs false
namespace Go.Proofs.YtgkdealidnidiaaDoor.Na
def padK : Nat → Nat → List UInt8
  | 0, _ => []
  | k + 1, r => padK k (r / 10) ++ [UInt8.ofNat (48 + r % 10)]
theorem padK_len : ∀ k r, (padK k r).length = k
  | 0, _ => rfl
  | k + 1, r => by rw [padK, List.length_append, padK_len k]; rfl
theorem padK_zero : ∀ k, padK k 0 = List.replicate k 48
  | 0 => rfl
  | k + 1 => by rw [padK, Nat.zero_div, padK_zero k, List.replicate_succ', Nat.zero_mod]; rfl
theorem dec_split : ∀ (k q r : Nat), 0 < q → r < 10 ^ k → Lib.decDigits (q * 10 ^ k + r) = Lib.decDigits q ++ padK k r
  | 0, q, r, hq, hr => by
    obtain rfl : r = 0 := by rw [Nat.pow_zero] at hr; omega
    simp [padK]
  | k + 1, q, r, hq, hr => by
    have hp : 10 ^ (k + 1) = 10 ^ k * 10 := Nat.pow_succ ..
    rw [hp] at hr ⊢
    have h1 : (q * (10 ^ k * 10) + r) / 10 = q * 10 ^ k + r / 10 := by
      rw [← Nat.mul_assoc, Nat.mul_comm _ 10, Nat.mul_add_div (by decide)]
    have h2 : (q * (10 ^ k * 10) + r) % 10 = r % 10 := by
      rw [← Nat.mul_assoc, Nat.mul_comm _ 10, Nat.mul_add_mod]
    have hpos : 0 < 10 ^ k := Nat.pow_pos (by decide)
    have hge : 1 * 10 ^ k ≤ q * 10 ^ k := Nat.mul_le_mul_right _ hq
    have h3 : ¬ q * (10 ^ k * 10) + r < 10 := by
      rw [← Nat.mul_assoc]; omega
    rw [Lib.decDigits, dif_neg h3, h1, h2, dec_split k q (r / 10) hq (by omega), padK, List.append_assoc]
theorem padK_dec : ∀ (k r : Nat), r < 10 ^ (k + 1) → padK (k + 1) r = List.replicate (k + 1 - (Lib.decDigits r).length) 48 ++ Lib.decDigits r
  | 0, r, hr => by
    have h : r < 10 := by simpa using hr
    rw [Lib.decDigits_one h, padK, padK, Nat.mod_eq_of_lt h]; rfl
  | k + 1, r, hr => by
    by_cases h : r < 10
    · rw [Lib.decDigits_one h, padK, Nat.div_eq_of_lt h, padK_zero, Nat.mod_eq_of_lt h]; rfl
    · have hd : r / 10 < 10 ^ (k + 1) := by rw [Nat.pow_succ] at hr; omega
      have e : Lib.decDigits r = Lib.decDigits (r / 10) ++ [UInt8.ofNat (48 + r % 10)] := by
        rw [Lib.decDigits, dif_neg h]
      rw [padK, padK_dec k (r / 10) hd, e, List.length_append, List.length_singleton, List.append_assoc]
      congr 2
      omega
theorem dec_len_le (k r : Nat) (hr : r < 10 ^ (k + 1)) : (Lib.decDigits r).length ≤ k + 1 := by
  have h := congrArg List.length (padK_dec k r hr)
  rw [padK_len, List.length_append, List.length_replicate] at h
  omega
def D19 : Nat := 10000000000000000000
theorem D19_eq : D19 = 10 ^ (18 + 1) := by decide
theorem div19_lt {n : Nat} (h : ¬ n = 0) : n / D19 < n := Nat.div_lt_self (by omega) (by decide)
def part (n : Nat) : List UInt8 := if n / D19 = 0 then Lib.decDigits (n % D19) else List.replicate (19 - (Lib.decDigits (n % D19)).length) 48 ++ Lib.decDigits (n % D19)
def partsOf (n : Nat) : List (List UInt8) := if h : n = 0 then [] else part n :: partsOf (n / D19)
termination_by n
decreasing_by exact div19_lt h
theorem parts_zero : partsOf 0 = [] := by rw [partsOf, dif_pos rfl]
theorem parts_step {n : Nat} (h : 0 < n) : partsOf n = part n :: partsOf (n / D19) := by rw [partsOf, dif_neg (by omega)]
theorem parts_text : ∀ (k n : Nat), n < k → 0 < n → (partsOf n).reverse.flatten = Lib.decDigits n
  | 0, n, h, _ => by omega
  | k + 1, n, h, h0 => by
    rw [parts_step h0, List.reverse_cons, List.flatten_append]
    have e1 : ([part n] : List (List UInt8)).flatten = part n := by simp
    rw [e1]
    unfold part
    by_cases hq : n / D19 = 0
    · rw [if_pos hq, hq, parts_zero]
      have : n < D19 := (Nat.div_eq_zero_iff.1 hq).resolve_left (by decide)
      rw [Nat.mod_eq_of_lt this]; simp
    · have hlt := div19_lt (n := n) (by omega)
      rw [if_neg hq, parts_text k (n / D19) (Nat.lt_of_lt_of_le hlt (by omega)) (Nat.pos_of_ne_zero hq)]
      have hm : n % D19 < 10 ^ (18 + 1) := by rw [← D19_eq]; exact Nat.mod_lt _ (by decide)
      rw [← padK_dec 18 _ hm, ← dec_split (18 + 1) (n / D19) (n % D19) (Nat.pos_of_ne_zero hq) hm, ← D19_eq]
      congr 1
      have := Nat.div_add_mod n D19
      rw [Nat.mul_comm]; exact this
theorem parts_dec {n : Nat} (h : 0 < n) : (partsOf n).reverse.flatten = Lib.decDigits n := parts_text (n + 1) n (by omega) h
theorem parts_len : ∀ (k n : Nat), n < 2 ^ k → (partsOf n).length ≤ k
  | 0, n, h => by
    obtain rfl : n = 0 := by simpa using h
    rw [parts_zero]; exact Nat.le_refl _
  | k + 1, n, h => by
    rcases Nat.eq_zero_or_pos n with h0 | h0
    · subst h0; rw [parts_zero]; exact Nat.zero_le _
    · rw [parts_step h0, List.length_cons]
      have : n / D19 < 2 ^ k := by
        have h1 : n / D19 ≤ n / 2 := Nat.div_le_div_left (by decide) (by decide)
        rw [Nat.pow_succ] at h; omega
      have := parts_len k (n / D19) this
      omega
theorem join_flat (xs : List (List UInt8)) : Lib.join xs [] = xs.flatten := by
  unfold Lib.join List.intercalate
  induction xs with
  | nil => rfl
  | cons a t ih =>
    cases t with
    | nil => rfl
    | cons b r => simp only [List.intersperse, List.flatten_cons, List.nil_append] at ih ⊢; rw [ih]
end Go.Proofs.YtgkdealidnidiaaDoor.Na
namespace Go.Proofs.YtgkdealidnidiaaDoor.Cel
open Go.RowKit
section
variable {P : Program}
theorem end_cell {fn : Func} {p u : Tmp} {ty : TypeId} {d : TypeDesc} (h : fn.results = #[.cell p ty, .tmp u]) (tmps : Array Value) (U : World) (b : Nat) (cells old : Array Value) (hZ : U.heap[b]? = some (.cells old ty (0, 0)))
    (hp : tmps.getD p undef = .pointer (some ⟨b, 0, none⟩)) (hu : P.underlying ty = some d) (hd : (match d with | .struct _ | .array _ _ => true | _ => false) = true) (hi : (P.info? ty).map (·.size) = some cells.size) :
    (results fn tmps).run P (U.setRow b cells) = .ok (.tuple #[.agg cells, tmps.getD u undef]) (U.setRow b cells) := by
  have hR := setRow_heap U b old cells ty (0, 0) hZ
  rw [results_cell_tmp h, hp]
  simp [asAddr, run_loadVar_row _ _ ty ty _ (0, 0) _ hR hu hd hi]
theorem wpList_load_row_w {ops : Array Oper} {rest : List Oper} {o : Oper} {a : Act} {w : World} {Q : Exit → Act → World → Prop} (hw : Region.wanted o (yielded ops a.tmps) = true) (ty : TypeId) (x : Operand) (ho : o.op = .load ty x)
    (g : Nat) (hx : a.eval x = .pointer (some ⟨g, 0, none⟩)) (t : TypeId) (cs : Array Value) (fr : Nat × Nat) (d : TypeDesc) (hg : w.heap[g]? = some (.cells cs t fr))
    (hu : P.underlying ty = some d) (hd : (match d with | .struct _ | .array _ _ => true | _ => false) = true) (hi : (P.info? ty).map (·.size) = some cs.size)
    (h : wpList P ops Q rest (a.put o.dst (.agg cs)) w) : wpList P ops Q (o :: rest) a w :=
  wpList_step fun _ hK => by rw [if_pos hw]; exact wp_load_row ty x ho g hx t cs fr d hg hu hd hi (hK _ _ h)
end
end Go.Proofs.YtgkdealidnidiaaDoor.Cel
namespace Go.Proofs.YtgkdealidnidiaaDoor.Na
open Go.RowKit Go.Proofs.YtgkdealidnidiaaDoorW.PrintWords Go.Proofs.YtgkdealidnidiaaDoorW.PrintLast Go.Proofs.YtgkdealidnidiaaDoorW.PrintMore Go.Proofs.YtgkdealidnidiaaDoor.Dg
set_option linter.unusedSimpArgs false
set_option linter.unusedVariables false
theorem Tab.below {w w' : World} (h : Tab w) (hb : Below w.heap.size w w') : Tab w' := by
  unfold Tab Lib.TabIs World.var? at *
  cases hg : Tryd.prog.globalNamed "internal/strconv.uint64pow10" with
  | none => simp [hg] at h
  | some g =>
    simp only [hg, Option.bind_some] at h ⊢
    have hlt : g < w.heap.size := by
      rcases Nat.lt_or_ge g w.heap.size with h' | h'
      · exact h'
      · rw [Array.getElem?_eq_none h'] at h; simp at h
    rw [hb.block g hlt]; exact h
def bs (l : List UInt8) : ByteArray := ⟨l.toArray⟩
theorem bs_data (l : List UInt8) : (bs l).data.toList = l := by simp [bs]
theorem bs_size (l : List UInt8) : (bs l).size = l.length := by simp [bs, ByteArray.size]
theorem bs_dec (n : Nat) : bs (Lib.decDigits n) = decS n := rfl
theorem map_bs (zs : List (List UInt8)) : zs.map Proofs.encStr = (zs.map bs).map Value.string := by
  simp [List.map_map, bs, Function.comp_def]
theorem turn_c {w0 w : World} {N : Nat} {v : Value} {zs : List (List UInt8)} (h : w.ownsRow N 9 1 v zs.length (zs.map Proofs.encStr)) (hne : v ≠ .slice none 0 0) (hB : Below N w0 w) :
    Calls Tryd.prog 71 #[v] w fun e w' => e = .returned (.tuple #[]) ∧ w'.ownsRow N 9 1 v zs.length (zs.reverse.map Proofs.encStr) ∧ Below N w0 w' := by
  obtain ⟨g, cap, rfl, hbg, hgl, hnc, hcm, hlen, hH⟩ := Lib.holds_of_ownsRow h hne
  refine (Tryd.slices_Reverse_string g 0 cap zs w hH (by unfold maxLen at hcm; omega)).mono ?_
  rintro e w' ⟨rfl, n, rfl⟩
  have h1 := Lib.ownsRow_putRow (q := n) (ys := zs.reverse) h (by simp) (Nat.le_refl _)
  rw [List.take_of_length_le (by simp)] at h1
  exact ⟨rfl, h1, Lib.below_putRow hB hbg⟩
theorem join_c {w : World} {N : Nat} {v : Value} {zs : List (List UInt8)} (h : w.ownsRow N 9 1 v zs.length (zs.map Proofs.encStr)) (hne : v ≠ .slice none 0 0) (hl : zs.flatten.length ≤ 140737488355328) (hz : zs.length ≤ 140737488355328) :
    Calls Tryd.prog 72 #[v, .string ⟨#[]⟩] w fun e w' => e = .returned (.string (bs zs.flatten)) ∧ Below w.heap.size w w' := by
  obtain ⟨g, cap, rfl, hbg, hgl, hnc, hcm, hlen, hH⟩ := Lib.holds_of_ownsRow h hne
  have e1 : (zs.map bs).map (·.data.toList) = zs := by simp [List.map_map, Function.comp_def, bs]
  have H := Tryd.strings_Join g 0 cap (zs.map bs) ⟨#[]⟩ w (fun j x hj => by
    have hj' : j < zs.length := by
      rcases Nat.lt_or_ge j zs.length with h' | h'
      · exact h'
      · rw [List.getElem?_eq_none (by simpa using h')] at hj; cases hj
    have := (hH j (by simpa using hj')).1
    rw [this]
    rw [List.getElem?_map, List.getElem?_eq_getElem hj'] at hj
    obtain rfl := Option.some.inj hj
    simp [hj', bs]) hgl (by simpa using hz) (by simpa using hnc) (by rw [e1, join_flat]; exact hl)
  rw [e1, join_flat, List.length_map] at H
  exact H
theorem rep0_c {w : World} (c : Nat) (hc : c ≤ 19) :
    Calls Tryd.prog 70 #[.string ⟨#[48]⟩, .int .i64 (c : Int)] w fun e w' => e = .returned (.string (bs (List.replicate c 48))) ∧ Below w.heap.size w w' := by
  have H := Tryd.strings_Repeat ⟨#[48]⟩ c w (by omega) (by show 1 * c ≤ _; omega)
  refine H.mono ?_
  rintro e w' ⟨rfl, hb⟩
  refine ⟨?_, hb⟩
  have := Lib.repeatL_replicate 48 1 c
  simp only [List.replicate_one, Nat.mul_one] at this
  simp only [bs]
  rw [this]
theorem divs19_c {w : World} {u : Value} {x : Nat} (h1 : Nw w u x) (hx : (wd BW x).length ≤ 1000000) : Calls Tryd.prog 67 #[u, .int .u64 10000000000000000000] w fun e w' => ∃ z q, e = .returned (.tuple #[z, .int .u64 ((x % D19 : Nat) : Int)]) ∧ Kf .u64 w.heap.size w' z q ∧ R BW q ∧ q.length = (wd BW x).length ∧ V BW q = ((x / D19 : Nat) : Int) ∧ Below w.heap.size w w' :=
  divs_c h1 hx D19 (by decide) (by decide)
theorem part_eq (n : Nat) : bs (part n) = if n / D19 = 0 then decS (n % D19) else bs (List.replicate (19 - (decS (n % D19)).size) 48) ++ decS (n % D19) := by
  have hs : (decS (n % D19)).size = (Lib.decDigits (n % D19)).length := bs_size _
  unfold part
  split
  · rfl
  · apply ba_ext
    rw [ba_append, bs_data, bs_data, decS_data, hs]
theorem dec19 (n : Nat) : (decS (n % D19)).size ≤ 19 := by
  have hm : n % D19 < 10 ^ (18 + 1) := by rw [← D19_eq]; exact Nat.mod_lt _ (by decide)
  have := dec_len_le 18 _ hm
  rw [show (decS (n % D19)).size = (Lib.decDigits (n % D19)).length from bs_size _]
  exact this
theorem infoS : (Tryd.prog.info? 9).map (fun i => (i.zero, i.size, i.bytes)) = some (some (.string ⟨#[]⟩), Kd.string.sz, 16) := by kernel_rfl
theorem run_field29 (v : Value) (w : World) : (Instr.field 29 (.agg #[v]) 0).run Tryd.prog w = .ok v w := by
  have hu29 := Tryd.underlying29
  have hu22 : Tryd.prog.underlying 22 = some (.slice 40) := Tryd.underlying22
  unfold Instr.field
  go_simp
  simp [asAgg]
theorem dec_zero : decS 0 = ⟨#[48]⟩ := by
  apply ba_ext
  rw [decS_data, decD_small (by omega)]; rfl
theorem dec_bound (x : Nat) : (Lib.decDigits x).length ≤ 20 * (wd BW x).length + 1 := by
  have h1 : x < BW ^ (wd BW x).length := (len_le_iff (by decide) _).1 (Nat.le_refl _)
  have h2 : BW ^ (wd BW x).length ≤ (10 ^ 20) ^ (wd BW x).length := Nat.pow_le_pow_left (by decide) _
  rw [← Nat.pow_mul] at h2
  have h3 : 10 ^ (20 * (wd BW x).length) ≤ 10 ^ (20 * (wd BW x).length + 1) := Nat.pow_le_pow_right (by decide) (by omega)
  exact dec_len_le _ x (Nat.lt_of_lt_of_le h1 (Nat.le_trans h2 h3))
theorem parts_bound (x : Nat) : (partsOf x).length ≤ 64 * (wd BW x).length := by
  have h1 : x < BW ^ (wd BW x).length := (len_le_iff (by decide) _).1 (Nat.le_refl _)
  rw [pow64] at h1
  exact parts_len _ x h1
set_option maxRecDepth 100000 in
set_option maxHeartbeats 4000000 in
theorem str_c {w : World} {u : Value} {x : Nat} (h1 : Nw w u x) (hx : (wd BW x).length ≤ 10000) (htab : Tab w) :
    Calls Tryd.prog 23 #[.agg #[u]] w fun e w' => e = .returned (.string (decS x)) ∧ Below w.heap.size w w' := by
  have hu29 := Tryd.underlying29
  have hu22 := Tryd.underlying22
  obtain ⟨A1, c1, rfl, hc1, hC1⟩ := h1
  have h1 : Nw w (.slice A1 (wd BW x).length c1) x := ⟨A1, c1, rfl, hc1, hC1⟩
  clear hC1 hc1
  obtain ⟨n1, en1⟩ : ∃ n, (wd BW x).length = n := ⟨_, rfl⟩
  rw [en1] at h1 ⊢
  go_enter Tryd.func23, Tryd.ntmps23
  go_wp2_with fail
  have hV0 : Kd.V (Kd.int .u64) 0 (w.alloc (Obj.cells #[Value.slice A1 n1 c1] 29)) 0 (fun i => True ∧ some i ≠ (Value.slice none 0 0).ownBlock) (.slice A1 n1 c1) (wd BW x) := Kd.V_apart_nil (Kd.V_mono (Kd.V_below (h1.V 0 0) (below_alloc (Below.refl _ _) _)) (fun i hi => trivial))
  have hB0 : Below w.heap.size w (w.alloc (Obj.cells #[Value.slice A1 n1 c1] 29)) := below_alloc (Below.refl _ _) _
  generalize w.alloc (Obj.cells #[Value.slice A1 n1 c1] 29) = W at hV0 hB0 ⊢
  rw [← en1] at hV0 ⊢
  clear en1 h1
  go_loopg [3, 4] x (fun k s3 s4 wr => ∃ zs : List (List UInt8), Aside0 (zs ++ partsOf k = partsOf x) ∧ Aside0 (k ≤ x) ∧ Aside0 (Kd.R Kd.string 9 wr w.heap.size (fun i => w.heap.size ≤ i) s3 (zs.map bs)) ∧ Aside0 (Kd.V (Kd.int .u64) 0 wr 0 (fun i => True ∧ some i ≠ s3.ownBlock) s4 (wd BW k)) ∧ Aside0 (Below w.heap.size w wr))
  case atStart => exact ⟨[], ⟨rfl⟩, ⟨Nat.le_refl _⟩, ⟨Kd.R_nil _ _ _ _ _⟩, ⟨hV0⟩, ⟨hB0⟩⟩
  case round =>
    clear hV0 hB0
    obtain ⟨zs, HZ, HK, HO, HV, HB⟩ := hrel
    obtain ⟨A4, c4, rfl⟩ := Kd.V_slice HV.out
    by_cases hk : gk = 0
    · subst hk
      rw [wd_zero] at HV ⊢
      obtain ⟨A3, c3, rfl⟩ := Kd.R_slice HO.out
      rw [parts_zero, List.append_nil] at HZ
      rw [List.length_map] at HO HV ⊢
      by_cases hz : zs.length = 0
      · have hd : ((zs.length : Int) == 0) = true := beq_iff_eq.2 (by omega)
        have HX := Aside0.mk hz
        clear hz
        go_wp2_with fail
        go_ret
        refine ⟨?_, HB.out⟩
        have h0 := HX.out
        rw [HZ.out] at h0
        have : x = 0 := by
          rcases Nat.eq_zero_or_pos x with h | h
          · exact h
          · rw [parts_step h] at h0; simp at h0
        subst this
        rw [dec_zero]
        rfl
      · have hd : ((zs.length : Int) == 0) = false := beq_eq_false_iff_ne.2 (by omega)
        have HX := Aside0.mk hz
        clear hz
        go_wp2_with fail
        have hx0 : 0 < x := by
          rcases Nat.eq_zero_or_pos x with h | h
          · exfalso; apply HX.out; rw [HZ.out, h, parts_zero]; rfl
          · exact h
        have ho := Kd.own_of_R HO.out
        rw [List.length_map] at ho
        have ho' : wr.ownsRow w.heap.size 9 1 (.slice A3 zs.length c3) zs.length (zs.map Proofs.encStr) := by
          rw [map_bs]; exact ho
        have hne : Value.slice A3 zs.length c3 ≠ .slice none 0 0 := by
          intro h; injection h with _ h _; exact HX.out h
        refine (turn_c ho' hne HB.out).mono ?_
        rintro e w1 ⟨rfl, ho1, hB1⟩
        go_wp2_with fail
        have hz1 : zs.reverse.flatten = Lib.decDigits x := by rw [HZ.out]; exact parts_dec hx0
        have hb1 := dec_bound x
        have hb2 := parts_bound x
        rw [← HZ.out] at hb2
        have J := join_c (zs := zs.reverse) (by rw [List.length_reverse]; exact ho1) hne (by rw [hz1]; omega) (by rw [List.length_reverse]; omega)
        rw [hz1, bs_dec] at J
        refine J.mono ?_
        rintro e w2 ⟨rfl, hb⟩
        go_wp2
        go_ret
        exact ⟨rfl, hB1.trans (hb.mono hB1.size)⟩
    · have hl : 0 < (wd BW gk).length := by
        rcases Nat.eq_zero_or_pos (wd BW gk).length with h | h
        · exact absurd (List.length_eq_zero_iff.1 h) (wd_ne (by decide) (Nat.pos_of_ne_zero hk))
        · exact h
      have HL := len_mono (b := BW) (x := gk) (y := x) (by decide) HK.out
      have hN : Nw wr (.slice A4 (wd BW gk).length c4) gk := Kw.ofV HV.out
      obtain ⟨n4, en4⟩ : ∃ n, (wd BW gk).length = n := ⟨_, rfl⟩
      rw [en4] at hl hN HV HL ⊢
      have d1 : decide ((n4 : Int) > 0) = true := decide_eq_true (by omega)
      have d2 : decide (0 < (n4 : Int)) = true := decide_eq_true (by omega)
      have d3 : decide (0 < n4) = true := decide_eq_true (by omega)
      have HN := Aside0.mk hN
      have EN := Aside0.mk en4
      clear hl en4 hN
      have hxl : (wd BW gk).length ≤ 10000 := by rw [EN.out]; omega
      have HXL := Aside0.mk hxl
      clear hxl
      go_wp2_with fail
      refine (divs19_c HN.out (by have := HXL.out; omega)).mono ?_
      rintro e w1 ⟨q, Q, rfl, hq, hqR, hql, hqV, hb⟩
      have hB1 := HB.out.trans (hb.mono HB.out.size)
      have hO1 := Kd.R_below HO.out hb
      have HQ := Aside0.mk (show R BW Q ∧ Q.length = (wd BW gk).length ∧ V BW Q = ((gk / D19 : Nat) : Int) from ⟨hqR, hql, hqV⟩)
      obtain ⟨m, hm⟩ : ∃ m, gk % D19 = m := ⟨_, rfl⟩
      have hm64 : m < 18446744073709551616 := by rw [← hm]; exact Nat.lt_of_lt_of_le (Nat.mod_lt _ (by decide)) (by decide)
      rw [hm]
      have HM := Aside0.mk hm
      have HN1 := Aside0.mk (show wr.heap.size ≤ w1.heap.size from hb.size)
      have hZL : zs.length ≤ 640000 := by
        have h1 := congrArg List.length HZ.out
        rw [List.length_append] at h1
        have h2 := parts_bound x
        omega
      have HZL := Aside0.mk hZL
      have HP0 := Aside0.mk (part_eq gk)
      rw [hm] at HP0
      have hd19 := dec19 gk
      rw [hm] at hd19
      clear HB HV HN hqR hql hqV hm hZL
      have HO0 := HO
      clear HO
      clear hb
      go_wp2_with fail
      refine (norm_c (n := gk / D19) HN1.out hq HQ.out.1 HQ.out.2.2 (by rw [HQ.out.2.1]; have := HXL.out; omega)).mono ?_
      rintro e w2 ⟨z, rfl, hz, hb⟩
      have hB2 := hB1.trans (hb.mono hB1.size)
      have hO2 := Kd.R_below hO1 hb
      obtain ⟨A5, c5, rfl⟩ := Kd.V_slice hz
      obtain ⟨n5, en5⟩ : ∃ n, (wd BW (gk / D19)).length = n := ⟨_, rfl⟩
      rw [en5] at hz ⊢
      have E5 := Aside0.mk en5
      clear hq hB1 hO1 HQ hb en5
      have hfd := run_field29 (.slice A5 n5 c5) w2
      go_wp2_with fail
      refine (fmt_c m hm64 (htab.below hB2)).mono ?_
      rintro e w3 ⟨rfl, hb⟩
      have hB3 := hB2.trans (hb.mono hB2.size)
      have hO3 := Kd.R_below hO2 hb
      have hz3 := Kd.V_below hz hb
      clear hz hB2 hO2 hb
      by_cases hq0 : gk / D19 = 0
      · have e5 : n5 = 0 := by rw [← E5.out, hq0, wd_zero]; rfl
        have e1 : decide ((n5 : Int) > 0) = false := decide_eq_false (by omega)
        have e2 : decide (0 < (n5 : Int)) = false := decide_eq_false (by omega)
        have e3 : decide (0 < n5) = false := decide_eq_false (by omega)
        obtain ⟨P, hP⟩ : ∃ P, decS m = P := ⟨_, rfl⟩
        have HP : Aside0 (P = bs (part gk)) := ⟨by rw [HP0.out, if_pos hq0, hP]⟩
        rw [hP]
        have hO4 := hO3
        have hB4 := hB3
        have HQ0 := Aside0.mk hq0
        clear hO3 hB3 hq0 e5 hP
        have hVz : Kd.V (Kd.int .u64) 0 w3 0 (fun i => True ∧ some i ≠ u3.ownBlock) (.slice A5 n5 c5) (wd BW (gk / D19)) := Kd.V_mono hz3 (fun i hi => ⟨trivial, fun h => by have := (Kd.R_bound HO0.out).1 i h.symm; omega⟩)
        have hL0 := HZL.out
        have hLen : ((zs.map bs).length + 1) * 16 ≤ 140737488355328 := by rw [List.length_map]; omega
        go_wp2_with (first | ((with_reducible refine gate_builtin (b := .append) (xs := #[.tmp 32, .tmp 34]) rfl ?_); at_builtin; refine Kd.R_append Kd.string (w0 := w) w.heap.size rfl (.tmp 32) (.tmp 34) 96 9 (.string ⟨#[]⟩) 16 rfl Tryd.underlying96 infoS rfl (by decide) (by omega) u3 (zs.map bs) P [.string P] (fun k_ => w.heap.size ≤ k_) (fun _ => False) rfl rfl (show Kd.M Kd.string _ _ _ P [.string P] from rfl) (fun _ hk => hk.elim) (fun k_ hk => Nat.le_trans hB4.size hk) hO4 hB4 hB4.size hLen ?_; intro v1 w5 ho5 hb5 hg5 hat5; have HO5 := Aside0.mk ho5; have HB5 := Aside0.mk hb5; have HG5 := Aside0.mk hg5; have HA5 := Aside0.mk hat5; clear ho5 hb5 hg5 hat5))
        go_roundg (gk / D19)
        case measure => exact div19_lt hk
        case rel =>
          refine ⟨zs ++ [part gk], ⟨?_⟩, ⟨?_⟩, ⟨?_⟩, ⟨?_⟩, ⟨HB5.out⟩⟩
          · rw [← HZ.out, parts_step (Nat.pos_of_ne_zero hk), List.append_assoc]; rfl
          · exact Nat.le_trans (Nat.div_le_self _ _) HK.out
          · rw [List.map_append, List.map_cons, List.map_nil, ← HP.out]; exact HO5.out
          · exact Kd.V_after hVz HG5.out HA5.out
      · have e5 : 0 < n5 := by
          rw [← E5.out]
          rcases Nat.eq_zero_or_pos (wd BW (gk / D19)).length with h | h
          · exact absurd (List.length_eq_zero_iff.1 h) (wd_ne (by decide) (Nat.pos_of_ne_zero hq0))
          · exact h
        have e1 : decide ((n5 : Int) > 0) = true := decide_eq_true (by omega)
        have e2 : decide (0 < (n5 : Int)) = true := decide_eq_true (by omega)
        have e3 : decide (0 < n5) = true := decide_eq_true (by omega)
        obtain ⟨s1, hs1⟩ : ∃ s, (decS m).size = s := ⟨_, rfl⟩
        have hsub : IntKind.i64.wrap (19 - ((decS m).size : Int)) = ((19 - s1 : Nat) : Int) := by rw [IntKind.wrap_i64]; omega
        have HQ0 := Aside0.mk hq0
        clear hq0 e5
        go_wp2_with fail
        have J := rep0_c (w := w3) (19 - s1) (by omega)
        rw [show ((19 - s1 : Nat) : Int) = 19 - (s1 : Int) by omega] at J
        refine J.mono ?_
        rintro e w4 ⟨rfl, hb⟩
        have hO4 := Kd.R_below hO3 hb
        have hB4 := hB3.trans (hb.mono hB3.size)
        have hz4 := Kd.V_below hz3 hb
        obtain ⟨X, hX⟩ : ∃ X, bs (List.replicate (19 - s1) 48) = X := ⟨_, rfl⟩
        have hXs : X.size = 19 - s1 := by rw [← hX, bs_size, List.length_replicate]
        obtain ⟨Y, hY⟩ : ∃ Y, decS m = Y := ⟨_, rfl⟩
        have HP1 : Aside0 (bs (part gk) = X ++ Y) := ⟨by rw [HP0.out, if_neg HQ0.out, hs1, hX, hY]⟩
        have hYs : Y.size ≤ 19 := by rw [← hY]; exact hd19
        rw [hX]
        rw [hY] at hs1 ⊢
        have hsz : X.size + Y.size ≤ 9223372036854775807 := by omega
        obtain ⟨P, hP⟩ : ∃ P, X ++ Y = P := ⟨_, rfl⟩
        have HP : Aside0 (P = bs (part gk)) := ⟨by rw [HP1.out, hP]⟩
        clear J hb hX hY hXs hYs hs1 hsub hO3 hB3 hz3 HP0 hd19
        have hVz : Kd.V (Kd.int .u64) 0 w4 0 (fun i => True ∧ some i ≠ u3.ownBlock) (.slice A5 n5 c5) (wd BW (gk / D19)) := Kd.V_mono hz4 (fun i hi => ⟨trivial, fun h => by have := (Kd.R_bound HO0.out).1 i h.symm; omega⟩)
        have hL0 := HZL.out
        have hLen : ((zs.map bs).length + 1) * 16 ≤ 140737488355328 := by rw [List.length_map]; omega
        go_wp2_with (first | ((with_reducible refine gate_builtin (b := .append) (xs := #[.tmp 32, .tmp 34]) rfl ?_); at_builtin; refine Kd.R_append Kd.string (w0 := w) w.heap.size rfl (.tmp 32) (.tmp 34) 96 9 (.string ⟨#[]⟩) 16 rfl Tryd.underlying96 infoS rfl (by decide) (by omega) u3 (zs.map bs) P [.string P] (fun k_ => w.heap.size ≤ k_) (fun _ => False) rfl rfl (show Kd.M Kd.string _ _ _ P [.string P] from rfl) (fun _ hk => hk.elim) (fun k_ hk => Nat.le_trans hB4.size hk) hO4 hB4 hB4.size hLen ?_; intro v1 w5 ho5 hb5 hg5 hat5; have HO5 := Aside0.mk ho5; have HB5 := Aside0.mk hb5; have HG5 := Aside0.mk hg5; have HA5 := Aside0.mk hat5; clear ho5 hb5 hg5 hat5))
        go_roundg (gk / D19)
        case measure => exact div19_lt hk
        case rel =>
          refine ⟨zs ++ [part gk], ⟨?_⟩, ⟨?_⟩, ⟨?_⟩, ⟨?_⟩, ⟨HB5.out⟩⟩
          · rw [← HZ.out, parts_step (Nat.pos_of_ne_zero hk), List.append_assoc]; rfl
          · exact Nat.le_trans (Nat.div_le_self _ _) HK.out
          · rw [List.map_append, List.map_cons, List.map_nil, ← HP.out]; exact HO5.out
          · exact Kd.V_after hVz HG5.out HA5.out
end Go.Proofs.YtgkdealidnidiaaDoor.Na
namespace Go.Proofs.YtgkdealidnidiaaDoor.Na
open Go.RowKit Go.Proofs.YtgkdealidnidiaaDoorW.PrintWords Go.Proofs.YtgkdealidnidiaaDoorW.PrintLast Go.Proofs.YtgkdealidnidiaaDoorW.PrintMore Go.Proofs.YtgkdealidnidiaaDoor.Dg
set_option linter.unusedSimpArgs false
set_option linter.unusedVariables false
theorem infoN : (Tryd.prog.info? 29).map (·.size) = some 1 := by kernel_rfl
def bx (W : World) (b : Nat) (v : Value) : Prop := W.heap[b]? = some (.cells #[v] 29 (0, 0))
theorem bx.below {W W' : World} {b : Nat} {v : Value} (h : bx W b v) (hb : Below W.heap.size W W') : bx W' b v := (hb.block _ (Array.getElem?_eq_some_iff.1 h).1).trans h
theorem bx.alloc {W : World} {b : Nat} {v : Value} (h : bx W b v) (o : Obj) : bx (W.alloc o) b v := h.below (below_alloc (Below.refl _ _) o)
theorem bx.drew {W : World} {b : Nat} {v : Value} (h : bx W b v) : bx W.drew b v := h
theorem bx.new (W : World) (v : Value) : bx (W.alloc (.cells #[v] 29)) W.heap.size v := heap_alloc_new W _
theorem bx.put {W : World} {b : Nat} {v : Value} (h : bx W b v) (u : Value) : bx (W.setRow b #[u]) b u := setRow_heap W b #[v] #[u] 29 (0, 0) h
end Go.Proofs.YtgkdealidnidiaaDoor.Na
namespace Go.Proofs.YtgkdealidnidiaaDoor.Na
open Go.RowKit Go.Proofs.YtgkdealidnidiaaDoorW.PrintWords Go.Proofs.YtgkdealidnidiaaDoorW.PrintLast Go.Proofs.YtgkdealidnidiaaDoorW.PrintMore Go.Proofs.YtgkdealidnidiaaDoor.Dg
set_option linter.unusedSimpArgs false
set_option linter.unusedVariables false
def decF : Nat → Nat → List UInt8
  | 0, _ => []
  | k + 1, u => if u < 10 then [UInt8.ofNat (48 + u)] else decF k (u / 10) ++ [UInt8.ofNat (48 + u % 10)]
theorem decF_eq : ∀ (k u : Nat), u < 10 ^ (k + 1) → Lib.decDigits u = decF (k + 1) u
  | 0, u, h => by
    have h : u < 10 := by simpa using h
    rw [Lib.decDigits_one h, decF, if_pos h]
  | k + 1, u, h => by
    by_cases h1 : u < 10
    · rw [Lib.decDigits_one h1, decF, if_pos h1]
    · rw [Lib.decDigits, dif_neg h1, decF, if_neg h1, decF_eq k (u / 10) (by rw [Nat.pow_succ] at h; omega)]
theorem dec_awake : decS 18446744073709551616 = ⟨#[49, 56, 52, 52, 54, 55, 52, 52, 48, 55, 51, 55, 48, 57, 53, 53, 49, 54, 49, 54]⟩ := by
  unfold decS
  rw [decF_eq 19 _ (by decide)]
  rfl
theorem Kw.newly (k : IntKind) (w : World) (l : List Int) (e : Nat) (c : Nat) (hl : l.length ≤ 1000) (hc : l.length ≤ c) : Kw k (w.alloc (.cells (l.map (Value.int k)).toArray e)) (.slice (some ⟨w.heap.size, 0, none⟩) l.length c) l := by
  refine ⟨_, _, rfl, hc, rfl, by omega, fun _ => ⟨_, rfl, ?_⟩⟩
  intro j p hj
  refine ⟨[.int k p], rfl, rfl, ?_⟩
  intro i u hi
  match i, hi with
  | 0, hi =>
    have hu : Value.int k p = u := by simpa using hi
    subst hu
    have h0 : (w.alloc (.cells (l.map (Value.int k)).toArray e)).heap[w.heap.size]? = some (.cells (l.map (Value.int k)).toArray e (0, 0)) := heap_alloc_new w _
    have h1 := blk_cell h0 j
    have e1 : (⟨w.heap.size, 0, none⟩ : Addr).add (j * (Kd.int k).sz + 0) = ⟨w.heap.size, j, none⟩ := by
      show (⟨w.heap.size, 0, none⟩ : Addr).add (j * 1 + 0) = _
      unfold Addr.add
      by_cases hj0 : j = 0
      · subst hj0; simp
      · simp; omega
    rw [e1, h1]
    simp [List.getElem?_map, hj]
  | i + 1, hi => simp at hi
theorem Kw.shape {k : IntKind} {w : World} {v : Value} {l : List Int} (h : Kw k w v l) : ∃ A n c, v = .slice A n c := by
  obtain ⟨A, c, rfl, _⟩ := h
  exact ⟨_, _, _, rfl⟩
theorem Kw.shapeN {k : IntKind} {w : World} {v : Value} {l : List Int} (h : Kw k w v l) : ∃ A n c, v = .slice A n c ∧ n = l.length := by
  obtain ⟨A, c, rfl, _⟩ := h
  exact ⟨_, _, _, rfl, rfl⟩
theorem len_zero_iff {b n : Nat} (hb : 2 ≤ b) : (wd b n).length = 0 ↔ n = 0 := by
  rw [List.length_eq_zero_iff, wd_nil_iff hb]
theorem V_nat {l : List Int} (h : R BW l) : ∃ n : Nat, V BW l = n ∧ (wd BW n).length ≤ l.length := by
  have h0 := V_nonneg (by decide) h
  have h1 := V_lt (by decide) h
  obtain ⟨n, hn⟩ := Int.eq_ofNat_of_zero_le h0
  refine ⟨n, hn, (len_le_iff (by decide) _).2 ?_⟩
  rw [hn] at h1
  exact_mod_cast h1
set_option maxRecDepth 100000 in
set_option maxHeartbeats 4000000 in
theorem awake_c {w : World} (htab : Tab w) :
    Calls Tryd.prog 14 #[] w fun e w' => e = .returned (.bool true) ∧ Below w.heap.size w w' := by
  have hu29 := Tryd.underlying29
  have hB : Below w.heap.size w w := Below.refl _ _
  go_enter Tryd.func14, Tryd.ntmps14
  go_wp2_with fail
  have hl : (wd BW 18446744073709551616).length ≤ 2 := (len_le_iff (by decide) 2).2 (by decide)
  have F := from_c (n := 18446744073709551616) (Kw.newly .u64 w [0, 1] 40 2 (by decide) (by decide)) (by intro x hx; simp at hx; rcases hx with rfl | rfl <;> decide) (by decide) (by decide)
  rw [show fitE 18446744073709551616 = 0 by unfold fitE; rw [if_pos (by omega)], show fitN 18446744073709551616 = 18446744073709551616 by unfold fitN; rw [if_pos (by omega)]] at F
  refine F.mono ?_
  rintro e w1 ⟨z, rfl, hz, hb⟩
  have hB1 : Below w.heap.size w w1 := (below_alloc (Below.refl _ _) _).trans (hb.mono (by simp))
  have hN : Nw w1 z 18446744073709551616 := Kf.kw hz
  obtain ⟨A3, n3, c3, rfl⟩ := hN.shape
  clear F hz hb hB
  go_wp2_with fail
  have f1 := bx.new w1 (.slice A3 n3 c3)
  have hN2 := hN.below (below_alloc (Below.refl w1.heap.size w1) (.cells #[.slice A3 n3 c3] 29))
  have hB := hB1.trans ((below_alloc (Below.refl w1.heap.size w1) (.cells #[.slice A3 n3 c3] 29)).mono hB1.size)
  clear hN hB1
  generalize w1.alloc (.cells #[.slice A3 n3 c3] 29) = w2 at f1 hN2 hB ⊢
  generalize w1.heap.size = b1 at f1 ⊢
  have F := bits_c hN2 (by omega)
  rw [show nb 18446744073709551616 = 65 by decide] at F
  refine F.mono ?_
  rintro e w3 ⟨rfl, hb⟩
  replace f1 := f1.below hb
  replace hN2 := hN2.below hb
  replace hB := hB.trans (hb.mono hB.size)
  clear hb
  clear F
  go_wp2_with (first | refine Cel.wpList_load_row_w rfl 29 _ rfl b1 rfl 29 #[.slice A3 n3 c3] (0, 0) _ f1 hu29 rfl infoN ?_)
  have F := str_c hN2 (by omega) (htab.below hB)
  rw [dec_awake] at F
  refine F.mono ?_
  rintro e w4 ⟨rfl, hb⟩
  replace hB := hB.trans (hb.mono hB.size)
  clear hb
  clear F f1 hN2
  go_wp2_with fail
  refine (of_c 7 (by decide)).mono ?_
  rintro e w5 ⟨z7, rfl, h7, hb⟩
  replace hB := hB.trans (hb.mono hB.size)
  clear hb
  go_wp2_with fail
  refine (of_c 6 (by decide)).mono ?_
  rintro e w6 ⟨z6, rfl, h6, hb⟩
  have h7' := (Kf.kw h7).below hb
  replace hB := hB.trans (hb.mono hB.size)
  clear hb
  go_wp2_with fail
  have l7 : (wd BW 7).length ≤ 1000000 := Nat.le_trans ((len_le_iff (by decide) 1).2 (by decide)) (by decide)
  refine (cmp_c h7' (Kf.kw h6) l7).mono ?_
  rintro e w7 ⟨rfl, hb⟩
  replace hB := hB.trans (hb.mono hB.size)
  clear hb
  rw [show cmpN 7 6 = 1 by decide]
  go_wp2
  go_ret
  exact ⟨rfl, hB⟩
end Go.Proofs.YtgkdealidnidiaaDoor.Na
namespace Go.Proofs.YtgkdealidnidiaaDoor.Na
open Go.RowKit Go.Proofs.YtgkdealidnidiaaDoorW.PrintWords Go.Proofs.YtgkdealidnidiaaDoorW.PrintLast Go.Proofs.YtgkdealidnidiaaDoorW.PrintMore Go.Proofs.YtgkdealidnidiaaDoor.Dg
set_option linter.unusedVariables false
theorem fitE_ok {n : Nat} (h : (wd BW n).length ≤ 64) : fitE n = 0 := by unfold fitE; rw [if_pos h]
theorem fitN_ok {n : Nat} (h : (wd BW n).length ≤ 64) : fitN n = n := by unfold fitN; rw [if_pos h]
end Go.Proofs.YtgkdealidnidiaaDoor.Na
namespace Go.Proofs.YtgkdealidnidiaaDoor.Na
open Go.RowKit Go.Proofs.YtgkdealidnidiaaDoorW.PrintWords Go.Proofs.YtgkdealidnidiaaDoorW.PrintLast Go.Proofs.YtgkdealidnidiaaDoorW.PrintMore Go.Proofs.YtgkdealidnidiaaDoor.Dg
set_option linter.unusedVariables false
theorem C_two {w : World} {vs : List (Option Addr × Nat × List Int)} {e : Nat} (hv : ∀ x ∈ vs, x.2.2.length ≤ x.2.1 ∧ Kd.C (Kd.int .u64) w x.1 x.2.2.length x.2.2) (hl : vs.length ≤ 100) :
    Kd.C (Kd.slice 40 (Kd.int .u64)) (w.alloc (.cells (vs.map fun x => Value.slice x.1 x.2.2.length x.2.1).toArray e)) (some ⟨w.heap.size, 0, none⟩) (vs.map (·.2.2)).length (vs.map (·.2.2)) := by
  refine ⟨rfl, by rw [List.length_map]; omega, fun _ => ⟨_, rfl, ?_⟩⟩
  intro j p hj
  rw [List.getElem?_map] at hj
  obtain ⟨x, hx, rfl⟩ := Option.map_eq_some_iff.1 hj
  have hm := List.mem_of_getElem? hx
  refine ⟨[Value.slice x.1 x.2.2.length x.2.1], rfl, ⟨x.1, x.2.1, rfl, (hv x hm).1, Kd.C_alloc (hv x hm).2 _⟩, ?_⟩
  intro i u hi
  match i, hi with
  | 0, hi =>
    have hu : Value.slice x.1 x.2.2.length x.2.1 = u := by simpa using hi
    subst hu
    have h0 : (w.alloc (.cells (vs.map fun x => Value.slice x.1 x.2.2.length x.2.1).toArray e)).heap[w.heap.size]? = some (.cells (vs.map fun x => Value.slice x.1 x.2.2.length x.2.1).toArray e (0, 0)) := heap_alloc_new w _
    have h1 := blk_cell h0 j
    have e1 : (⟨w.heap.size, 0, none⟩ : Addr).add (j * (Kd.slice 40 (Kd.int .u64)).sz + 0) = ⟨w.heap.size, j, none⟩ := by
      show (⟨w.heap.size, 0, none⟩ : Addr).add (j * 1 + 0) = _
      unfold Addr.add
      by_cases hj0 : j = 0
      · subst hj0; simp
      · simp; omega
    rw [e1, h1]
    simp [List.getElem?_map, hx]
  | i + 1, hi => simp at hi
theorem few1_c {w : World} {A1 : Option Addr} {n1 c1 e : Nat} {l1 : List Int} (h1 : Kw .u64 w (.slice A1 n1 c1) l1) :
    Calls Tryd.prog 13 #[.slice (some ⟨w.heap.size, 0, none⟩) 1 1] (w.alloc (.cells #[.slice A1 n1 c1] e)) fun e' w' => e' = .returned (.bool (decide (n1 ≤ 70))) ∧ Below w.heap.size w w' := by
  obtain ⟨A, c, e1, hc, hC⟩ := h1
  injection e1 with e1 e2 e3
  subst e1 e2 e3
  obtain ⟨k, hk⟩ := (few_ev [l1] (by simp)).rounds
  have H := chafflaw01_Few.calls k (some ⟨w.heap.size, 0, none⟩) 1 [l1] _ (w.alloc (.cells #[.slice A1 l1.length c1] e)) (C_two (vs := [(A1, c1, l1)]) (by simp; exact ⟨hc, hC⟩) (by simp)) (Nat.le_refl _) hk
  refine H.mono ?_
  rintro e' w' ⟨rfl, hD⟩
  refine ⟨?_, (below_alloc (Below.refl _ _) _).trans (hD.below.mono (by simp))⟩
  simp [fewL]
end Go.Proofs.YtgkdealidnidiaaDoor.Na
namespace Go.Proofs.YtgkdealidnidiaaDoor.Na
open Go.RowKit Go.Proofs.YtgkdealidnidiaaDoorW.PrintWords Go.Proofs.YtgkdealidnidiaaDoorW.PrintLast Go.Proofs.YtgkdealidnidiaaDoorW.PrintMore Go.Proofs.YtgkdealidnidiaaDoor.Dg
set_option linter.unusedSimpArgs false
set_option linter.unusedVariables false
theorem got_true (y : Nat) : (if 4096 < nb y then (decide (fitE y = 1) && decide (fitN y = 0)) else (decide (fitE y = 0) && decide (fitN y = y))) = true := by
  unfold fitE fitN
  by_cases h : (wd BW y).length ≤ 64
  · have := (fits_nb y).1 h
    rw [if_neg (by omega), if_pos h, if_pos h]; simp
  · have := mt (fits_nb y).2 h
    rw [if_pos (by omega), if_neg h, if_neg h]; simp
end Go.Proofs.YtgkdealidnidiaaDoor.Na
namespace Go.Proofs.YtgkdealidnidiaaDoor.Na
open Go.RowKit Go.Proofs.YtgkdealidnidiaaDoorW.PrintWords Go.Proofs.YtgkdealidnidiaaDoorW.PrintLast Go.Proofs.YtgkdealidnidiaaDoorW.PrintMore Go.Proofs.YtgkdealidnidiaaDoor.Dg
set_option linter.unusedSimpArgs false
set_option linter.unusedVariables false
theorem Kw.cell {k : IntKind} {w : World} {A : Option Addr} {n c : Nat} {l : List Int} (h : Kw k w (.slice A n c) l) (i : Nat) (hi : i < n) : ∃ ad, A = some ad ∧ w.cell? (ad.add i) = some (.int k (l.getD i 0)) := by
  obtain ⟨A', c', e1, hc, hC⟩ := h
  injection e1 with e1 e2 e3
  subst e1 e2 e3
  obtain ⟨ad, cs, ea, hs, hr, hcell⟩ := ReadsRow.get_ hC 0 (i : Int) (by omega) (by omega)
  refine ⟨ad, ea, ?_⟩
  have h0 := hcell 0 (.int k (l.getD i 0)) (by rw [show cs = [.int k (l.getD (i : Int).toNat 0)] from hr]; simp)
  rw [Int.toNat_natCast, show (Kd.int k).sz = 1 from rfl, Nat.mul_one, Nat.add_zero] at h0
  exact h0
set_option maxRecDepth 100000 in
set_option maxHeartbeats 8000000 in
theorem reads_walk {w : World} (A1 : Option Addr) (c1 : Nat) (l1 : List Int) (h1 : Kw .u64 w (.slice A1 l1.length c1) l1) (r1 : R BW l1) (htab : Tab w) :
    Calls Tryd.prog 3 #[.slice A1 l1.length c1] w fun e w' => e = .returned (.bool true) ∧ Below w.heap.size w w' := by
  have hu29 := Tryd.underlying29
  have hB : Below w.heap.size w w := Below.refl _ _
  obtain ⟨m, em, lm⟩ := V_nat r1
  obtain ⟨n1, en1⟩ : ∃ n, l1.length = n := ⟨_, rfl⟩
  rw [en1] at h1 lm ⊢
  go_enter Tryd.func3, Tryd.ntmps3
  go_wp2_with fail
  by_cases hf : 70 < n1
  · have F := few1_c (e := 22) h1
    rw [decide_eq_false (show ¬ n1 ≤ 70 by omega)] at F
    refine (F).mono ?_
    rintro e w_1 ⟨rfl, hb⟩
    replace h1 := h1.below hb
    replace htab := htab.below hb
    replace hB := hB.trans (hb.mono hB.size)
    clear hb
    clear F
    go_wp2_with fail
    refine (awake_c htab).mono ?_
    rintro e w_2 ⟨rfl, hb⟩
    replace h1 := h1.below hb
    replace htab := htab.below hb
    replace hB := hB.trans (hb.mono hB.size)
    clear hb
    go_wp2
    go_ret
    exact ⟨rfl, hB⟩
  · have F := few1_c (e := 22) h1
    rw [decide_eq_true (show n1 ≤ 70 by omega)] at F
    refine (F).mono ?_
    rintro e w_1 ⟨rfl, hb⟩
    replace h1 := h1.below hb
    replace htab := htab.below hb
    replace hB := hB.trans (hb.mono hB.size)
    clear hb
    clear F
    have lBm := len_BD lm
    go_wp2_with fail
    refine (rfrom_c h1 r1 em (by omega)).mono ?_
    rintro e w_2 ⟨zm, rfl, hzm, hb⟩
    replace h1 := h1.below hb
    replace htab := htab.below hb
    replace hB := hB.trans (hb.mono hB.size)
    clear hb
    go_wp2_with fail
    have gt := got_true m
    have lft := fitN_len m
    have GT := Aside0.mk gt
    clear gt
    obtain ⟨es, hes⟩ : ∃ e, fitE m = e := ⟨_, rfl⟩
    rw [hes] at GT
    have F := from_c h1 r1 em (by omega)
    rw [hes] at F
    refine (F).mono ?_
    rintro e w_3 ⟨z_a, rfl, ha0, hb⟩
    replace h1 := h1.below hb
    replace htab := htab.below hb
    replace hzm := hzm.below hb
    replace hB := hB.trans (hb.mono hB.size)
    clear hb
    have ha := Kf.kw ha0
    clear ha0 F
    obtain ⟨A_4, n_4, c_4, rfl⟩ := ha.shape
    go_wp2_with (first | refine Cel.wpList_load_row_w rfl 29 _ rfl w_3.heap.size rfl 29 #[(.slice A_4 n_4 c_4)] (0, 0) _ (bx.new w_3 _) hu29 rfl infoN ?_)
    have f_a := bx.new w_3 (.slice A_4 n_4 c_4)
    have hA_ := below_alloc (Below.refl w_3.heap.size w_3) (.cells #[(.slice A_4 n_4 c_4)] 29)
    replace h1 := h1.below hA_
    replace htab := htab.below hA_
    replace hzm := hzm.below hA_
    replace ha := ha.below hA_
    replace hB := hB.trans (hA_.mono hB.size)
    clear hA_
    generalize w_3.alloc (.cells #[(.slice A_4 n_4 c_4)] 29) = w_5 at f_a h1 htab hzm ha hB ⊢
    generalize w_3.heap.size = b_a at f_a ⊢
    have F := got_c ha es hzm (by omega) (by omega)
    rw [GT.out] at F
    refine (F).mono ?_
    rintro e w_6 ⟨rfl, hb⟩
    replace h1 := h1.below hb
    replace htab := htab.below hb
    replace hzm := hzm.below hb
    replace ha := ha.below hb
    replace f_a := f_a.below hb
    replace hB := hB.trans (hb.mono hB.size)
    clear hb
    clear F GT
    by_cases hm : (wd BW m).length ≤ 64
    · rw [fitE_ok hm] at hes
      subst hes
      rw [fitN_ok hm] at ha
      go_wp2_with (first | refine Cel.wpList_load_row_w rfl 29 _ rfl b_a rfl 29 #[(.slice A_4 n_4 c_4)] (0, 0) _ f_a hu29 rfl infoN ?_)
      refine (words_c ha (by omega)).mono ?_
      rintro e w_7 ⟨z_h, rfl, hh, hb⟩
      replace h1 := h1.below hb
      replace htab := htab.below hb
      replace hzm := hzm.below hb
      replace ha := ha.below hb
      replace f_a := f_a.below hb
      replace hB := hB.trans (hb.mono hB.size)
      clear hb
      go_wp2_with fail
      refine (rwords_c hzm (by omega)).mono ?_
      rintro e w_8 ⟨z_w, rfl, hw, hb⟩
      replace h1 := h1.below hb
      replace htab := htab.below hb
      replace hzm := hzm.below hb
      replace ha := ha.below hb
      replace hh := hh.below hb
      replace f_a := f_a.below hb
      replace hB := hB.trans (hb.mono hB.size)
      clear hb
      obtain ⟨Ah, nh, ch, rfl, enh⟩ := hh.shapeN
      obtain ⟨Aw, nw, cw, rfl, enw⟩ := hw.shapeN
      obtain rfl : nw = nh := by rw [enh, enw]
      have hne : ((nw : Int) == (nw : Int)) = true := beq_self_eq_true _
      have LH := Aside0.mk enh
      clear enh enw
      go_wp2_with (first | refine Cel.wpList_load_row_w rfl 29 _ rfl b_a rfl 29 #[(.slice A_4 n_4 c_4)] (0, 0) _ f_a hu29 rfl infoN ?_)
      refine (bits_c ha (by omega)).mono ?_
      rintro e w_9 ⟨rfl, hb⟩
      replace h1 := h1.below hb
      replace htab := htab.below hb
      replace hzm := hzm.below hb
      replace ha := ha.below hb
      replace hh := hh.below hb
      replace hw := hw.below hb
      replace f_a := f_a.below hb
      replace hB := hB.trans (hb.mono hB.size)
      clear hb
      go_wp2_with fail
      refine (rbits_c hzm (by omega)).mono ?_
      rintro e w_10 ⟨rfl, hb⟩
      replace h1 := h1.below hb
      replace htab := htab.below hb
      replace hzm := hzm.below hb
      replace ha := ha.below hb
      replace hh := hh.below hb
      replace hw := hw.below hb
      replace f_a := f_a.below hb
      replace hB := hB.trans (hb.mono hB.size)
      clear hb
      have hnn : ((nb m : Int) == (nb m : Int)) = true := beq_self_eq_true _
      go_wp2_with (first | refine Cel.wpList_load_row_w rfl 29 _ rfl b_a rfl 29 #[(.slice A_4 n_4 c_4)] (0, 0) _ f_a hu29 rfl infoN ?_)
      obtain ⟨zb, hzb⟩ : ∃ b, decide (m = 0) = b := ⟨_, rfl⟩
      obtain ⟨Am, nm, cm, rfl, enm⟩ := hzm.shapeN
      have hln : ((nm : Int) == 0) = zb := by rw [← hzb, enm, Bool.eq_iff_iff, beq_iff_eq, decide_eq_true_iff, ← len_zero_iff (b := BD) (n := m) (by decide)]; omega
      have LM := Aside0.mk enm
      clear enm
      have F := zero_c ha
      rw [hzb] at F
      refine (F).mono ?_
      rintro e w_11 ⟨rfl, hb⟩
      replace h1 := h1.below hb
      replace htab := htab.below hb
      replace hzm := hzm.below hb
      replace ha := ha.below hb
      replace hh := hh.below hb
      replace hw := hw.below hb
      replace f_a := f_a.below hb
      replace hB := hB.trans (hb.mono hB.size)
      clear hb
      clear F
      clear hzb
      cases zb
      · go_wp2_with (first | refine Cel.wpList_load_row_w rfl 29 _ rfl b_a rfl 29 #[(.slice A_4 n_4 c_4)] (0, 0) _ f_a hu29 rfl infoN ?_)
        refine (str_c ha (by omega) htab).mono ?_
        rintro e w_12 ⟨rfl, hb⟩
        replace h1 := h1.below hb
        replace htab := htab.below hb
        replace hzm := hzm.below hb
        replace ha := ha.below hb
        replace hh := hh.below hb
        replace hw := hw.below hb
        replace f_a := f_a.below hb
        replace hB := hB.trans (hb.mono hB.size)
        clear hb
        go_wp2_with fail
        refine (rstr_c hzm (by omega)).mono ?_
        rintro e w_13 ⟨rfl, hb⟩
        replace h1 := h1.below hb
        replace htab := htab.below hb
        replace hzm := hzm.below hb
        replace ha := ha.below hb
        replace hh := hh.below hb
        replace hw := hw.below hb
        replace f_a := f_a.below hb
        replace hB := hB.trans (hb.mono hB.size)
        clear hb
        go_wp2_with fail
        have hwr := hh
        have hww := hw
        clear hh hw f_a ha h1 hzm hne hnn hln LM
        go_loopg [62] nw (fun k v wr => ∃ i : Nat, v = .int .i64 (i : Int) ∧ Aside0 (i + k = nw) ∧ Aside0 (Kw .u64 wr (.slice Ah nw ch) (wd BW m)) ∧ Aside0 (Kw .u64 wr (.slice Aw nw cw) (wd BW m)) ∧ Aside0 (Tab wr) ∧ Aside0 (Below w.heap.size w wr))
        case atStart => exact ⟨0, rfl, ⟨Nat.zero_add _⟩, ⟨hwr⟩, ⟨hww⟩, ⟨htab⟩, ⟨hB⟩⟩
        case round =>
          clear hwr hww htab hB
          obtain ⟨i, rfl, HI, HR, HW, HT, HB⟩ := hrel
          by_cases hk : gk = 0
          · have hi := HI.out
            have d7 : decide ((i : Int) < (nw : Int)) = false := decide_eq_false (by omega)
            have d8 : decide (i < nw) = false := decide_eq_false (by omega)
            clear hi
            go_wp2_with fail
            refine (awake_c HT.out).mono ?_
            rintro e w1 ⟨rfl, hb⟩
            go_wp2
            go_ret
            exact ⟨rfl, HB.out.trans (hb.mono HB.out.size)⟩
          · have hi := HI.out
            have hin : i < nw := by omega
            have hnw : nw ≤ 64 := by rw [LH.out]; exact hm
            have d7 : decide ((i : Int) < (nw : Int)) = true := decide_eq_true (by omega)
            have d8 : decide (i < nw) = true := decide_eq_true (by omega)
            clear hi
            obtain ⟨a1, rfl, k1⟩ := HR.out.cell i hin
            obtain ⟨a2, rfl, k2⟩ := HW.out.cell i hin
            generalize (wd BW m).getD i 0 = x at k1 k2
            go_wp2_with fail
            refine start_ (n := 9) (S := fun w' => w'.cell? (a1.add i) = some (.int .u64 x) ∧ w'.cell? (a2.add i) = some (.int .u64 x)) (ds := []) #[false, false, false, false, false, false, false, false, false] (by kernel_rfl) rfl rfl ⟨k1, k2⟩ (fun hHeld => ?_)
            have hb : Below wr.heap.size wr wr.drew := below_drew (Below.refl _ _)
            refine pure_ (i := 0) (N := some 65) (v := ?_) (a' := ?_) #[true, false, false, false, false, false, false, false, false] rfl rfl (by kernel_rfl) (fun _ _ _ h => h) (Or.inl ⟨by rfl, ?_⟩) ?_ ?_
            rotate_left
            · intro w'
              go_simp
              with_reducible rfl
            rotate_left
            · simp only [Act.put, List.setIfInBounds_toArray, List.set_cons_zero, List.set_cons_succ, i64_w, i32_w]
              rfl
            refine pure_ (i := 1) (N := some 66) (v := ?_) (a' := ?_) #[true, true, false, false, false, false, false, false, false] rfl rfl (by kernel_rfl) (fun _ _ _ h => h) (Or.inl ⟨by rfl, ?_⟩) ?_ ?_
            rotate_left
            · intro w'
              go_simp
              with_reducible rfl
            rotate_left
            · simp only [Act.put, List.setIfInBounds_toArray, List.set_cons_zero, List.set_cons_succ, i64_w, i32_w]
              rfl
            refine pure_ (i := 4) (N := some 69) (v := ?_) (a' := ?_) #[true, true, false, false, true, false, false, false, false] rfl rfl (by kernel_rfl) (fun _ _ _ h => h) (Or.inl ⟨by rfl, ?_⟩) ?_ ?_
            rotate_left
            · intro w'
              go_simp
              with_reducible rfl
            rotate_left
            · simp only [Act.put, List.setIfInBounds_toArray, List.set_cons_zero, List.set_cons_succ, i64_w, i32_w]
              rfl
            refine pure_ (i := 5) (N := some 70) (v := ?_) (a' := ?_) #[true, true, false, false, true, true, false, false, false] rfl rfl (by kernel_rfl) (fun _ _ _ h => h) (Or.inl ⟨by rfl, ?_⟩) ?_ ?_
            rotate_left
            · intro w'
              go_simp
              with_reducible rfl
            rotate_left
            · simp only [Act.put, List.setIfInBounds_toArray, List.set_cons_zero, List.set_cons_succ, i64_w, i32_w]
              rfl
            refine pure_ (i := 2) (N := some 67) (v := ?_) (a' := ?_) #[true, true, true, false, true, true, false, false, false] rfl rfl (by kernel_rfl) (fun _ _ _ h => h) (Or.inl ⟨by rfl, ?_⟩) ?_ ?_
            rotate_left
            · intro w'
              go_simp
              with_reducible rfl
            rotate_left
            · simp only [Act.put, List.setIfInBounds_toArray, List.set_cons_zero, List.set_cons_succ, i64_w, i32_w]
              rfl
            refine pure_ (i := 6) (N := some 71) (v := ?_) (a' := ?_) #[true, true, true, false, true, true, true, false, false] rfl rfl (by kernel_rfl) (fun _ _ _ h => h) (Or.inl ⟨by rfl, ?_⟩) ?_ ?_
            rotate_left
            · intro w'
              go_simp
              with_reducible rfl
            rotate_left
            · simp only [Act.put, List.setIfInBounds_toArray, List.set_cons_zero, List.set_cons_succ, i64_w, i32_w]
              rfl
            refine take_ (i := 3) (N := some 68) (v := ?_) (a' := ?_) #[true, true, true, true, true, true, true, false, false] rfl rfl (by kernel_rfl) (fun _ _ _ h => h) (Or.inl ⟨by rfl, ?_⟩) hHeld ?_ ?_
            rotate_left
            · rintro w' ⟨s0, s1⟩
              go_simp
              with_reducible rfl
            rotate_left
            · simp only [Act.put, List.setIfInBounds_toArray, List.set_cons_zero, List.set_cons_succ, i64_w, i32_w]
              rfl
            refine take_ (i := 7) (N := some 72) (v := ?_) (a' := ?_) #[true, true, true, true, true, true, true, true, false] rfl rfl (by kernel_rfl) (fun _ _ _ h => h) (Or.inl ⟨by rfl, ?_⟩) hHeld ?_ ?_
            rotate_left
            · rintro w' ⟨s0, s1⟩
              go_simp
              with_reducible rfl
            rotate_left
            · simp only [Act.put, List.setIfInBounds_toArray, List.set_cons_zero, List.set_cons_succ, i64_w, i32_w]
              rfl
            refine pure_ (i := 8) (N := some 73) (v := ?_) (a' := ?_) #[true, true, true, true, true, true, true, true, true] rfl rfl (by kernel_rfl) (fun _ _ _ h => h) (Or.inl ⟨by rfl, ?_⟩) ?_ ?_
            rotate_left
            · intro w'
              go_simp
              with_reducible rfl
            rotate_left
            · simp only [Act.put, List.setIfInBounds_toArray, List.set_cons_zero, List.set_cons_succ, i64_w, i32_w]
              rfl
            refine done_ (by kernel_rfl) ?_
            have hi1 : IntKind.i64.wrap ((i : Int) + 1) = ((i + 1 : Nat) : Int) := by rw [IntKind.wrap_i64]; omega
            go_wp2_with fail
            go_roundg (gk - 1)
            case measure => omega
            case rel => exact ⟨i + 1, rfl, ⟨by have := HI.out; omega⟩, ⟨HR.out.below hb⟩, ⟨HW.out.below hb⟩, ⟨HT.out.below hb⟩, ⟨HB.out.trans (hb.mono HB.out.size)⟩⟩
      · go_wp2_with (first | refine Cel.wpList_load_row_w rfl 29 _ rfl b_a rfl 29 #[(.slice A_4 n_4 c_4)] (0, 0) _ f_a hu29 rfl infoN ?_)
        refine (str_c ha (by omega) htab).mono ?_
        rintro e w_12 ⟨rfl, hb⟩
        replace h1 := h1.below hb
        replace htab := htab.below hb
        replace hzm := hzm.below hb
        replace ha := ha.below hb
        replace hh := hh.below hb
        replace hw := hw.below hb
        replace f_a := f_a.below hb
        replace hB := hB.trans (hb.mono hB.size)
        clear hb
        go_wp2_with fail
        refine (rstr_c hzm (by omega)).mono ?_
        rintro e w_13 ⟨rfl, hb⟩
        replace h1 := h1.below hb
        replace htab := htab.below hb
        replace hzm := hzm.below hb
        replace ha := ha.below hb
        replace hh := hh.below hb
        replace hw := hw.below hb
        replace f_a := f_a.below hb
        replace hB := hB.trans (hb.mono hB.size)
        clear hb
        go_wp2_with fail
        have hwr := hh
        have hww := hw
        clear hh hw f_a ha h1 hzm hne hnn hln LM
        go_loopg [62] nw (fun k v wr => ∃ i : Nat, v = .int .i64 (i : Int) ∧ Aside0 (i + k = nw) ∧ Aside0 (Kw .u64 wr (.slice Ah nw ch) (wd BW m)) ∧ Aside0 (Kw .u64 wr (.slice Aw nw cw) (wd BW m)) ∧ Aside0 (Tab wr) ∧ Aside0 (Below w.heap.size w wr))
        case atStart => exact ⟨0, rfl, ⟨Nat.zero_add _⟩, ⟨hwr⟩, ⟨hww⟩, ⟨htab⟩, ⟨hB⟩⟩
        case round =>
          clear hwr hww htab hB
          obtain ⟨i, rfl, HI, HR, HW, HT, HB⟩ := hrel
          by_cases hk : gk = 0
          · have hi := HI.out
            have d7 : decide ((i : Int) < (nw : Int)) = false := decide_eq_false (by omega)
            have d8 : decide (i < nw) = false := decide_eq_false (by omega)
            clear hi
            go_wp2_with fail
            refine (awake_c HT.out).mono ?_
            rintro e w1 ⟨rfl, hb⟩
            go_wp2
            go_ret
            exact ⟨rfl, HB.out.trans (hb.mono HB.out.size)⟩
          · have hi := HI.out
            have hin : i < nw := by omega
            have hnw : nw ≤ 64 := by rw [LH.out]; exact hm
            have d7 : decide ((i : Int) < (nw : Int)) = true := decide_eq_true (by omega)
            have d8 : decide (i < nw) = true := decide_eq_true (by omega)
            clear hi
            obtain ⟨a1, rfl, k1⟩ := HR.out.cell i hin
            obtain ⟨a2, rfl, k2⟩ := HW.out.cell i hin
            generalize (wd BW m).getD i 0 = x at k1 k2
            go_wp2_with fail
            refine start_ (n := 9) (S := fun w' => w'.cell? (a1.add i) = some (.int .u64 x) ∧ w'.cell? (a2.add i) = some (.int .u64 x)) (ds := []) #[false, false, false, false, false, false, false, false, false] (by kernel_rfl) rfl rfl ⟨k1, k2⟩ (fun hHeld => ?_)
            have hb : Below wr.heap.size wr wr.drew := below_drew (Below.refl _ _)
            refine pure_ (i := 0) (N := some 65) (v := ?_) (a' := ?_) #[true, false, false, false, false, false, false, false, false] rfl rfl (by kernel_rfl) (fun _ _ _ h => h) (Or.inl ⟨by rfl, ?_⟩) ?_ ?_
            rotate_left
            · intro w'
              go_simp
              with_reducible rfl
            rotate_left
            · simp only [Act.put, List.setIfInBounds_toArray, List.set_cons_zero, List.set_cons_succ, i64_w, i32_w]
              rfl
            refine pure_ (i := 1) (N := some 66) (v := ?_) (a' := ?_) #[true, true, false, false, false, false, false, false, false] rfl rfl (by kernel_rfl) (fun _ _ _ h => h) (Or.inl ⟨by rfl, ?_⟩) ?_ ?_
            rotate_left
            · intro w'
              go_simp
              with_reducible rfl
            rotate_left
            · simp only [Act.put, List.setIfInBounds_toArray, List.set_cons_zero, List.set_cons_succ, i64_w, i32_w]
              rfl
            refine pure_ (i := 4) (N := some 69) (v := ?_) (a' := ?_) #[true, true, false, false, true, false, false, false, false] rfl rfl (by kernel_rfl) (fun _ _ _ h => h) (Or.inl ⟨by rfl, ?_⟩) ?_ ?_
            rotate_left
            · intro w'
              go_simp
              with_reducible rfl
            rotate_left
            · simp only [Act.put, List.setIfInBounds_toArray, List.set_cons_zero, List.set_cons_succ, i64_w, i32_w]
              rfl
            refine pure_ (i := 5) (N := some 70) (v := ?_) (a' := ?_) #[true, true, false, false, true, true, false, false, false] rfl rfl (by kernel_rfl) (fun _ _ _ h => h) (Or.inl ⟨by rfl, ?_⟩) ?_ ?_
            rotate_left
            · intro w'
              go_simp
              with_reducible rfl
            rotate_left
            · simp only [Act.put, List.setIfInBounds_toArray, List.set_cons_zero, List.set_cons_succ, i64_w, i32_w]
              rfl
            refine pure_ (i := 2) (N := some 67) (v := ?_) (a' := ?_) #[true, true, true, false, true, true, false, false, false] rfl rfl (by kernel_rfl) (fun _ _ _ h => h) (Or.inl ⟨by rfl, ?_⟩) ?_ ?_
            rotate_left
            · intro w'
              go_simp
              with_reducible rfl
            rotate_left
            · simp only [Act.put, List.setIfInBounds_toArray, List.set_cons_zero, List.set_cons_succ, i64_w, i32_w]
              rfl
            refine pure_ (i := 6) (N := some 71) (v := ?_) (a' := ?_) #[true, true, true, false, true, true, true, false, false] rfl rfl (by kernel_rfl) (fun _ _ _ h => h) (Or.inl ⟨by rfl, ?_⟩) ?_ ?_
            rotate_left
            · intro w'
              go_simp
              with_reducible rfl
            rotate_left
            · simp only [Act.put, List.setIfInBounds_toArray, List.set_cons_zero, List.set_cons_succ, i64_w, i32_w]
              rfl
            refine take_ (i := 3) (N := some 68) (v := ?_) (a' := ?_) #[true, true, true, true, true, true, true, false, false] rfl rfl (by kernel_rfl) (fun _ _ _ h => h) (Or.inl ⟨by rfl, ?_⟩) hHeld ?_ ?_
            rotate_left
            · rintro w' ⟨s0, s1⟩
              go_simp
              with_reducible rfl
            rotate_left
            · simp only [Act.put, List.setIfInBounds_toArray, List.set_cons_zero, List.set_cons_succ, i64_w, i32_w]
              rfl
            refine take_ (i := 7) (N := some 72) (v := ?_) (a' := ?_) #[true, true, true, true, true, true, true, true, false] rfl rfl (by kernel_rfl) (fun _ _ _ h => h) (Or.inl ⟨by rfl, ?_⟩) hHeld ?_ ?_
            rotate_left
            · rintro w' ⟨s0, s1⟩
              go_simp
              with_reducible rfl
            rotate_left
            · simp only [Act.put, List.setIfInBounds_toArray, List.set_cons_zero, List.set_cons_succ, i64_w, i32_w]
              rfl
            refine pure_ (i := 8) (N := some 73) (v := ?_) (a' := ?_) #[true, true, true, true, true, true, true, true, true] rfl rfl (by kernel_rfl) (fun _ _ _ h => h) (Or.inl ⟨by rfl, ?_⟩) ?_ ?_
            rotate_left
            · intro w'
              go_simp
              with_reducible rfl
            rotate_left
            · simp only [Act.put, List.setIfInBounds_toArray, List.set_cons_zero, List.set_cons_succ, i64_w, i32_w]
              rfl
            refine done_ (by kernel_rfl) ?_
            have hi1 : IntKind.i64.wrap ((i : Int) + 1) = ((i + 1 : Nat) : Int) := by rw [IntKind.wrap_i64]; omega
            go_wp2_with fail
            go_roundg (gk - 1)
            case measure => omega
            case rel => exact ⟨i + 1, rfl, ⟨by have := HI.out; omega⟩, ⟨HR.out.below hb⟩, ⟨HW.out.below hb⟩, ⟨HT.out.below hb⟩, ⟨HB.out.trans (hb.mono HB.out.size)⟩⟩
    · have e1 : es = 1 := by rw [← hes]; unfold fitE; rw [if_neg hm]
      subst e1
      go_wp2_with fail
      refine (awake_c htab).mono ?_
      rintro e w_7 ⟨rfl, hb⟩
      replace h1 := h1.below hb
      replace htab := htab.below hb
      replace hzm := hzm.below hb
      replace ha := ha.below hb
      replace f_a := f_a.below hb
      replace hB := hB.trans (hb.mono hB.size)
      clear hb
      go_wp2
      go_ret
      exact ⟨rfl, hB⟩
end Go.Proofs.YtgkdealidnidiaaDoor.Na
namespace Go.Proofs.YtgkdealidnidiaaDoor.Na
set_option linter.unusedVariables false
open Go.RowKit Go.Proofs.YtgkdealidnidiaaDoorW.PrintWords Go.Proofs.YtgkdealidnidiaaDoorW.PrintLast Go.Proofs.YtgkdealidnidiaaDoorW.PrintMore Go.Proofs.YtgkdealidnidiaaDoor.Dg
set_option maxRecDepth 100000 in
theorem open_ws {H : Type} {enc : TypeId × Value → H} {W : World} {base : Nat} {spare : Nat → Bool} {held : Bool} {r : Reach} {b0 : Nat} {v : Value} {d : DataW H} {ps : List MemPlace}
    (hv : Value.okWide Tryd.prog W r b0 22 v) (h : DataW.Trod enc Tryd.prog W base spare held 22 v d ps) :
    ∃ A c l, v = .slice A l.length c ∧ l.length ≤ c ∧ Kd.C (Kd.int .u64) W A l.length l ∧ R BW l ∧ l.length ≤ 9223372036854775807 := by
  obtain ⟨a, len, cap, rfl⟩ := Go.WideShapes.okWide_slice Tryd.underlying22 hv
  obtain ⟨fuel, hf⟩ := h
  have hcz : Tryd.prog.cellsOf 40 = 1 := by kernel_rfl
  rcases Go.ChangeShapes.open_ints Tryd.underlying22 Tryd.underlying40 hcz hf with ⟨hc, _⟩ | ⟨a', len', cap', zs, hc, _, hlc, hcm, hzl, _, hcell, hwf⟩
  · simp [Value.cells] at hc
    obtain ⟨rfl, rfl, rfl⟩ := hc
    exact ⟨none, 0, [], rfl, Nat.le_refl _, Kd.C_nil _ _, R_nil _, by simp⟩
  · simp [Value.cells] at hc
    obtain ⟨rfl, rfl, rfl⟩ := hc
    have hle : len ≤ zs.length := by rw [hzl]; split <;> omega
    have hcap : cap ≤ 9223372036854775807 := by
      have : cap ≤ maxLen := hcm
      unfold maxLen at this
      omega
    have hl : (zs.take len).length = len := by rw [List.length_take, Nat.min_eq_left hle]
    refine ⟨some a', cap, zs.take len, by rw [hl], by omega, ⟨rfl, by omega, fun _ => ⟨a', rfl, ?_⟩⟩, ?_, by omega⟩
    · intro j p hj
      refine ⟨[.int .u64 p], rfl, rfl, ?_⟩
      intro i u hi
      match i, hi with
      | 0, hi =>
        have hu : Value.int .u64 p = u := by simpa using hi
        subst hu
        have hj1 : j < (zs.take len).length := (List.getElem?_eq_some_iff.1 hj).1
        have hj2 : j < zs.length := by omega
        have hc := hcell j hj2
        have hz : zs.getD j 0 = p := by
          rw [List.getElem?_take, if_pos (by omega)] at hj
          rw [List.getD_eq_getElem?_getD, hj]; rfl
        rw [hz] at hc
        show W.cell? (a'.add (j * 1 + 0)) = _
        rw [Nat.mul_one, Nat.add_zero]; exact hc
      | i + 1, hi => simp at hi
    · intro x hx
      have hw := hwf x (List.mem_of_mem_take hx)
      simp [Lit.wf, IntKind.min, IntKind.max, IntKind.signed, IntKind.bits] at hw
      have : ((BW : Nat) : Int) = 18446744073709551616 := rfl
      rw [this]
      omega
end Go.Proofs.YtgkdealidnidiaaDoor.Na
namespace Go.Proofs.YtgkdealidnidiaaDoor
open Go.RowKit
mutual
def flat : DataW Unit → List Value
  | .lit (.int k n) => [.int k n]
  | .agg parts => flats parts
  | _ => []
def flats : List (DataW Unit) → List Value
  | [] => []
  | d :: r => flat d ++ flats r
end
def layObj (d : DataW Unit) : Obj → Obj
  | .cells _ t fr => .cells (flat d).toArray t fr
  | o => o
noncomputable def laidWorld (os : Os) : World :=
  let w0 := World.holding Tryd.prog os ⟨#[], #[], []⟩
  { w0 with heap := ((w0.heap.modify 4 (layObj Rows.laid_math_bits_deBruijn32tab)).modify 5 (layObj Rows.laid_math_bits_deBruijn64tab)).modify 2 (layObj Rows.laid_internal_strconv_uint64pow10) }
theorem tab_of {W : World} (h : laidMetH Tryd.prog [("math/bits.deBruijn32tab", Rows.laid_math_bits_deBruijn32tab), ("math/bits.deBruijn64tab", Rows.laid_math_bits_deBruijn64tab), ("internal/strconv.uint64pow10", Rows.laid_internal_strconv_uint64pow10)] W) : Na.Tab W := by
  rw [MakeChecks.laidMetH_plain _ _ _ (by kernel_rfl)] at h
  have h2 := h.filter (fun x => x.1 == "internal/strconv.uint64pow10")
  have e : ([("math/bits.deBruijn32tab", Rows.laid_math_bits_deBruijn32tab), ("math/bits.deBruijn64tab", Rows.laid_math_bits_deBruijn64tab), ("internal/strconv.uint64pow10", Rows.laid_internal_strconv_uint64pow10)] : List (String × DataW Unit)).filter (fun x => x.1 == "internal/strconv.uint64pow10") = [("internal/strconv.uint64pow10", Lib.tabData .u64 Lib.pow10Tab)] := by kernel_rfl
  rw [e] at h2
  exact Lib.tabIs_of_head (g := 2) (t := 161) (e := 40) (n := 20) (by kernel_rfl) (by kernel_rfl) Tryd.underlying161 Tryd.underlying40 (by kernel_rfl) (by kernel_rfl) h2
end Go.Proofs.YtgkdealidnidiaaDoor
