/- Texts of the seat, as far as the row needs them. -/
import Derived.Ground.Names2Prog
import Derived.Shelf.Bits.Mul64
import Derived.Shelf.LaysM
import Derived.Shelf.Slices.Cells
import Derived.Shelf.Slices.CompactI
import Derived.Shelf.Slices.ReverseS
import Derived.Shelf.Small.Bits
import Derived.Shelf.Strconv.Itoa0
import Derived.Shelf.Strconv.Itoa1
import Derived.Shelf.Strconv.Itoa2
import Derived.Shelf.Strings.Builder1
import Derived.Shelf.Strings.Builder2
import Derived.Shelf.Strings.Builder2Cap
import Derived.Shelf.Strings.BuilderCap
import Derived.Shelf.Strings.BuilderF
import Derived.Shelf.Strings.BuilderK
import Derived.Shelf.Strings.OnBuilder
import Derived.Shelf.Strings.Prefix
import Derived.Shelf.Strings.Repeat
import Derived.Test.YtgkdealidnidiaaDoorQRatRounds2
set_option linter.unusedVariables false
set_option linter.unusedSimpArgs false
set_option maxHeartbeats 8000000
set_option maxRecDepth 100000
namespace Go.Proofs.YtgkdealidnidiaaDoor.Na
open Go.RowKit Go.Proofs.YtgkdealidnidiaaDoorW.PrintWords Go.Proofs.YtgkdealidnidiaaDoorW.PrintLast Go.Proofs.YtgkdealidnidiaaDoorW.PrintMore Go.Proofs.YtgkdealidnidiaaDoor.Dg
theorem set_app (o : List Int) (d : Nat) (y : Int) {i : Nat} (h : o.length = i) : (o ++ List.replicate (d + 1) 0).set i y = (o ++ [y]) ++ List.replicate d 0 := by
 subst h
 rw [List.set_append_right _ _ (Nat.le_refl _), Nat.sub_self, List.replicate_succ, List.set_cons_zero, List.append_assoc]; rfl
theorem carry_step {b P vo c A A' x y s : Int} (h : vo + P * c = A + A') (hs : s = x + y + c) : vo + P * (s % b) + P * b * (s / b) = (A + P * x) + (A' + P * y) := by
 have e := Int.emod_add_mul_ediv s b
 have e2 : P * (s % b) + P * b * (s / b) = P * s := by rw [← e]; grind
 grind
theorem zk1 {s b : Int} (hb : 0 < b) : 0 ≤ s % b ∧ s % b < b := ⟨Int.emod_nonneg _ (by omega), Int.emod_lt_of_pos _ hb⟩
theorem add_loop (a b : List Int) (n m : Nat) (hRa : R BW a) (hRb : R BW b) (ha : a.length ≤ n) (hb : b.length ≤ n) (hn : n ≤ 17592186044416) (hm : V BW a + V BW b = m) :
  ∀ (d i : Nat) (o : List Int) (c : Int), i + d = n → o.length = i → R BW o → 0 ≤ c → c ≤ 1 → V BW o + (BW : Int) ^ i * c = V BW (a.take i) + V BW (b.take i) →
   Ev (fun k => nat_Nat_Add.l0 k n (o ++ List.replicate (d + 1) 0) c n i a b) (fitA m, zw2 m)
 | 0, i, o, c, hi, ho, hRo, hc0, hc1, hV => by
  obtain rfl : i = n := by omega
  refine Ev.step (f := fun k => (nat_fit.f k (o ++ [c])).bind fun bt => some (bt.1, bt.2)) (fun k => ?_) ?_
  ·have hl : (((o ++ List.replicate (0 + 1) 0).length : Nat) : Int) = (i : Int) + 1 := by simp [ho]
   rw [nat_Nat_Add.l0, if_neg (by omega), if_pos (by omega), if_pos (by omega), Int.toNat_natCast, set_app _ _ _ ho]; simp
  ·refine Ev.bind (fit_ev (o ++ [c]) m (zz.2 ⟨hRo, zy2 hc0 (by have := BWi; omega)⟩) ?_ (by simp [ho]; omega)) (Ev.now _)
   rw [zh2, ho, hV, zb0 _ _ ha, zb0 _ _ hb, hm]
 | d + 1, i, o, c, hi, ho, hRo, hc0, hc1, hV => by
  have ra := zu0 hRa (by decide) i
  have rb := zu0 hRb (by decide) i
  have hl : (((o ++ List.replicate (d + 1 + 1) 0).length : Nat) : Int) = (i : Int) + d + 2 := by simp [ho]; omega
  refine Ev.step (f := fun k => nat_Nat_Add.l0 k n ((o ++ [(a.getD i 0 + b.getD i 0 + c) % 18446744073709551616]) ++ List.replicate (d + 1) 0) ((a.getD i 0 + b.getD i 0 + c) / 18446744073709551616) n ((i + 1 : Nat) : Int) a b) (fun k => ?_) ?_
  ·rw [nat_Nat_Add.l0, if_pos (by omega), word_some, word_some]
   simp only [Option.bind_some]
   unfold bits_Add64.f
   rw [if_pos ⟨ra.1, rb.1, hc0, hc1⟩]
   simp only [Option.bind_some]
   rw [if_pos (by omega), if_pos (by omega), Int.toNat_natCast, set_app _ _ _ ho, w64 (by omega) (by omega)]; rfl
  ·have hr := zk1 (s := a.getD i 0 + b.getD i 0 + c) (b := 18446744073709551616) (by decide)
   have hBW := BWi
   refine add_loop a b n m hRa hRb ha hb hn hm d (i + 1) _ _ (by omega) (by simp [ho]) (zz.2 ⟨hRo, zy2 hr.1 hr.2⟩) (by omega) (by omega) ?_
   rw [zh2, zm1, zm1, ho, Int.pow_succ]
   exact carry_step hV rfl
theorem add_ev (x y : Nat) (hx : (wd BW x).length ≤ 1000000) (hy : (wd BW y).length ≤ 1000000) : Ev (fun k => nat_Nat_Add.f k (wd BW x) (wd BW y)) (fitA (x + y), zw2 (x + y)) := by
 have e : mx ((wd BW x).length : Int) ((wd BW y).length : Int) = ((max (wd BW x).length (wd BW y).length : Nat) : Int) := by unfold mx; split <;> omega
 unfold nat_Nat_Add.f
 rw [e]
 generalize hn : max (wd BW x).length (wd BW y).length = n
 have e2 : wrap64 ((n : Int) + 1) = ((n + 1 : Nat) : Int) := by rw [w64 (by omega) (by omega)]; rfl
 rw [e2, Int.toNat_natCast]
 refine Ev.congr (f := fun k => nat_Nat_Add.l0 k n ([] ++ List.replicate (n + 1) 0) 0 n ((0 : Nat) : Int) (wd BW x) (wd BW y)) (fun k => by rw [if_pos (by omega), if_pos (by omega)]; rfl) ?_
 exact add_loop _ _ n (x + y) (zd2 (by decide) x) (zd2 (by decide) y) (by omega) (by omega) (by omega) (by rw [zn2 (by decide), zn2 (by decide)]; rfl) n 0 [] 0 (by omega) rfl (zj1 _) (by decide) (by decide) (by simp [V])
def cmpI (x y : Int) : Int := if x < y then -1 else if y < x then 1 else 0
theorem cmp_step {b : Int} {l m : List Int} (hb : 0 < b) (hl : R b l) (hm : R b m) (i : Nat) (h1 : i < l.length) (h2 : i < m.length) (he : V b (l.drop (i + 1)) = V b (m.drop (i + 1))) :
  (l.getD i 0 < m.getD i 0 → V b l < V b m) := by
 intro h
 have s1 := zl3 b l i
 have s2 := zl3 b m i
 rw [List.length_take, Nat.min_eq_left (by omega)] at s1 s2
 rw [zh3 b l i h1] at s1
 rw [zh3 b m i h2, ← he] at s2
 have b1 := V_lt hb (zm2 hl i)
 have b2 := zn0 hb (zm2 hm i)
 rw [List.length_take, Nat.min_eq_left (by omega)] at b1
 have hp := zo3 hb i
 generalize V b (l.drop (i + 1)) = D at s1 s2
 have : b ^ i * (l.getD i 0 + 1) ≤ b ^ i * m.getD i 0 := Int.mul_le_mul_of_nonneg_left (by omega) (by omega)
 rw [s1, s2, Int.mul_add, Int.mul_add]
 rw [Int.mul_add] at this
 omega
theorem ncmp_loop (l m : List Int) (hl : R BW l) (hm : R BW m) (he : l.length = m.length) (hs : l.length ≤ 1000000000) : ∀ i, i ≤ l.length → V BW (l.drop i) = V BW (m.drop i) →
  Ev (fun k => nat_Nat_Cmp.l0 k ((i : Int) - 1) l m) (cmpI (V BW l) (V BW m))
 | 0, _, h => by
  refine Ev.step (f := fun _ => some (cmpI (V BW l) (V BW m))) (fun k => ?_) (Ev.now _)
  rw [nat_Nat_Cmp.l0, if_neg (by omega)]
  simp only [List.drop_zero] at h
  unfold cmpI; rw [h]; simp
 | i + 1, hi, h => by
  have e1 : ((i + 1 : Nat) : Int) - 1 = (i : Int) := by omega
  by_cases heq : l.getD i 0 = m.getD i 0
  ·refine Ev.step (f := fun k => nat_Nat_Cmp.l0 k ((i : Int) - 1) l m) (fun k => ?_) (ncmp_loop l m hl hm he hs i (by omega) (by rw [zh3 _ l i (by omega), zh3 _ m i (by omega), h, heq]))
   rw [e1, nat_Nat_Cmp.l0, if_pos (by omega), if_pos (by omega), if_pos (by omega), if_pos (by omega), ze0, ze0, if_pos heq, w64 (by omega) (by omega)]
  ·refine Ev.step (f := fun _ => some (cmpI (V BW l) (V BW m))) (fun k => ?_) (Ev.now _)
   rw [e1, nat_Nat_Cmp.l0, if_pos (by omega), if_pos (by omega), if_pos (by omega), if_pos (by omega), ze0, ze0, if_neg heq]
   unfold cmpI
   by_cases hlt : l.getD i 0 < m.getD i 0
   ·rw [if_pos hlt, if_pos (cmp_step (by decide) hl hm i (by omega) (by omega) h hlt)]
   ·have := cmp_step (by decide) hm hl i (by omega) (by omega) h.symm (by omega)
    rw [if_neg hlt, if_neg (by omega), if_pos this]
def zv1 (x y : Nat) : Int := if x < y then -1 else if y < x then 1 else 0
theorem cmpN_I (x y : Nat) : cmpI x y = zv1 x y := by unfold cmpI zv1; split <;> split <;> (try split) <;> omega
theorem zw3 {b x y : Nat} (hb : 2 ≤ b) (h : (wd b x).length < (wd b y).length) : x < y := by
 have h1 := (zn (n := x) hb (wd b x).length).1 (Nat.le_refl _)
 have h2 : ¬ y < b ^ (wd b x).length := fun hh => by have := (zn (n := y) hb _).2 hh; omega
 omega
theorem ncmp_ev (x y : Nat) (hx : (wd BW x).length ≤ 1000000) : Ev (fun k => nat_Nat_Cmp.f k (wd BW x) (wd BW y)) (zv1 x y) := by
 unfold nat_Nat_Cmp.f
 by_cases h : (wd BW x).length < (wd BW y).length
 ·refine Ev.congr (f := fun _ => some (zv1 x y)) (fun k => ?_) (Ev.now _)
  have := zw3 (by decide) h
  rw [if_pos (by omega)]; unfold zv1; rw [if_pos this]
 ·by_cases h2 : (wd BW y).length < (wd BW x).length
  ·refine Ev.congr (f := fun _ => some (zv1 x y)) (fun k => ?_) (Ev.now _)
   have := zw3 (by decide) h2
   rw [if_neg (by omega), if_pos (by omega)]; unfold zv1; rw [if_neg (by omega), if_pos this]
  ·have he : (wd BW x).length = (wd BW y).length := by omega
   refine Ev.congr (f := fun k => nat_Nat_Cmp.l0 k (((wd BW x).length : Int) - 1) (wd BW x) (wd BW y)) (fun k => by rw [if_neg (by omega), if_neg (by omega), w64 (by omega) (by omega)]) ?_
   have := ncmp_loop (wd BW x) (wd BW y) (zd2 (by decide) x) (zd2 (by decide) y) he (by omega) _ (Nat.le_refl _) (by rw [List.drop_length, he, List.drop_length])
   rwa [zn2 (by decide), zn2 (by decide), cmpN_I] at this
theorem borrow_step {b P vo c A A' x y : Int} (h : vo = A - A' + P * c) (hx : 0 ≤ x) (hx2 : x < b) (hy : 0 ≤ y) (hy2 : y < b) (hc0 : 0 ≤ c) (hc1 : c ≤ 1) :
  vo + P * ((x + b - y - c) % b) = (A + P * x) - (A' + P * y) + P * b * (if x < y + c then 1 else 0) := by
 by_cases hlt : x < y + c
 ·rw [if_pos hlt, Int.emod_eq_of_lt (by omega) (by omega)]; grind
 ·have : (x + b - y - c) % b = x - y - c := by
   rw [show x + b - y - c = (x - y - c) + b by omega, Int.add_emod_right, Int.emod_eq_of_lt (by omega) (by omega)]
  rw [if_neg hlt, this]; grind
theorem sub_loop (a b : List Int) (m : Nat) (hRa : R BW a) (hRb : R BW b) (hl : b.length ≤ a.length) (hn : a.length ≤ 17592186044416) (hm : V BW a - V BW b = m) :
  ∀ (d i : Nat) (o : List Int) (c : Int), i + d = a.length → o.length = i → R BW o → 0 ≤ c → c ≤ 1 → V BW o = V BW (a.take i) - V BW (b.take i) + (BW : Int) ^ i * c →
   Ev (fun k => nat_Nat_Sub.l0 k (o ++ List.replicate d 0) c (a.length : Int) i a b) (wd BW m, 0)
 | 0, i, o, c, hi, ho, hRo, hc0, hc1, hV => by
  obtain rfl : i = a.length := by omega
  have hb := V_lt (b := (BW : Int)) (by decide) hRo
  rw [ho] at hb
  rw [zb0 _ _ (Nat.le_refl _), zb0 _ _ hl, hm] at hV
  have hp := zo3 (b := (BW : Int)) (by decide) a.length
  have hc : c = 0 := by
   rcases Int.lt_or_eq_of_le hc0 with h | h
   ·have : c = 1 := by omega
    subst this; omega
   ·exact h.symm
  subst hc
  refine Ev.step (f := fun k => (nat_norm.f k o).bind fun t => some (t, 0)) (fun k => ?_) ?_
  ·rw [nat_Nat_Sub.l0, if_neg (by omega)]; simp
  ·refine Ev.bind (ze3 o (by omega)) ?_
   rw [zf1 (n := m) (by decide) hRo (by rw [hV]; simp)]
   exact Ev.now _
 | d + 1, i, o, c, hi, ho, hRo, hc0, hc1, hV => by
  have ra := zu0 hRa (by decide) i
  have rb := zu0 hRb (by decide) i
  have hl2 : (((o ++ List.replicate (d + 1) 0).length : Nat) : Int) = (i : Int) + d + 1 := by simp [ho]; omega
  refine Ev.step (f := fun k => nat_Nat_Sub.l0 k ((o ++ [(a.getD i 0 + 18446744073709551616 - b.getD i 0 - c) % 18446744073709551616]) ++ List.replicate d 0) (if a.getD i 0 < b.getD i 0 + c then 1 else 0) (a.length : Int) ((i + 1 : Nat) : Int) a b) (fun k => ?_) ?_
  ·rw [nat_Nat_Sub.l0, if_pos (by omega), if_pos (by omega), if_pos (by omega), word_some]
   simp only [Option.bind_some]
   unfold bits_Sub64.f
   rw [ze0, if_pos ⟨⟨ra.1, rb.1, rb.2⟩, hc0, hc1⟩]
   simp only [Option.bind_some]
   rw [if_pos (by omega), Int.toNat_natCast, set_app _ _ _ ho, w64 (by omega) (by omega)]; rfl
  ·have hr := zk1 (s := a.getD i 0 + 18446744073709551616 - b.getD i 0 - c) (b := 18446744073709551616) (by decide)
   refine sub_loop a b m hRa hRb hl hn hm d (i + 1) _ _ (by omega) (by simp [ho]) (zz.2 ⟨hRo, zy2 hr.1 hr.2⟩) (by split <;> omega) (by split <;> omega) ?_
   rw [zh2, zm1, zm1, ho, Int.pow_succ]
   exact borrow_step hV ra.1 ra.2 rb.1 rb.2 hc0 hc1
theorem zy0 {b x y : Nat} (hb : 2 ≤ b) (h : x ≤ y) : (wd b x).length ≤ (wd b y).length := by
 rcases Nat.lt_or_ge (wd b y).length (wd b x).length with h2 | h2
 ·have := zw3 hb h2; omega
 ·exact h2
theorem sub_ev (x y : Nat) (hx : (wd BW x).length ≤ 1000000) : Ev (fun k => nat_Nat_Sub.f k (wd BW x) (wd BW y)) (if x < y then ([], 2) else (wd BW (x - y), 0)) := by
 unfold nat_Nat_Sub.f
 refine Ev.bind (ncmp_ev x y hx) ?_
 by_cases h : x < y
 ·refine Ev.congr (f := fun _ => some ([], 2)) (fun k => ?_) (by rw [if_pos h]; exact Ev.now _)
  unfold zv1; rw [if_pos h, if_pos (by decide)]
 ·rw [if_neg h]
  have hc : ¬ zv1 x y < 0 := by unfold zv1; rw [if_neg h]; split <;> decide
  refine Ev.congr (f := fun k => nat_Nat_Sub.l0 k ([] ++ List.replicate (wd BW x).length 0) 0 ((wd BW x).length : Int) ((0 : Nat) : Int) (wd BW x) (wd BW y)) (fun k => by rw [if_neg hc, if_pos (by omega), if_pos (by omega), Int.toNat_natCast]; rfl) ?_
  exact sub_loop _ _ (x - y) (zd2 (by decide) x) (zd2 (by decide) y) (zy0 (by decide) (by omega)) (by omega) (by rw [zn2 (by decide), zn2 (by decide)]; omega) _ 0 [] 0 (by omega) rfl (zj1 _) (by decide) (by decide) (by simp [V])
end Go.Proofs.YtgkdealidnidiaaDoor.Na
namespace Go.Proofs
open Go.Shelf
def Tryd.lays156_ren : Go.Shelf.Ren := ⟨fun | 156 => 72 | 165 => 102 | 166 => 103 | 169 => 105 | 240 => 120 | 241 => 121 | 276 => 128 | 277 => 129 | n => n, fun | 31 => 96 | 9 => 9 | 3 => 3 | 4 => 4 | 0 => 0 | 20 => 20 | 72 => 135 | 76 => 139 | 70 => 133 | 37 => 104 | 75 => 138 | 127 => 156 | 164 => 164 | 5 => 5 | 80 => 38 | n => n, fun | n => n⟩
theorem Tryd.lays156 : Go.Proofs.Lays.n156 Tryd.prog Tryd.lays156_ren := {
 mixed := by kernel_rfl
 f156 := Tryd.func72.trans (congrArg some (by kernel_rfl))
 f165 := Tryd.func102.trans (congrArg some (by kernel_rfl))
 f166 := Tryd.func103.trans (congrArg some (by kernel_rfl))
 f169 := Tryd.func105.trans (congrArg some (by kernel_rfl))
 f240 := Tryd.func120.trans (congrArg some (by kernel_rfl))
 f241 := Tryd.func121.trans (congrArg some (by kernel_rfl))
 f276 := Tryd.func128.trans (congrArg some (by kernel_rfl))
 f277 := Tryd.func129.trans (congrArg some (by kernel_rfl))
 t0 := Tryd.underlying0
 a0 := Tryd.isAgg0
 z0 := Tryd.sizeOf0
 v0 := Tryd.zeroValue0
 t3 := Tryd.underlying3
 a3 := Tryd.isAgg3
 z3 := Tryd.sizeOf3
 v3 := Tryd.zeroValue3
 t4 := Tryd.underlying4
 a4 := Tryd.isAgg4
 z4 := Tryd.sizeOf4
 v4 := Tryd.zeroValue4
 t9 := Tryd.underlying9
 a9 := Tryd.isAgg9
 z9 := Tryd.sizeOf9
 v9 := Tryd.zeroValue9
 t20 := Tryd.underlying20
 a20 := Tryd.isAgg20
 z20 := Tryd.sizeOf20
 v20 := Tryd.zeroValue20
 t31 := Tryd.underlying96
 a31 := Tryd.isAgg96
 z31 := Tryd.sizeOf96
 v31 := Tryd.zeroValue96
 t37 := Tryd.underlying104
 a37 := Tryd.isAgg104
 z37 := Tryd.sizeOf104
 v37 := Tryd.zeroValue104
 t70 := Tryd.underlying133
 a70 := Tryd.isAgg133
 z70 := Tryd.sizeOf133
 v70 := Tryd.zeroValue133
 t72 := Tryd.underlying135
 a72 := Tryd.isAgg135
 z72 := Tryd.sizeOf135
 v72 := Tryd.zeroValue135
 t75 := Tryd.underlying138
 a75 := Tryd.isAgg138
 z75 := Tryd.sizeOf138
 v75 := Tryd.zeroValue138
 t76 := Tryd.underlying139
 a76 := Tryd.isAgg139
 z76 := Tryd.sizeOf139
 v76 := Tryd.zeroValue139
 t127 := Tryd.underlying156
 a127 := Tryd.isAgg156
 z127 := Tryd.sizeOf156
 v127 := Tryd.zeroValue156
 t164 := Tryd.underlying164
 a164 := Tryd.isAgg164
 z164 := Tryd.sizeOf164
 v164 := Tryd.zeroValue164 }
theorem Tryd.Builder_Extra_156 : Builder.Extra Tryd.prog Tryd.lays156_ren := {
 sizeBuilder := by kernel_rfl
 liesBuilder := by kernel_rfl
 t5 := Tryd.underlying5
 a5 := Tryd.isAgg5
 z5 := Tryd.sizeOf5
 v5 := Tryd.zeroValue5
 infoByte := by kernel_rfl
 cellsByte := by kernel_rfl
 sizeByte := by kernel_rfl
 neB5 := by decide }
open Go.RowKit in
theorem Tryd.strings_Join (bk o c : Nat) (xs : List ByteArray) (sep : ByteArray) (w : World) (hcells : ∀ (j : Nat) x, xs[j]? = some x → w.cell? ⟨bk, o + j, none⟩ = some (.string x)) (hbk : bk < w.heap.size) (hN : xs.length ≤ 140737488355328) (hcap : xs.length ≤ c) (hlen : (Lib.join (xs.map (·.data.toList)) sep.data.toList).length ≤ 140737488355328) :
  Calls Tryd.prog 72 #[.slice (some ⟨bk, o, none⟩) xs.length c, .string sep] w fun e w' => e = .returned (.string ⟨(Lib.join (xs.map (·.data.toList)) sep.data.toList).toArray⟩) ∧ Below w.heap.size w w' := Any.strings_Join Tryd.lays156 Tryd.Builder_Extra_156 bk o c xs sep w hcells hbk hN hcap hlen
def Tryd.lays134_ren : Go.Shelf.Ren := ⟨fun | 134 => 106 | 129 => 66 | n => n, fun | 53 => 40 | 3 => 3 | 4 => 4 | 46 => 109 | 5 => 5 | 9 => 9 | n => n, fun | n => n⟩
def Tryd.lays129_ren : Go.Shelf.Ren := ⟨fun | 129 => 66 | n => n, fun | 53 => 40 | 3 => 3 | 4 => 4 | 46 => 109 | 5 => 5 | 9 => 9 | n => n, fun | n => n⟩
theorem Tryd.lays129 : Go.Proofs.Lays.n129 Tryd.prog Tryd.lays129_ren := {
 mixed := by kernel_rfl
 f129 := Tryd.func66.trans (congrArg some (by kernel_rfl))
 t3 := Tryd.underlying3
 a3 := Tryd.isAgg3
 z3 := Tryd.sizeOf3
 v3 := Tryd.zeroValue3
 t4 := Tryd.underlying4
 a4 := Tryd.isAgg4
 z4 := Tryd.sizeOf4
 v4 := Tryd.zeroValue4
 t5 := Tryd.underlying5
 a5 := Tryd.isAgg5
 z5 := Tryd.sizeOf5
 v5 := Tryd.zeroValue5
 t9 := Tryd.underlying9
 a9 := Tryd.isAgg9
 z9 := Tryd.sizeOf9
 v9 := Tryd.zeroValue9
 t46 := Tryd.underlying109
 a46 := Tryd.isAgg109
 z46 := Tryd.sizeOf109
 v46 := Tryd.zeroValue109
 t53 := Tryd.underlying40
 a53 := Tryd.isAgg40
 z53 := Tryd.sizeOf40
 v53 := Tryd.zeroValue40 }
theorem Tryd.bits_Len64 (x : Int) (w : World) (h0 : 0 ≤ x) (h1 : x ≤ 18446744073709551615) :
  Calls Tryd.prog 66 #[.int .u64 x] w fun e w' => e = .returned (.int .i64 (Lib.bitLen x.toNat)) ∧ w' = w := Any.bits_Len64 Tryd.lays129 x w h0 h1
def Tryd.lays283_ren : Go.Shelf.Ren := ⟨fun | 283 => 114 | n => n, fun | 3 => 3 | 9 => 9 | 4 => 4 | n => n, fun | n => n⟩
theorem Tryd.lays283 : Go.Proofs.Lays.n283 Tryd.prog Tryd.lays283_ren := {
 mixed := by kernel_rfl
 f283 := Tryd.func114.trans (congrArg some (by kernel_rfl))
 t3 := Tryd.underlying3
 a3 := Tryd.isAgg3
 z3 := Tryd.sizeOf3
 v3 := Tryd.zeroValue3
 t4 := Tryd.underlying4
 a4 := Tryd.isAgg4
 z4 := Tryd.sizeOf4
 v4 := Tryd.zeroValue4
 t9 := Tryd.underlying9
 a9 := Tryd.isAgg9
 z9 := Tryd.sizeOf9
 v9 := Tryd.zeroValue9 }
open Go.Lib in
theorem Tryd.internal_strconv_small (i : Nat) (h : i < 100) (w : World) :
  Calls Tryd.prog 114 #[.int .i64 i] w fun e w' => e = .returned (.string ⟨(Lib.decDigits i).toArray⟩) ∧ w' = w := Any.internal_strconv_small Tryd.lays283 i h w
def Tryd.laysM284_ren : Go.Shelf.Ren := ⟨fun | 284 => 115 | 129 => 66 | 317 => 124 | 318 => 125 | n => n, fun | 53 => 40 | 3 => 3 | 212 => 161 | 0 => 0 | 4 => 4 | 46 => 109 | 5 => 5 | 9 => 9 | n => n, fun | 17 => 2 | n => n⟩
theorem Tryd.laysM284 : Go.Proofs.LaysM.n284 Tryd.prog Tryd.laysM284_ren := {
 mixed := by kernel_rfl
 f129 := Tryd.func66.trans (congrArg some (by kernel_rfl))
 f284 := Tryd.func115.trans (congrArg some (by kernel_rfl))
 f317 := Tryd.func124.trans (congrArg some (by kernel_rfl))
 f318 := Tryd.func125.trans (congrArg some (by kernel_rfl))
 t0 := Tryd.underlying0
 a0 := Tryd.isAgg0
 z0 := Tryd.sizeOf0
 v0 := Tryd.zeroValue0
 t3 := Tryd.underlying3
 a3 := Tryd.isAgg3
 z3 := Tryd.sizeOf3
 v3 := Tryd.zeroValue3
 t4 := Tryd.underlying4
 a4 := Tryd.isAgg4
 z4 := Tryd.sizeOf4
 v4 := Tryd.zeroValue4
 t5 := Tryd.underlying5
 a5 := Tryd.isAgg5
 z5 := Tryd.sizeOf5
 v5 := Tryd.zeroValue5
 t9 := Tryd.underlying9
 a9 := Tryd.isAgg9
 z9 := Tryd.sizeOf9
 v9 := Tryd.zeroValue9
 t46 := Tryd.underlying109
 a46 := Tryd.isAgg109
 z46 := Tryd.sizeOf109
 v46 := Tryd.zeroValue109
 t53 := Tryd.underlying40
 a53 := Tryd.isAgg40
 z53 := Tryd.sizeOf40
 v53 := Tryd.zeroValue40
 t212 := Tryd.underlying161
 a212 := Tryd.isAgg161
 z212 := Tryd.sizeOf161
 v212 := Tryd.zeroValue161
 g17 := by kernel_rfl
 i0 := by kernel_rfl
 i3 := by kernel_rfl
 i4 := by kernel_rfl
 i5 := by kernel_rfl
 i9 := by kernel_rfl
 i46 := by kernel_rfl
 i53 := by kernel_rfl
 i212 := by kernel_rfl
 m17 := by kernel_rfl }
open Go.Lib in
theorem Tryd.internal_strconv_numDigits (u : Nat) (h1 : 1 ≤ u) (h2 : u < 18446744073709551616) (w : World) (htab : Lib.TabIs Tryd.prog w "internal/strconv.uint64pow10" .u64 Lib.pow10Tab) :
  Calls Tryd.prog 115 #[.int .u64 u] w fun e w' => e = .returned (.int .i64 (Lib.nDigits u)) ∧ w' = w := Any.internal_strconv_numDigits Tryd.laysM284 u h1 h2 w htab
def Tryd.lays285_ren : Go.Shelf.Ren := ⟨fun | 285 => 116 | n => n, fun | 37 => 104 | 53 => 40 | 3 => 3 | 4 => 4 | 51 => 74 | 9 => 9 | 5 => 5 | 0 => 0 | n => n, fun | n => n⟩
theorem Tryd.lays285 : Go.Proofs.Lays.n285 Tryd.prog Tryd.lays285_ren := {
 mixed := by kernel_rfl
 f285 := Tryd.func116.trans (congrArg some (by kernel_rfl))
 t0 := Tryd.underlying0
 a0 := Tryd.isAgg0
 z0 := Tryd.sizeOf0
 v0 := Tryd.zeroValue0
 t3 := Tryd.underlying3
 a3 := Tryd.isAgg3
 z3 := Tryd.sizeOf3
 v3 := Tryd.zeroValue3
 t4 := Tryd.underlying4
 a4 := Tryd.isAgg4
 z4 := Tryd.sizeOf4
 v4 := Tryd.zeroValue4
 t5 := Tryd.underlying5
 a5 := Tryd.isAgg5
 z5 := Tryd.sizeOf5
 v5 := Tryd.zeroValue5
 t9 := Tryd.underlying9
 a9 := Tryd.isAgg9
 z9 := Tryd.sizeOf9
 v9 := Tryd.zeroValue9
 t37 := Tryd.underlying104
 a37 := Tryd.isAgg104
 z37 := Tryd.sizeOf104
 v37 := Tryd.zeroValue104
 t51 := Tryd.underlying74
 a51 := Tryd.isAgg74
 z51 := Tryd.sizeOf74
 v51 := Tryd.zeroValue74
 t53 := Tryd.underlying40
 a53 := Tryd.isAgg40
 z53 := Tryd.sizeOf40
 v53 := Tryd.zeroValue40 }
open Go.RowKit Go.Sort Go.Lib in
theorem Tryd.internal_strconv_formatBase10 (blk off cap : Nat) (u : Nat) (d : Array UInt8) (w : World) (hH : Holds (fun (b : UInt8) => Value.int .u8 (b.toNat : Int)) w blk off d) (hu : u < 10 ^ d.size) (hu64 : u < 18446744073709551616) (hsz : d.size < 4611686018427387904) :
  Calls Tryd.prog 116 #[.slice (some ⟨blk, off, none⟩) d.size cap, .int .u64 u] w fun e w' =>
   e = .returned (.tuple #[]) ∧ ∃ (n v' : Nat) (dk : Array UInt8), w' = (putRow (fun (b : UInt8) => Value.int .u8 (b.toNat : Int)) w blk off dk).drewN n ∧ FmtInv d.size u 0 v' dk := Any.internal_strconv_formatBase10 Tryd.lays285 blk off cap u d w hH hu hu64 hsz
def Tryd.lays264_ren : Go.Shelf.Ren := ⟨fun | 264 => 81 | n => n, fun | 53 => 40 | 46 => 109 | n => n, fun | n => n⟩
theorem Tryd.lays264 : Go.Proofs.Lays.n264 Tryd.prog Tryd.lays264_ren := {
 mixed := by kernel_rfl
 f264 := Tryd.func81.trans (congrArg some (by kernel_rfl))
 t46 := Tryd.underlying109
 a46 := Tryd.isAgg109
 z46 := Tryd.sizeOf109
 v46 := Tryd.zeroValue109
 t53 := Tryd.underlying40
 a53 := Tryd.isAgg40
 z53 := Tryd.sizeOf40
 v53 := Tryd.zeroValue40 }
open Go.RowKit Go.Lib in
theorem Tryd.bits_Mul64 (x y : Nat) (hx : x < 18446744073709551616) (hy : y < 18446744073709551616) (w : World) :
  Calls Tryd.prog 81 #[.int .u64 x, .int .u64 y] w fun e w' => e = .returned (.tuple #[.int .u64 ((x * y / 18446744073709551616 : Nat) : Int), .int .u64 ((x * y % 18446744073709551616 : Nat) : Int)]) ∧ w' = w := Any.bits_Mul64 Tryd.lays264 x y hx hy w
def Tryd.lays105_ren : Go.Shelf.Ren := ⟨fun | 105 => 70 | 212 => 100 | 99 => 101 | 165 => 102 | 166 => 103 | 170 => 104 | 169 => 105 | 263 => 118 | 264 => 81 | 206 => 119 | 240 => 120 | 241 => 121 | 276 => 128 | 277 => 129 | n => n, fun | 9 => 9 | 3 => 3 | 4 => 4 | 20 => 20 | 0 => 0 | 46 => 109 | 109 => 130 | 5 => 5 | 72 => 135 | 76 => 139 | 51 => 74 | 146 => 154 | 53 => 40 | 148 => 111 | 70 => 133 | 37 => 104 | 75 => 138 | 127 => 156 | 164 => 164 | 80 => 38 | n => n, fun | n => n⟩
theorem Tryd.lays105 : Go.Proofs.Lays.n105 Tryd.prog Tryd.lays105_ren := {
 mixed := by kernel_rfl
 f99 := Tryd.func101.trans (congrArg some (by kernel_rfl))
 f105 := Tryd.func70.trans (congrArg some (by kernel_rfl))
 f165 := Tryd.func102.trans (congrArg some (by kernel_rfl))
 f166 := Tryd.func103.trans (congrArg some (by kernel_rfl))
 f169 := Tryd.func105.trans (congrArg some (by kernel_rfl))
 f170 := Tryd.func104.trans (congrArg some (by kernel_rfl))
 f206 := Tryd.func119.trans (congrArg some (by kernel_rfl))
 f212 := Tryd.func100.trans (congrArg some (by kernel_rfl))
 f240 := Tryd.func120.trans (congrArg some (by kernel_rfl))
 f241 := Tryd.func121.trans (congrArg some (by kernel_rfl))
 f263 := Tryd.func118.trans (congrArg some (by kernel_rfl))
 f264 := Tryd.func81.trans (congrArg some (by kernel_rfl))
 f276 := Tryd.func128.trans (congrArg some (by kernel_rfl))
 f277 := Tryd.func129.trans (congrArg some (by kernel_rfl))
 t0 := Tryd.underlying0
 a0 := Tryd.isAgg0
 z0 := Tryd.sizeOf0
 v0 := Tryd.zeroValue0
 t3 := Tryd.underlying3
 a3 := Tryd.isAgg3
 z3 := Tryd.sizeOf3
 v3 := Tryd.zeroValue3
 t4 := Tryd.underlying4
 a4 := Tryd.isAgg4
 z4 := Tryd.sizeOf4
 v4 := Tryd.zeroValue4
 t5 := Tryd.underlying5
 a5 := Tryd.isAgg5
 z5 := Tryd.sizeOf5
 v5 := Tryd.zeroValue5
 t9 := Tryd.underlying9
 a9 := Tryd.isAgg9
 z9 := Tryd.sizeOf9
 v9 := Tryd.zeroValue9
 t20 := Tryd.underlying20
 a20 := Tryd.isAgg20
 z20 := Tryd.sizeOf20
 v20 := Tryd.zeroValue20
 t37 := Tryd.underlying104
 a37 := Tryd.isAgg104
 z37 := Tryd.sizeOf104
 v37 := Tryd.zeroValue104
 t46 := Tryd.underlying109
 a46 := Tryd.isAgg109
 z46 := Tryd.sizeOf109
 v46 := Tryd.zeroValue109
 t51 := Tryd.underlying74
 a51 := Tryd.isAgg74
 z51 := Tryd.sizeOf74
 v51 := Tryd.zeroValue74
 t53 := Tryd.underlying40
 a53 := Tryd.isAgg40
 z53 := Tryd.sizeOf40
 v53 := Tryd.zeroValue40
 t70 := Tryd.underlying133
 a70 := Tryd.isAgg133
 z70 := Tryd.sizeOf133
 v70 := Tryd.zeroValue133
 t72 := Tryd.underlying135
 a72 := Tryd.isAgg135
 z72 := Tryd.sizeOf135
 v72 := Tryd.zeroValue135
 t75 := Tryd.underlying138
 a75 := Tryd.isAgg138
 z75 := Tryd.sizeOf138
 v75 := Tryd.zeroValue138
 t76 := Tryd.underlying139
 a76 := Tryd.isAgg139
 z76 := Tryd.sizeOf139
 v76 := Tryd.zeroValue139
 t109 := Tryd.underlying130
 a109 := Tryd.isAgg130
 z109 := Tryd.sizeOf130
 v109 := Tryd.zeroValue130
 t127 := Tryd.underlying156
 a127 := Tryd.isAgg156
 z127 := Tryd.sizeOf156
 v127 := Tryd.zeroValue156
 t146 := Tryd.underlying154
 a146 := Tryd.isAgg154
 z146 := Tryd.sizeOf154
 v146 := Tryd.zeroValue154
 t148 := Tryd.underlying111
 a148 := Tryd.isAgg111
 z148 := Tryd.sizeOf111
 v148 := Tryd.zeroValue111
 t164 := Tryd.underlying164
 a164 := Tryd.isAgg164
 z164 := Tryd.sizeOf164
 v164 := Tryd.zeroValue164 }
theorem Tryd.Builder_Extra_105 : Builder.Extra Tryd.prog Tryd.lays105_ren := {
 sizeBuilder := by kernel_rfl
 liesBuilder := by kernel_rfl
 t5 := Tryd.underlying5
 a5 := Tryd.isAgg5
 z5 := Tryd.sizeOf5
 v5 := Tryd.zeroValue5
 infoByte := by kernel_rfl
 cellsByte := by kernel_rfl
 sizeByte := by kernel_rfl
 neB5 := by decide }
open Go.RowKit Go.Lib in
theorem Tryd.strings_Repeat (s : ByteArray) (c : Nat) (w : World) (hc : c ≤ 9223372036854775807) (hlen : s.size * c ≤ 140737488355328) :
  Calls Tryd.prog 70 #[.string s, .int .i64 c] w fun e w' => e = .returned (.string ⟨(Lib.repeatL s.data.toList c).toArray⟩) ∧ Below w.heap.size w w' := Any.strings_Repeat Tryd.lays105 Tryd.Builder_Extra_105 s c w hc hlen
def Tryd.laysNm217_ren : Go.Shelf.Ren := ⟨fun | 17 => 71 | n => n, fun | 24 => 96 | 9 => 9 | 3 => 3 | 4 => 4 | 0 => 0 | n => n, fun | n => n⟩
theorem Tryd.laysNm217 : Go.Proofs.Lays2.n17 Tryd.prog Tryd.laysNm217_ren := {
 mixed := by kernel_rfl
 f17 := Tryd.func71.trans (congrArg some (by kernel_rfl))
 t0 := Tryd.underlying0
 a0 := Tryd.isAgg0
 z0 := Tryd.sizeOf0
 v0 := Tryd.zeroValue0
 t3 := Tryd.underlying3
 a3 := Tryd.isAgg3
 z3 := Tryd.sizeOf3
 v3 := Tryd.zeroValue3
 t4 := Tryd.underlying4
 a4 := Tryd.isAgg4
 z4 := Tryd.sizeOf4
 v4 := Tryd.zeroValue4
 t9 := Tryd.underlying9
 a9 := Tryd.isAgg9
 z9 := Tryd.sizeOf9
 v9 := Tryd.zeroValue9
 t24 := Tryd.underlying96
 a24 := Tryd.isAgg96
 z24 := Tryd.sizeOf96
 v24 := Tryd.zeroValue96 }
open Go.RowKit Go.Lib Go.Sort in
theorem Tryd.slices_Reverse_string (blk off cap : Nat) (zs : List (List UInt8)) (w : World) (hH : Holds encStr w blk off zs.toArray) (hsz : zs.length ≤ 9223372036854775807) :
  Calls Tryd.prog 71 #[.slice (some ⟨blk, off, none⟩) zs.length cap] w fun e w' => e = .returned (.tuple #[]) ∧ ∃ n, w' = putRow encStr (Sort.ahead w n) blk off zs.reverse.toArray := Any.slices_Reverse_string Tryd.laysNm217 blk off cap zs w hH hsz
end Go.Proofs
namespace Go.Proofs.YtgkdealidnidiaaDoor.Na
open Go.RowKit Go.Proofs.YtgkdealidnidiaaDoorW.PrintWords Go.Proofs.YtgkdealidnidiaaDoorW.PrintLast Go.Proofs.YtgkdealidnidiaaDoorW.PrintMore
attribute [local go_sem] zx0 zd1
def bits_Mul64.f (a0 : Int) (a1 : Int) : Option (Int × Int) := if (0 ≤ a0 ∧ a0 < 18446744073709551616) ∧ 0 ≤ a1 ∧ a1 < 18446744073709551616 then some (a0 * a1 / 18446744073709551616, a0 * a1 % 18446744073709551616) else none
theorem bits_Mul64.calls (a0 : Int) (a1 : Int) (r1 : Int) (r2 : Int) (w : World) (h : bits_Mul64.f a0 a1 = some (r1, r2)) :
  Calls Tryd.prog 81 #[.int .u64 a0, .int .u64 a1] w fun e w' => e = .returned (.tuple #[.int .u64 r1, .int .u64 r2]) ∧ D0 w w' := by
 unfold bits_Mul64.f at h
 split at h
 ·rename_i hc
  obtain ⟨⟨h0, h1⟩, h2, h3⟩ := hc
  obtain ⟨x, rfl⟩ := Int.eq_ofNat_of_zero_le h0
  obtain ⟨y, rfl⟩ := Int.eq_ofNat_of_zero_le h2
  simp only [Option.some.injEq, Prod.mk.injEq] at h
  obtain ⟨rfl, rfl⟩ := h
  refine (Tryd.bits_Mul64 x y (by omega) (by omega) w).mono ?_
  rintro e w' ⟨rfl, rfl⟩
  exact ⟨by simp, D0.refl _⟩
 ·exact absurd h (by simp)
def bits_Len64.f (k : Nat) (a0 : Int) : Option (Int) := match k with
 | 0 => none
 | _ + 1 => if 0 ≤ a0 ∧ a0 ≤ 18446744073709551615 then some (Lib.bitLen a0.toNat) else none
theorem bits_Len64.calls (k : Nat) (a0 : Int) (r : Int) (w : World) (h : bits_Len64.f k a0 = some r) :
  Calls Tryd.prog 66 #[.int .u64 a0] w fun e w' => e = .returned (.int .i64 r) ∧ D0 w w' := by
 cases k with
 | zero => simp [bits_Len64.f] at h
 | succ k =>
  simp only [bits_Len64.f] at h
  split at h
  ·rename_i hc
   obtain rfl := Option.some.inj h
   refine (Tryd.bits_Len64 a0 w hc.1 hc.2).mono ?_
   rintro e w' ⟨rfl, rfl⟩
   exact ⟨rfl, D0.refl _⟩
  ·exact absurd h (by simp)
def nat_Nat_Bits.f (k : Nat) (l0_0 : List Int) : Option (Int) := if (l0_0.length : Int) = 0 then (some 0) else (if 0 ≤ (wrap64 ((l0_0.length : Int) - 1)) then (if (wrap64 ((l0_0.length : Int) - 1)) < (l0_0.length : Int) then ((bits_Len64.f k (rd l0_0 (wrap64 ((l0_0.length : Int) - 1)))).bind fun t127 => (some (wrap64 ((wrap64 (64 * (wrap64 ((l0_0.length : Int) - 1)))) + t127)))) else (none)) else (none))
theorem nat_Nat_Bits.calls (k : Nat) (A0_0 : Option Addr) (c0_0 : Nat) (l0_0 : List Int) (r : Int) (w : World) (hr0_0 : Kd.C (Kd.int .u64) w A0_0 l0_0.length l0_0) (hc0_0 : l0_0.length ≤ c0_0) (h : nat_Nat_Bits.f k l0_0 = some r) :
  Calls Tryd.prog 20 #[.agg #[.slice A0_0 l0_0.length c0_0]] w fun e w' => e = .returned (.int .i64 r) ∧ Below w.heap.size w w' := by
 have hu29 := Tryd.underlying29
 have HR0_0 := Q0.mk hr0_0
 have HC0_0 := Q0.mk hc0_0
 clear hr0_0 hc0_0
 have HB := Q0.mk (Below.refl w.heap.size w)
 have H : (if (l0_0.length : Int) = 0 then (some 0) else (if 0 ≤ (wrap64 ((l0_0.length : Int) - 1)) then (if (wrap64 ((l0_0.length : Int) - 1)) < (l0_0.length : Int) then ((bits_Len64.f k (rd l0_0 (wrap64 ((l0_0.length : Int) - 1)))).bind fun t127 => (some (wrap64 ((wrap64 (64 * (wrap64 ((l0_0.length : Int) - 1)))) + t127)))) else (none)) else (none))) = some r := h
 clear h
 by_cases c2 : (l0_0.length : Int) = 0
 ·rw [if_pos c2] at H
  have c2b0 : ((l0_0.length : Int) == 0) = true := beq_iff_eq.mpr c2
  have c2b1 : ((l0_0.length : Int) != 0) = false := bne_eq_false_iff_eq.mpr c2
  clear c2
  obtain rfl := Option.some.inj H
  go_enter Tryd.func20, Tryd.ntmps20
  go_wp2_with (first | ((with_reducible refine gD (N := 1) rfl ?_); refine xE ?hg (N := 1) ?hd (cs := #[.slice A0_0 l0_0.length c0_0]) (t := 29) ?hr ?_; (case hd => rfl); (case hg => rfl); (case hr => first | (go_simp; done) | (go_simp; rfl)); intro gb125 hg w3 hbox hb; have q_ := zm (w := w) hb (by repeat (first | (with_reducible first | exact HB.out | apply bA | apply bN | apply b1_) | exact HB.out)); replace HB := Q0.mk (bP q_ hb); have BK125 := Q0.mk (hbox); have GW125 := Q0.mk ((by rw [hg]; exact (bZ q_) : w.heap.size ≤ gb125)); have GE125 := GW125; clear q_; clear hb hbox hg; have hcz4_0 : w3.cell? ⟨gb125, 0, none⟩ = some (.slice A0_0 l0_0.length c0_0) := (kC BK125.out 0).trans rfl; have hfz4_0 := kF BK125.out 0))
  repeat (go_quiet (first | ((with_reducible refine gD (N := 1) rfl ?_); refine xE ?hg (N := 1) ?hd (cs := #[.slice A0_0 l0_0.length c0_0]) (t := 29) ?hr ?_; (case hd => rfl); (case hg => rfl); (case hr => first | (go_simp; done) | (go_simp; rfl)); intro gb125 hg w3 hbox hb; have q_ := zm (w := w) hb (by repeat (first | (with_reducible first | exact HB.out | apply bA | apply bN | apply b1_) | exact HB.out)); replace HB := Q0.mk (bP q_ hb); have BK125 := Q0.mk (hbox); have GW125 := Q0.mk ((by rw [hg]; exact (bZ q_) : w.heap.size ≤ gb125)); have GE125 := GW125; clear q_; clear hb hbox hg; have hcz4_0 : w3.cell? ⟨gb125, 0, none⟩ = some (.slice A0_0 l0_0.length c0_0) := (kC BK125.out 0).trans rfl; have hfz4_0 := kF BK125.out 0)); try go_wp2_with (first | ((with_reducible refine gD (N := 1) rfl ?_); refine xE ?hg (N := 1) ?hd (cs := #[.slice A0_0 l0_0.length c0_0]) (t := 29) ?hr ?_; (case hd => rfl); (case hg => rfl); (case hr => first | (go_simp; done) | (go_simp; rfl)); intro gb125 hg w3 hbox hb; have q_ := zm (w := w) hb (by repeat (first | (with_reducible first | exact HB.out | apply bA | apply bN | apply b1_) | exact HB.out)); replace HB := Q0.mk (bP q_ hb); have BK125 := Q0.mk (hbox); have GW125 := Q0.mk ((by rw [hg]; exact (bZ q_) : w.heap.size ≤ gb125)); have GE125 := GW125; clear q_; clear hb hbox hg; have hcz4_0 : w3.cell? ⟨gb125, 0, none⟩ = some (.slice A0_0 l0_0.length c0_0) := (kC BK125.out 0).trans rfl; have hfz4_0 := kF BK125.out 0)))
  go_ret
  exact ⟨by first | rfl | (simp [eN, eS] <;> rfl) | (simp [*, eN, eS] <;> rfl), by repeat (first | (with_reducible first | exact HB.out | apply bA | apply bN | apply b1_ | refine bS ?_ GE125.out) | exact HB.out)⟩
 ·rw [if_neg c2] at H
  have c2b0 : ((l0_0.length : Int) == 0) = false := beq_eq_false_iff_ne.mpr c2
  have c2b1 : ((l0_0.length : Int) != 0) = true := bne_iff_ne.mpr c2
  have c2b2 : ¬ (l0_0 = []) := fun h_ => c2 (by rw [h_]; rfl)
  obtain ⟨ji5, hji5⟩ : ∃ j_ : Int, (wrap64 ((l0_0.length : Int) - 1)) = j_ := ⟨_, rfl⟩
  replace H : (if 0 ≤ (ji5) then (if (ji5) < (l0_0.length : Int) then ((bits_Len64.f k (rd l0_0 (ji5))).bind fun t127 => (some (wrap64 ((wrap64 (64 * (ji5))) + t127)))) else (none)) else (none)) = some r := by first | (rw [hji5] at H; exact H) | (simp only [hji5] at H ⊢; exact H)
  have hji5w : (IntKind.i64.wrap ((l0_0.length : Int) - 1)) = ji5 := (iw _).trans hji5
  by_cases c6 : 0 ≤ (ji5)
  ·rw [if_pos c6] at H
   have c6b0 : decide (0 ≤ (ji5)) = true := decide_eq_true c6
   clear c6
   by_cases c7 : (ji5) < (l0_0.length : Int)
   ·rw [if_pos c7] at H
    have c7b0 : decide ((ji5) < (l0_0.length : Int)) = true := decide_eq_true c7
    clear c7
    replace H := Option.bind_eq_some_iff.mp H
    obtain ⟨t127, A80, H⟩ := H
    have A8 := Q0.mk A80
    clear A80
    obtain rfl := Option.some.inj H
    go_enter Tryd.func20, Tryd.ntmps20
    go_wp2_with (first | ((with_reducible refine gD (N := 1) rfl ?_); refine xE ?hg (N := 1) ?hd (cs := #[.slice A0_0 l0_0.length c0_0]) (t := 29) ?hr ?_; (case hd => rfl); (case hg => rfl); (case hr => first | (go_simp; done) | (go_simp; rfl)); intro gb125 hg w9 hbox hb; have q_ := zm (w := w) hb (by repeat (first | (with_reducible first | exact HB.out | apply bA | apply bN | apply b1_) | exact HB.out)); replace HB := Q0.mk (bP q_ hb); have BK125 := Q0.mk (hbox); have GW125 := Q0.mk ((by rw [hg]; exact (bZ q_) : w.heap.size ≤ gb125)); have GE125 := GW125; clear q_; clear hb hbox hg; have hcz10_0 : w9.cell? ⟨gb125, 0, none⟩ = some (.slice A0_0 l0_0.length c0_0) := (kC BK125.out 0).trans rfl; have hfz10_0 := kF BK125.out 0; have p126 : 0 ≤ ((ji5) : Int) := of_decide_eq_true (by first | (with_reducible assumption) | assumption); have q126 : (ji5) < (l0_0.length : Int) := of_decide_eq_true (by first | (with_reducible assumption) | assumption); obtain ⟨ad126, e126, hx126_0⟩ := Kd.zk HR0_0.out (ji5) p126 q126; cases e126; replace hx126_0 := (HB.out.cell (World.block_lt_of_cell? w _ hx126_0)).trans hx126_0; replace p126 := eq_true p126; replace q126 := eq_true q126) | (go_at_call 66; (with_reducible refine (bits_Len64.calls k (rd l0_0 (ji5)) t127 _ A8.out).mono ?_); rintro e w' ⟨rfl, ⟨nd, rfl⟩⟩; (try first | exact ⟨rfl, _, World.drewN_drewN _ _ _⟩ | exact ⟨rfl, _, Eq.trans (World.drewN_drewN _ _ _) (congrArg (World.drewN _) (Nat.add_assoc _ _ _))⟩)))
    repeat (go_quiet (first | ((with_reducible refine gD (N := 1) rfl ?_); refine xE ?hg (N := 1) ?hd (cs := #[.slice A0_0 l0_0.length c0_0]) (t := 29) ?hr ?_; (case hd => rfl); (case hg => rfl); (case hr => first | (go_simp; done) | (go_simp; rfl)); intro gb125 hg w9 hbox hb; have q_ := zm (w := w) hb (by repeat (first | (with_reducible first | exact HB.out | apply bA | apply bN | apply b1_) | exact HB.out)); replace HB := Q0.mk (bP q_ hb); have BK125 := Q0.mk (hbox); have GW125 := Q0.mk ((by rw [hg]; exact (bZ q_) : w.heap.size ≤ gb125)); have GE125 := GW125; clear q_; clear hb hbox hg; have hcz10_0 : w9.cell? ⟨gb125, 0, none⟩ = some (.slice A0_0 l0_0.length c0_0) := (kC BK125.out 0).trans rfl; have hfz10_0 := kF BK125.out 0; have p126 : 0 ≤ ((ji5) : Int) := of_decide_eq_true (by first | (with_reducible assumption) | assumption); have q126 : (ji5) < (l0_0.length : Int) := of_decide_eq_true (by first | (with_reducible assumption) | assumption); obtain ⟨ad126, e126, hx126_0⟩ := Kd.zk HR0_0.out (ji5) p126 q126; cases e126; replace hx126_0 := (HB.out.cell (World.block_lt_of_cell? w _ hx126_0)).trans hx126_0; replace p126 := eq_true p126; replace q126 := eq_true q126) | (go_at_call 66; (with_reducible refine (bits_Len64.calls k (rd l0_0 (ji5)) t127 _ A8.out).mono ?_); rintro e w' ⟨rfl, ⟨nd, rfl⟩⟩; (try first | exact ⟨rfl, _, World.drewN_drewN _ _ _⟩ | exact ⟨rfl, _, Eq.trans (World.drewN_drewN _ _ _) (congrArg (World.drewN _) (Nat.add_assoc _ _ _))⟩))); try go_wp2_with (first | ((with_reducible refine gD (N := 1) rfl ?_); refine xE ?hg (N := 1) ?hd (cs := #[.slice A0_0 l0_0.length c0_0]) (t := 29) ?hr ?_; (case hd => rfl); (case hg => rfl); (case hr => first | (go_simp; done) | (go_simp; rfl)); intro gb125 hg w9 hbox hb; have q_ := zm (w := w) hb (by repeat (first | (with_reducible first | exact HB.out | apply bA | apply bN | apply b1_) | exact HB.out)); replace HB := Q0.mk (bP q_ hb); have BK125 := Q0.mk (hbox); have GW125 := Q0.mk ((by rw [hg]; exact (bZ q_) : w.heap.size ≤ gb125)); have GE125 := GW125; clear q_; clear hb hbox hg; have hcz10_0 : w9.cell? ⟨gb125, 0, none⟩ = some (.slice A0_0 l0_0.length c0_0) := (kC BK125.out 0).trans rfl; have hfz10_0 := kF BK125.out 0; have p126 : 0 ≤ ((ji5) : Int) := of_decide_eq_true (by first | (with_reducible assumption) | assumption); have q126 : (ji5) < (l0_0.length : Int) := of_decide_eq_true (by first | (with_reducible assumption) | assumption); obtain ⟨ad126, e126, hx126_0⟩ := Kd.zk HR0_0.out (ji5) p126 q126; cases e126; replace hx126_0 := (HB.out.cell (World.block_lt_of_cell? w _ hx126_0)).trans hx126_0; replace p126 := eq_true p126; replace q126 := eq_true q126) | (go_at_call 66; (with_reducible refine (bits_Len64.calls k (rd l0_0 (ji5)) t127 _ A8.out).mono ?_); rintro e w' ⟨rfl, ⟨nd, rfl⟩⟩; (try first | exact ⟨rfl, _, World.drewN_drewN _ _ _⟩ | exact ⟨rfl, _, Eq.trans (World.drewN_drewN _ _ _) (congrArg (World.drewN _) (Nat.add_assoc _ _ _))⟩))))
    go_ret
    exact ⟨by first | rfl | (simp [eN, eS] <;> rfl) | (simp only [← hji5]; first | rfl | (simp [eN, eS] <;> rfl)) | (simp [*, eN, eS] <;> rfl), by repeat (first | (with_reducible first | exact HB.out | apply bA | apply bN | apply b1_ | refine bS ?_ GE125.out) | exact HB.out)⟩
   ·rw [if_neg c7] at H
    exact absurd H (by simp)
  ·rw [if_neg c6] at H
   exact absurd H (by simp)
mutual
def nat_Nat_Mul.l0 : Nat → List Int → Int → Int → List Int → List Int → Option (List Int × Int)
 | 0, _, _, _, _, _ => none
 | k + 1, x6, x30, x31, x382000, x383000 => if x31 < x30 then (nat_Nat_Mul.l1 k x6 x31 0 x30 x31 (x383000.length : Int) 0 x382000 x383000) else ((nat_fit.f k x6).bind fun bt389 => (some (bt389.1, bt389.2)))
def nat_Nat_Mul.l1 : Nat → List Int → Int → Int → Int → Int → Int → Int → List Int → List Int → Option (List Int × Int)
 | 0, _, _, _, _, _, _, _, _, _ => none
 | k + 1, x6, x7, x8, x30, x31, x36, x37, x382000, x383000 => if x37 < x36 then (if 0 ≤ x7 then (if x7 < (x382000.length : Int) then (if 0 ≤ x37 then (if x37 < (x383000.length : Int) then ((bits_Mul64.f (rd x382000 x7) (rd x383000 x37)).bind fun bt395 => (if 0 ≤ (wrap64 (x7 + x37)) then (if (wrap64 (x7 + x37)) < (x6.length : Int) then ((bits_Add64.f bt395.2 (rd x6 (wrap64 (x7 + x37))) 0).bind fun bt398 => ((bits_Add64.f bt398.1 x8 0).bind fun bt400 => (nat_Nat_Mul.l1 k (x6.set ((wrap64 (x7 + x37)) : Int).toNat bt400.1) x7 (IntKind.u64.wrap ((IntKind.u64.wrap (bt395.1 + bt398.2)) + bt400.2)) x30 x31 x36 (wrap64 (x37 + 1)) x382000 x383000))) else (none)) else (none))) else (none)) else (none)) else (none)) else (none)) else (if 0 ≤ (wrap64 (x7 + (x383000.length : Int))) then (if (wrap64 (x7 + (x383000.length : Int))) < (x6.length : Int) then (nat_Nat_Mul.l0 k (x6.set ((wrap64 (x7 + (x383000.length : Int))) : Int).toNat x8) x30 (wrap64 (x31 + 1)) x382000 x383000) else (none)) else (none))
end
def nat_Nat_Mul.f (k : Nat) (l0_0 : List Int) (l1_0 : List Int) : Option (List Int × Int) := (nat_Nat_Bits.f k l0_0).bind fun t384 => ((nat_Nat_Bits.f k l1_0).bind fun t385 => (if (wrap64 (t384 + t385)) > 4097 then (some (([] : List Int), 1)) else (if 0 ≤ (wrap64 ((l0_0.length : Int) + (l1_0.length : Int))) then (if (wrap64 ((l0_0.length : Int) + (l1_0.length : Int)) : Int).toNat ≤ 35184372088832 then (nat_Nat_Mul.l0 k (List.replicate (wrap64 ((l0_0.length : Int) + (l1_0.length : Int)) : Int).toNat 0) (l0_0.length : Int) 0 l0_0 l1_0) else (none)) else (none))))
def nat_Nat_Mul.T11 : Bool × List (List Nat × List Nat) := (true, [([], []), ([0], [0]), ([], []), ([1, 2], [1, 2]), ([3], [3]), ([], []), ([5], [5]), ([], []), ([6, 7], [6, 7]), ([8], [8]), ([4, 9], [4, 9]), ([10], [10]), ([11], [11]), ([11], [11]), ([12, 10, 0, 1, 2, 3, 4, 5, 6, 7, 8, 9, 10, 11, 12], [12]), ([13, 14, 0, 1, 2, 3, 4, 5, 6, 7, 8, 9, 10, 11, 12, 13, 14], [13])])
def nat_Nat_Mul.B11 : List Nat := [0, 1, 0, 7, 15, 0, 32, 0, 224, 480, 1023, 2047, 4095, 4095, 8191, 32767]
theorem nat_Nat_Mul.tab11 : zo2 .any (opsOf Tryd.f33 11) = nat_Nat_Mul.T11 := by kernel_rfl
theorem nat_Nat_Mul.bits11 : zf2 nat_Nat_Mul.T11.2 nat_Nat_Mul.B11 = true := by kernel_rfl
theorem nat_Nat_Mul.calls (k : Nat) (A0_0 : Option Addr) (c0_0 : Nat) (l0_0 : List Int) (A1_0 : Option Addr) (c1_0 : Nat) (l1_0 : List Int) (r1 : List Int) (r2 : Int) (w : World) (hr0_0 : Kd.C (Kd.int .u64) w A0_0 l0_0.length l0_0) (hc0_0 : l0_0.length ≤ c0_0) (hr1_0 : Kd.C (Kd.int .u64) w A1_0 l1_0.length l1_0) (hc1_0 : l1_0.length ≤ c1_0) (h : nat_Nat_Mul.f k l0_0 l1_0 = some (r1, r2)) :
  Calls Tryd.prog 33 #[.agg #[.slice A0_0 l0_0.length c0_0], .agg #[.slice A1_0 l1_0.length c1_0]] w fun e w' => ∃ v0_ : Value, e = .returned (.tuple #[.agg #[v0_], .int .i64 r2]) ∧ Kd.V (Kd.int .u64) 40 w' w.heap.size (fun k_ => (w.heap.size ≤ k_)) v0_ r1 ∧ Below w.heap.size w w' := by
 have hu29 := Tryd.underlying29
 have HR0_0 := Q0.mk hr0_0
 have HC0_0 := Q0.mk hc0_0
 clear hr0_0 hc0_0
 have HR1_0 := Q0.mk hr1_0
 have HC1_0 := Q0.mk hc1_0
 clear hr1_0 hc1_0
 have HB := Q0.mk (Below.refl w.heap.size w)
 have H : ((nat_Nat_Bits.f k l0_0).bind fun t384 => ((nat_Nat_Bits.f k l1_0).bind fun t385 => (if (wrap64 (t384 + t385)) > 4097 then (some (([] : List Int), 1)) else (if 0 ≤ (wrap64 ((l0_0.length : Int) + (l1_0.length : Int))) then (if (wrap64 ((l0_0.length : Int) + (l1_0.length : Int)) : Int).toNat ≤ 35184372088832 then (nat_Nat_Mul.l0 k (List.replicate (wrap64 ((l0_0.length : Int) + (l1_0.length : Int)) : Int).toNat 0) (l0_0.length : Int) 0 l0_0 l1_0) else (none)) else (none))))) = some (r1, r2) := h
 clear h
 replace H := Option.bind_eq_some_iff.mp H
 obtain ⟨t384, A30, H⟩ := H
 replace H : ((nat_Nat_Bits.f k l1_0).bind fun t385 => (if (wrap64 (t384 + t385)) > 4097 then (some (([] : List Int), 1)) else (if 0 ≤ (wrap64 ((l0_0.length : Int) + (l1_0.length : Int))) then (if (wrap64 ((l0_0.length : Int) + (l1_0.length : Int)) : Int).toNat ≤ 35184372088832 then (nat_Nat_Mul.l0 k (List.replicate (wrap64 ((l0_0.length : Int) + (l1_0.length : Int)) : Int).toNat 0) (l0_0.length : Int) 0 l0_0 l1_0) else (none)) else (none)))) = some (r1, r2) := H
 have A3 := Q0.mk A30
 clear A30
 replace H := Option.bind_eq_some_iff.mp H
 obtain ⟨t385, A40, H⟩ := H
 replace H : (if (wrap64 (t384 + t385)) > 4097 then (some (([] : List Int), 1)) else (if 0 ≤ (wrap64 ((l0_0.length : Int) + (l1_0.length : Int))) then (if (wrap64 ((l0_0.length : Int) + (l1_0.length : Int)) : Int).toNat ≤ 35184372088832 then (nat_Nat_Mul.l0 k (List.replicate (wrap64 ((l0_0.length : Int) + (l1_0.length : Int)) : Int).toNat 0) (l0_0.length : Int) 0 l0_0 l1_0) else (none)) else (none))) = some (r1, r2) := H
 have A4 := Q0.mk A40
 clear A40
 by_cases c5 : (wrap64 (t384 + t385)) > 4097
 ·rw [if_pos c5] at H
  have c5b0 : decide (4097 < (wrap64 (t384 + t385))) = true := decide_eq_true c5
  clear c5
  simp only [Option.some.injEq, Prod.mk.injEq] at H
  obtain ⟨rfl, rfl⟩ := H
  go_enter Tryd.func33, Tryd.ntmps33
  try go_wp2_with (first | ((with_reducible refine gD (N := 2) rfl ?_); refine xE ?hg (N := 2) ?hd (cs := #[.slice A0_0 l0_0.length c0_0]) (t := 29) ?hr ?_; (case hd => rfl); (case hg => rfl); (case hr => first | (go_simp; done) | (go_simp; rfl)); intro gb381 hg w6 hbox hb; have q_ := zm (w := w) hb (by repeat (first | (with_reducible first | exact HB.out | apply bA | apply bN | apply b1_) | exact HB.out)); replace HB := Q0.mk (bP q_ hb); have BK381 := Q0.mk (hbox); have GW381 := Q0.mk ((by rw [hg]; exact (bZ q_) : w.heap.size ≤ gb381)); have GE381 := GW381; clear q_; clear hb hbox hg) | ((with_reducible refine gD (N := 3) rfl ?_); refine xE ?hg (N := 3) ?hd (cs := #[.slice A1_0 l1_0.length c1_0]) (t := 29) ?hr ?_; (case hd => rfl); (case hg => rfl); (case hr => first | (go_simp; done) | (go_simp; rfl)); intro gb382 hg w7 hbox hb; have q_ := zm (w := w) hb (by repeat (first | (with_reducible first | exact HB.out | apply bA | apply bN | apply b1_ | refine bS ?_ GE381.out) | exact HB.out)); replace HB := Q0.mk (bP q_ hb); have BK382 := Q0.mk (hbox); have GW382 := Q0.mk ((by rw [hg]; exact (bZ q_) : w.heap.size ≤ gb382)); have GE382 := GW382; have NB381_382 := Q0.mk ((by rw [hg]; exact Nat.ne_of_lt (zj0 (g := gb381) (o := .cells #[.slice A0_0 l0_0.length c0_0] 29 (0, 0)) (by (with_reducible repeat (first | refine kN ?_ _ | refine kD ?_ | refine kA ?_ _)); exact BK381.out)) : gb381 ≠ gb382)); replace BK381 := Q0.mk (kB (g := gb381) (o := .cells #[.slice A0_0 l0_0.length c0_0] 29 (0, 0)) (by (with_reducible repeat (first | refine kN ?_ _ | refine kD ?_ | refine kA ?_ _)); exact BK381.out) hb); have NB382_381 := Q0.mk NB381_382.out.symm; clear q_; clear hb hbox hg) | ((with_reducible refine gD (N := 4) rfl ?_); refine xE ?hg (N := 4) ?hd (cs := #[.slice none 0 0]) (t := 29) ?hr ?_; (case hd => rfl); (case hg => rfl); (case hr => first | (go_simp; done) | (go_simp; rfl)); intro gb383 hg w8 hbox hb; have q_ := zm (w := w) hb (by repeat (first | (with_reducible first | exact HB.out | apply bA | apply bN | apply b1_ | refine bS ?_ GE381.out | refine bS ?_ GE382.out) | exact HB.out)); replace HB := Q0.mk (bP q_ hb); have BK383 := Q0.mk (hbox); have GW383 := Q0.mk ((by rw [hg]; exact (bZ q_) : w.heap.size ≤ gb383)); have GE383 := GW383; have NB381_383 := Q0.mk ((by rw [hg]; exact Nat.ne_of_lt (zj0 (g := gb381) (o := .cells #[.slice A0_0 l0_0.length c0_0] 29 (0, 0)) (by (with_reducible repeat (first | refine kN ?_ _ | refine kD ?_ | refine kA ?_ _)); exact BK381.out)) : gb381 ≠ gb383)); replace BK381 := Q0.mk (kB (g := gb381) (o := .cells #[.slice A0_0 l0_0.length c0_0] 29 (0, 0)) (by (with_reducible repeat (first | refine kN ?_ _ | refine kD ?_ | refine kA ?_ _)); exact BK381.out) hb); have NB383_381 := Q0.mk NB381_383.out.symm; have NB382_383 := Q0.mk ((by rw [hg]; exact Nat.ne_of_lt (zj0 (g := gb382) (o := .cells #[.slice A1_0 l1_0.length c1_0] 29 (0, 0)) (by (with_reducible repeat (first | refine kN ?_ _ | refine kD ?_ | refine kA ?_ _)); exact BK382.out)) : gb382 ≠ gb383)); replace BK382 := Q0.mk (kB (g := gb382) (o := .cells #[.slice A1_0 l1_0.length c1_0] 29 (0, 0)) (by (with_reducible repeat (first | refine kN ?_ _ | refine kD ?_ | refine kA ?_ _)); exact BK382.out) hb); have NB383_382 := Q0.mk NB382_383.out.symm; clear q_; clear hb hbox hg))
  have n0_ := Q0.mk (kD BK381.out)
  have n1_ := Q0.mk (kD BK382.out)
  have n2_ := Q0.mk (kD BK383.out)
  have n3_ := Q0.mk (b1_ HB.out)
  clear BK381
  clear BK382
  clear BK383
  clear HB
  have BK381 := n0_
  have BK382 := n1_
  have BK383 := n2_
  have HB := n3_
  clear n0_ n1_ n2_ n3_
  refine zt0 (n := 6) (S := fun w' => w'.cell? ⟨gb381, 0, none⟩ = some (.slice A0_0 l0_0.length c0_0) ∧ w'.cell? ⟨gb382, 0, none⟩ = some (.slice A1_0 l1_0.length c1_0)) (ds := []) #[ff,ff,ff,ff,ff,ff] (by kernel_rfl) rfl rfl ⟨(kC BK381.out 0).trans rfl, (kC BK382.out 0).trans rfl⟩ (fun hHeld => ?_)
  generalize w8.drew = w9 at BK381 BK382 BK383 HB hHeld ⊢
  refine z10 0 13 ?_ #[tt,ff,ff,ff,ff,ff] rfl rfl (by kernel_rfl) (fun _ _ _ h => h) (Or.inl ⟨by rfl, ?_⟩) hHeld ?_ ?_ ?_
  rotate_left
  ·rintro w' ⟨s0, s1⟩
   go_simp
   with_reducible rfl
  rotate_left
  ·simp only [Act.put, s2_, s0_, s1_, iw, jw]
   rfl
  refine z10 2 15 ?_ #[tt,ff,tt,ff,ff,ff] rfl rfl (by kernel_rfl) (fun _ _ _ h => h) (Or.inl ⟨by rfl, ?_⟩) hHeld ?_ ?_ ?_
  rotate_left
  ·rintro w' ⟨s0, s1⟩
   go_simp
   with_reducible rfl
  rotate_left
  ·simp only [Act.put, s2_, s0_, s1_, iw, jw]
   rfl
  refine zh0 (i := 1) (N := some 14) #[tt,tt,tt,ff,ff,ff] rfl rfl (by kernel_rfl) (by decide) (fun K hK => ?_)
  refine z00 Tryd.func20 (by kernel_rfl) rfl #[.agg #[.slice A0_0 l0_0.length c0_0]] (by rfl) rfl rfl (by (try simp only [List.map_toArray, List.map_cons, List.map_nil]); first | done | rfl | (simp only [List.length_drop, List.length_take]; rfl)) ?_
  with_reducible refine (nat_Nat_Bits.calls k _ _ l0_0 t384 _ ?side1 ?side2 A3.out).mono ?_
  (case side1 => repeat (first | exact (Kd.zu HR0_0.out HB.out) | (with_reducible refine Kd.ze ?_ _) | (with_reducible refine Kd.zf ?_ _) | (with_reducible refine Kd.zi ?_)))
  (case side2 => exact HC0_0.out)
  rintro e w10 ⟨rfl, hb⟩
  refine ⟨_, rfl, ?_⟩
  have n0_ := Q0.mk (kB (g := gb381) (o := .cells #[.slice A0_0 l0_0.length c0_0] 29 (0, 0)) (by (with_reducible repeat (first | refine kN ?_ _ | refine kD ?_ | refine kA ?_ _)); exact BK381.out) hb)
  have n1_ := Q0.mk (kB (g := gb382) (o := .cells #[.slice A1_0 l1_0.length c1_0] 29 (0, 0)) (by (with_reducible repeat (first | refine kN ?_ _ | refine kD ?_ | refine kA ?_ _)); exact BK382.out) hb)
  have n2_ := Q0.mk (kB (g := gb383) (o := .cells #[.slice none 0 0] 29 (0, 0)) (by (with_reducible repeat (first | refine kN ?_ _ | refine kD ?_ | refine kA ?_ _)); exact BK383.out) hb)
  have n3_ := Q0.mk (bP (by repeat (first | (with_reducible first | exact HB.out | apply bA | apply bN | apply b1_ | refine bS ?_ GE381.out | refine bS ?_ GE382.out | refine bS ?_ GE383.out) | exact HB.out)) hb)
  clear BK381
  clear BK382
  clear BK383
  clear HB
  have BK381 := n0_
  have BK382 := n1_
  have BK383 := n2_
  have HB := n3_
  clear n0_ n1_ n2_ n3_
  (try clear hb)
  (try clear hb2)
  (try clear hk)
  (try clear hi)
  refine hK.out _ _ ⟨(kC BK381.out 0).trans rfl, (kC BK382.out 0).trans rfl⟩ (fun hHeld => ?_)
  clear hK K
  refine zg (a' := ?_) ?_ ?_
  rotate_left
  ·show Act.put _ (some 14) _ = _
   simp only [Act.put, s2_, s0_, s1_, iw, jw]
   rfl
  refine zh0 (i := 3) (N := some 16) #[tt,tt,tt,tt,ff,ff] rfl rfl (by kernel_rfl) (by decide) (fun K hK => ?_)
  refine z00 Tryd.func20 (by kernel_rfl) rfl #[.agg #[.slice A1_0 l1_0.length c1_0]] (by rfl) rfl rfl (by (try simp only [List.map_toArray, List.map_cons, List.map_nil]); first | done | rfl | (simp only [List.length_drop, List.length_take]; rfl)) ?_
  with_reducible refine (nat_Nat_Bits.calls k _ _ l1_0 t385 _ ?side1 ?side2 A4.out).mono ?_
  (case side1 => repeat (first | exact (Kd.zu HR1_0.out HB.out) | (with_reducible refine Kd.ze ?_ _) | (with_reducible refine Kd.zf ?_ _) | (with_reducible refine Kd.zi ?_)))
  (case side2 => exact HC1_0.out)
  rintro e w11 ⟨rfl, hb⟩
  refine ⟨_, rfl, ?_⟩
  have n0_ := Q0.mk (kB (g := gb381) (o := .cells #[.slice A0_0 l0_0.length c0_0] 29 (0, 0)) (by (with_reducible repeat (first | refine kN ?_ _ | refine kD ?_ | refine kA ?_ _)); exact BK381.out) hb)
  have n1_ := Q0.mk (kB (g := gb382) (o := .cells #[.slice A1_0 l1_0.length c1_0] 29 (0, 0)) (by (with_reducible repeat (first | refine kN ?_ _ | refine kD ?_ | refine kA ?_ _)); exact BK382.out) hb)
  have n2_ := Q0.mk (kB (g := gb383) (o := .cells #[.slice none 0 0] 29 (0, 0)) (by (with_reducible repeat (first | refine kN ?_ _ | refine kD ?_ | refine kA ?_ _)); exact BK383.out) hb)
  have n3_ := Q0.mk (bP (by repeat (first | (with_reducible first | exact HB.out | apply bA | apply bN | apply b1_ | refine bS ?_ GE381.out | refine bS ?_ GE382.out | refine bS ?_ GE383.out) | exact HB.out)) hb)
  clear BK381
  clear BK382
  clear BK383
  clear HB
  have BK381 := n0_
  have BK382 := n1_
  have BK383 := n2_
  have HB := n3_
  clear n0_ n1_ n2_ n3_
  (try clear hb)
  (try clear hb2)
  (try clear hk)
  (try clear hi)
  refine hK.out _ _ ⟨(kC BK381.out 0).trans rfl, (kC BK382.out 0).trans rfl⟩ (fun hHeld => ?_)
  clear hK K
  refine zg (a' := ?_) ?_ ?_
  rotate_left
  ·show Act.put _ (some 16) _ = _
   simp only [Act.put, s2_, s0_, s1_, iw, jw]
   rfl
  refine za 4 17 ?_ #[tt,tt,tt,tt,tt,ff] rfl rfl (by kernel_rfl) (fun _ _ _ h => h) (Or.inl ⟨by rfl, ?_⟩) ?_ ?_ ?_
  rotate_left
  ·intro w'
   go_simp
   with_reducible rfl
  rotate_left
  ·simp only [Act.put, s2_, s0_, s1_, iw, jw]
   rfl
  refine za 5 18 ?_ #[tt,tt,tt,tt,tt,tt] rfl rfl (by kernel_rfl) (fun _ _ _ h => h) (Or.inl ⟨by rfl, ?_⟩) ?_ ?_ ?_
  rotate_left
  ·intro w'
   go_simp
   with_reducible rfl
  rotate_left
  ·simp only [Act.put, s2_, s0_, s1_, iw, jw]
   rfl
  refine zh1 (by kernel_rfl) ?_
  have hnb12 := NB383_381.out
  have hnc12 := NB381_383.out
  have hnb13 := NB383_382.out
  have hnc13 := NB382_383.out
  have hcz14_0 : w11.cell? ⟨gb383, 0, none⟩ = some (.slice none 0 0) := (kC BK383.out 0).trans rfl
  have hfz14_0 := kF BK383.out 0
  try go_wp2
  refine bodyPost_ret (zg1 rfl _ _ gb383 29 #[.slice none 0 0] (0, 0) _ rfl (by (with_reducible repeat (first | refine kN ?_ _ | refine kD ?_ | refine kA ?_ _)); refine zc0 (cs := #[.slice none 0 0]) ?_ 0 _ rfl; (with_reducible repeat (first | refine kN ?_ _ | refine kD ?_ | refine kA ?_ _)); exact BK383.out) Tryd.underlying29 rfl (by kernel_rfl)) rfl ?_
  exact ⟨_, by first | rfl | (simp [eN, eS] <;> rfl) | (simp [*, eN, eS] <;> rfl), Kd.R_V (base := w.heap.size) (by first | exact Kd.zj1 _ _ _ _ _ | exact Kd.N_nil _ _ _ _ _ | exact Kd.zg3 _ _ _ _ _ | exact Kd.Q_nil _ _ _ _ _ | exact Kd.S_nil _ _ _ _ _), by repeat (first | (with_reducible first | exact HB.out | apply bA | apply bN | apply b1_ | refine bS ?_ GE381.out | refine bS ?_ GE382.out | refine bS ?_ GE383.out) | exact HB.out)⟩
 ·rw [if_neg c5] at H
  have c5b0 : decide (4097 < (wrap64 (t384 + t385))) = false := decide_eq_false c5
  clear c5
  obtain ⟨ji15, hji15⟩ : ∃ j_ : Int, (wrap64 ((l0_0.length : Int) + (l1_0.length : Int))) = j_ := ⟨_, rfl⟩
  replace H : (if 0 ≤ (ji15) then (if (ji15 : Int).toNat ≤ 35184372088832 then (nat_Nat_Mul.l0 k (List.replicate (ji15 : Int).toNat 0) (l0_0.length : Int) 0 l0_0 l1_0) else (none)) else (none)) = some (r1, r2) := by first | (rw [hji15] at H; exact H) | (simp only [hji15] at H ⊢; exact H)
  (try rw [hji15] at A3)
  (try rw [hji15] at A4)
  have hji15w : (IntKind.i64.wrap ((l0_0.length : Int) + (l1_0.length : Int))) = ji15 := (iw _).trans hji15
  by_cases c16 : 0 ≤ (ji15)
  ·rw [if_pos c16] at H
   have c16b0 := eq_true c16
   have c16b1 : decide (0 ≤ (ji15)) = true := decide_eq_true c16
   clear c16
   by_cases c17 : (ji15 : Int).toNat ≤ 35184372088832
   ·rw [if_pos c17] at H
    have c17b0 := eq_true c17
    have c17b1 : decide ((ji15 : Int).toNat ≤ 35184372088832) = true := decide_eq_true c17
    clear c17
    obtain ⟨y386, hy386⟩ : ∃ y_ : List Int, y_ = (List.replicate (ji15 : Int).toNat 0) := ⟨_, rfl⟩
    replace H : (nat_Nat_Mul.l0 k y386 (l0_0.length : Int) 0 l0_0 l1_0) = some (r1, r2) := by first | (rw [hy386]; with_reducible exact H) | (have H2_ := (Option.bind_some _ _).symm.trans H; rw [hy386]; with_reducible exact H2_) | (have H2_ := (Option.bind_some _ _).symm.trans H; with_reducible exact H2_) | with_reducible exact H | (rw [hy386]; exact H) | exact H
    have Ny386 := Q0.mk hy386
    clear hy386
    have H' := Q0.mk H
    clear H
    go_enter Tryd.func33, Tryd.ntmps33
    try go_wp2_with (first | ((with_reducible refine gD (N := 2) rfl ?_); refine xE ?hg (N := 2) ?hd (cs := #[.slice A0_0 l0_0.length c0_0]) (t := 29) ?hr ?_; (case hd => rfl); (case hg => rfl); (case hr => first | (go_simp; done) | (go_simp; rfl)); intro gb381 hg w18 hbox hb; have q_ := zm (w := w) hb (by repeat (first | (with_reducible first | exact HB.out | apply bA | apply bN | apply b1_) | exact HB.out)); replace HB := Q0.mk (bP q_ hb); have BK381 := Q0.mk (hbox); have GW381 := Q0.mk ((by rw [hg]; exact (bZ q_) : w.heap.size ≤ gb381)); have GE381 := GW381; clear q_; clear hb hbox hg) | ((with_reducible refine gD (N := 3) rfl ?_); refine xE ?hg (N := 3) ?hd (cs := #[.slice A1_0 l1_0.length c1_0]) (t := 29) ?hr ?_; (case hd => rfl); (case hg => rfl); (case hr => first | (go_simp; done) | (go_simp; rfl)); intro gb382 hg w19 hbox hb; have q_ := zm (w := w) hb (by repeat (first | (with_reducible first | exact HB.out | apply bA | apply bN | apply b1_ | refine bS ?_ GE381.out) | exact HB.out)); replace HB := Q0.mk (bP q_ hb); have BK382 := Q0.mk (hbox); have GW382 := Q0.mk ((by rw [hg]; exact (bZ q_) : w.heap.size ≤ gb382)); have GE382 := GW382; have NB381_382 := Q0.mk ((by rw [hg]; exact Nat.ne_of_lt (zj0 (g := gb381) (o := .cells #[.slice A0_0 l0_0.length c0_0] 29 (0, 0)) (by (with_reducible repeat (first | refine kN ?_ _ | refine kD ?_ | refine kA ?_ _)); exact BK381.out)) : gb381 ≠ gb382)); replace BK381 := Q0.mk (kB (g := gb381) (o := .cells #[.slice A0_0 l0_0.length c0_0] 29 (0, 0)) (by (with_reducible repeat (first | refine kN ?_ _ | refine kD ?_ | refine kA ?_ _)); exact BK381.out) hb); have NB382_381 := Q0.mk NB381_382.out.symm; clear q_; clear hb hbox hg) | ((with_reducible refine gD (N := 4) rfl ?_); refine xE ?hg (N := 4) ?hd (cs := #[.slice none 0 0]) (t := 29) ?hr ?_; (case hd => rfl); (case hg => rfl); (case hr => first | (go_simp; done) | (go_simp; rfl)); intro gb383 hg w20 hbox hb; have q_ := zm (w := w) hb (by repeat (first | (with_reducible first | exact HB.out | apply bA | apply bN | apply b1_ | refine bS ?_ GE381.out | refine bS ?_ GE382.out) | exact HB.out)); replace HB := Q0.mk (bP q_ hb); have BK383 := Q0.mk (hbox); have GW383 := Q0.mk ((by rw [hg]; exact (bZ q_) : w.heap.size ≤ gb383)); have GE383 := GW383; have NB381_383 := Q0.mk ((by rw [hg]; exact Nat.ne_of_lt (zj0 (g := gb381) (o := .cells #[.slice A0_0 l0_0.length c0_0] 29 (0, 0)) (by (with_reducible repeat (first | refine kN ?_ _ | refine kD ?_ | refine kA ?_ _)); exact BK381.out)) : gb381 ≠ gb383)); replace BK381 := Q0.mk (kB (g := gb381) (o := .cells #[.slice A0_0 l0_0.length c0_0] 29 (0, 0)) (by (with_reducible repeat (first | refine kN ?_ _ | refine kD ?_ | refine kA ?_ _)); exact BK381.out) hb); have NB383_381 := Q0.mk NB381_383.out.symm; have NB382_383 := Q0.mk ((by rw [hg]; exact Nat.ne_of_lt (zj0 (g := gb382) (o := .cells #[.slice A1_0 l1_0.length c1_0] 29 (0, 0)) (by (with_reducible repeat (first | refine kN ?_ _ | refine kD ?_ | refine kA ?_ _)); exact BK382.out)) : gb382 ≠ gb383)); replace BK382 := Q0.mk (kB (g := gb382) (o := .cells #[.slice A1_0 l1_0.length c1_0] 29 (0, 0)) (by (with_reducible repeat (first | refine kN ?_ _ | refine kD ?_ | refine kA ?_ _)); exact BK382.out) hb); have NB383_382 := Q0.mk NB382_383.out.symm; clear q_; clear hb hbox hg))
    have n0_ := Q0.mk (kD BK381.out)
    have n1_ := Q0.mk (kD BK382.out)
    have n2_ := Q0.mk (kD BK383.out)
    have n3_ := Q0.mk (b1_ HB.out)
    clear BK381
    clear BK382
    clear BK383
    clear HB
    have BK381 := n0_
    have BK382 := n1_
    have BK383 := n2_
    have HB := n3_
    clear n0_ n1_ n2_ n3_
    refine zt0 (n := 6) (S := fun w' => w'.cell? ⟨gb381, 0, none⟩ = some (.slice A0_0 l0_0.length c0_0) ∧ w'.cell? ⟨gb382, 0, none⟩ = some (.slice A1_0 l1_0.length c1_0)) (ds := []) #[ff,ff,ff,ff,ff,ff] (by kernel_rfl) rfl rfl ⟨(kC BK381.out 0).trans rfl, (kC BK382.out 0).trans rfl⟩ (fun hHeld => ?_)
    generalize w20.drew = w21 at BK381 BK382 BK383 HB hHeld ⊢
    refine z10 0 13 ?_ #[tt,ff,ff,ff,ff,ff] rfl rfl (by kernel_rfl) (fun _ _ _ h => h) (Or.inl ⟨by rfl, ?_⟩) hHeld ?_ ?_ ?_
    rotate_left
    ·rintro w' ⟨s0, s1⟩
     go_simp
     with_reducible rfl
    rotate_left
    ·simp only [Act.put, s2_, s0_, s1_, iw, jw]
     rfl
    refine z10 2 15 ?_ #[tt,ff,tt,ff,ff,ff] rfl rfl (by kernel_rfl) (fun _ _ _ h => h) (Or.inl ⟨by rfl, ?_⟩) hHeld ?_ ?_ ?_
    rotate_left
    ·rintro w' ⟨s0, s1⟩
     go_simp
     with_reducible rfl
    rotate_left
    ·simp only [Act.put, s2_, s0_, s1_, iw, jw]
     rfl
    refine zh0 (i := 1) (N := some 14) #[tt,tt,tt,ff,ff,ff] rfl rfl (by kernel_rfl) (by decide) (fun K hK => ?_)
    refine z00 Tryd.func20 (by kernel_rfl) rfl #[.agg #[.slice A0_0 l0_0.length c0_0]] (by rfl) rfl rfl (by (try simp only [List.map_toArray, List.map_cons, List.map_nil]); first | done | rfl | (simp only [List.length_drop, List.length_take]; rfl)) ?_
    with_reducible refine (nat_Nat_Bits.calls k _ _ l0_0 t384 _ ?side1 ?side2 A3.out).mono ?_
    (case side1 => repeat (first | exact (Kd.zu HR0_0.out HB.out) | (with_reducible refine Kd.ze ?_ _) | (with_reducible refine Kd.zf ?_ _) | (with_reducible refine Kd.zi ?_)))
    (case side2 => exact HC0_0.out)
    rintro e w22 ⟨rfl, hb⟩
    refine ⟨_, rfl, ?_⟩
    have n0_ := Q0.mk (kB (g := gb381) (o := .cells #[.slice A0_0 l0_0.length c0_0] 29 (0, 0)) (by (with_reducible repeat (first | refine kN ?_ _ | refine kD ?_ | refine kA ?_ _)); exact BK381.out) hb)
    have n1_ := Q0.mk (kB (g := gb382) (o := .cells #[.slice A1_0 l1_0.length c1_0] 29 (0, 0)) (by (with_reducible repeat (first | refine kN ?_ _ | refine kD ?_ | refine kA ?_ _)); exact BK382.out) hb)
    have n2_ := Q0.mk (kB (g := gb383) (o := .cells #[.slice none 0 0] 29 (0, 0)) (by (with_reducible repeat (first | refine kN ?_ _ | refine kD ?_ | refine kA ?_ _)); exact BK383.out) hb)
    have n3_ := Q0.mk (bP (by repeat (first | (with_reducible first | exact HB.out | apply bA | apply bN | apply b1_ | refine bS ?_ GE381.out | refine bS ?_ GE382.out | refine bS ?_ GE383.out) | exact HB.out)) hb)
    clear BK381
    clear BK382
    clear BK383
    clear HB
    have BK381 := n0_
    have BK382 := n1_
    have BK383 := n2_
    have HB := n3_
    clear n0_ n1_ n2_ n3_
    (try clear hb)
    (try clear hb2)
    (try clear hk)
    (try clear hi)
    refine hK.out _ _ ⟨(kC BK381.out 0).trans rfl, (kC BK382.out 0).trans rfl⟩ (fun hHeld => ?_)
    clear hK K
    refine zg (a' := ?_) ?_ ?_
    rotate_left
    ·show Act.put _ (some 14) _ = _
     simp only [Act.put, s2_, s0_, s1_, iw, jw]
     rfl
    refine zh0 (i := 3) (N := some 16) #[tt,tt,tt,tt,ff,ff] rfl rfl (by kernel_rfl) (by decide) (fun K hK => ?_)
    refine z00 Tryd.func20 (by kernel_rfl) rfl #[.agg #[.slice A1_0 l1_0.length c1_0]] (by rfl) rfl rfl (by (try simp only [List.map_toArray, List.map_cons, List.map_nil]); first | done | rfl | (simp only [List.length_drop, List.length_take]; rfl)) ?_
    with_reducible refine (nat_Nat_Bits.calls k _ _ l1_0 t385 _ ?side1 ?side2 A4.out).mono ?_
    (case side1 => repeat (first | exact (Kd.zu HR1_0.out HB.out) | (with_reducible refine Kd.ze ?_ _) | (with_reducible refine Kd.zf ?_ _) | (with_reducible refine Kd.zi ?_)))
    (case side2 => exact HC1_0.out)
    rintro e w23 ⟨rfl, hb⟩
    refine ⟨_, rfl, ?_⟩
    have n0_ := Q0.mk (kB (g := gb381) (o := .cells #[.slice A0_0 l0_0.length c0_0] 29 (0, 0)) (by (with_reducible repeat (first | refine kN ?_ _ | refine kD ?_ | refine kA ?_ _)); exact BK381.out) hb)
    have n1_ := Q0.mk (kB (g := gb382) (o := .cells #[.slice A1_0 l1_0.length c1_0] 29 (0, 0)) (by (with_reducible repeat (first | refine kN ?_ _ | refine kD ?_ | refine kA ?_ _)); exact BK382.out) hb)
    have n2_ := Q0.mk (kB (g := gb383) (o := .cells #[.slice none 0 0] 29 (0, 0)) (by (with_reducible repeat (first | refine kN ?_ _ | refine kD ?_ | refine kA ?_ _)); exact BK383.out) hb)
    have n3_ := Q0.mk (bP (by repeat (first | (with_reducible first | exact HB.out | apply bA | apply bN | apply b1_ | refine bS ?_ GE381.out | refine bS ?_ GE382.out | refine bS ?_ GE383.out) | exact HB.out)) hb)
    clear BK381
    clear BK382
    clear BK383
    clear HB
    have BK381 := n0_
    have BK382 := n1_
    have BK383 := n2_
    have HB := n3_
    clear n0_ n1_ n2_ n3_
    (try clear hb)
    (try clear hb2)
    (try clear hk)
    (try clear hi)
    refine hK.out _ _ ⟨(kC BK381.out 0).trans rfl, (kC BK382.out 0).trans rfl⟩ (fun hHeld => ?_)
    clear hK K
    refine zg (a' := ?_) ?_ ?_
    rotate_left
    ·show Act.put _ (some 16) _ = _
     simp only [Act.put, s2_, s0_, s1_, iw, jw]
     rfl
    refine za 4 17 ?_ #[tt,tt,tt,tt,tt,ff] rfl rfl (by kernel_rfl) (fun _ _ _ h => h) (Or.inl ⟨by rfl, ?_⟩) ?_ ?_ ?_
    rotate_left
    ·intro w'
     go_simp
     with_reducible rfl
    rotate_left
    ·simp only [Act.put, s2_, s0_, s1_, iw, jw]
     rfl
    refine za 5 18 ?_ #[tt,tt,tt,tt,tt,tt] rfl rfl (by kernel_rfl) (fun _ _ _ h => h) (Or.inl ⟨by rfl, ?_⟩) ?_ ?_ ?_
    rotate_left
    ·intro w'
     go_simp
     with_reducible rfl
    rotate_left
    ·simp only [Act.put, s2_, s0_, s1_, iw, jw]
     rfl
    refine zh1 (by kernel_rfl) ?_
    have hnb24 := NB381_382.out
    have hnc24 := NB382_381.out
    have hnb25 := NB381_383.out
    have hnc25 := NB383_381.out
    have hcz26_0 : w23.cell? ⟨gb381, 0, none⟩ = some (.slice A0_0 l0_0.length c0_0) := (kC BK381.out 0).trans rfl
    have hfz26_0 := kF BK381.out 0
    have hnb27 := NB382_383.out
    have hnc27 := NB383_382.out
    have hcz28_0 : w23.cell? ⟨gb382, 0, none⟩ = some (.slice A1_0 l1_0.length c1_0) := (kC BK382.out 0).trans rfl
    have hfz28_0 := kF BK382.out 0
    try go_wp2_with (first | ((with_reducible refine gD (N := 27) rfl ?_); refine Kd.zx2 (Kd.int .u64) _ 40 rfl (N := 27) rfl 22 _ _ rfl ji15 rfl rfl Tryd.underlying22 (.int .u64 0) 8 zg2 rfl (by decide) (by omega) 0 (ok := fun _ => True) (okp := fun _ => True) rfl (fun _ hk => hk) trivial (of_decide_eq_true (by first | (with_reducible assumption) | assumption)) (Nat.le_trans (Nat.mul_le_mul_right _ (of_decide_eq_true (by first | (with_reducible assumption) | assumption) : ji15.toNat ≤ 35184372088832)) (by omega)) (Below.refl _ _) (Nat.le_refl _) ?_; intro v387 w29 ho30 hb hg_ hnew_; clear hg_ hnew_; (first | rw [← Ny386.out] at ho30 | (simp only [Int.reduceToNat] at ho30; rw [← Ny386.out] at ho30)); have q_ := zm (w := w) hb (by repeat (first | (with_reducible first | exact HB.out | apply bA | apply bN | apply b1_ | refine bS ?_ GE381.out | refine bS ?_ GE382.out | refine bS ?_ GE383.out) | exact HB.out)); have HO388 := Q0.mk (Kd.zw0 (Kd.zs1 (M := fun k_ => (w.heap.size ≤ k_)) ho30 (bZ q_) (fun k_ h_ => h_)) (bZ q_)); replace BK381 := Q0.mk (kB (g := gb381) (o := .cells #[.slice A0_0 l0_0.length c0_0] 29 (0, 0)) (by (with_reducible repeat (first | refine kN ?_ _ | refine kD ?_ | refine kA ?_ _)); exact BK381.out) hb); replace BK382 := Q0.mk (kB (g := gb382) (o := .cells #[.slice A1_0 l1_0.length c1_0] 29 (0, 0)) (by (with_reducible repeat (first | refine kN ?_ _ | refine kD ?_ | refine kA ?_ _)); exact BK382.out) hb); replace BK383 := Q0.mk (kB (g := gb383) (o := .cells #[.slice none 0 0] 29 (0, 0)) (by (with_reducible repeat (first | refine kN ?_ _ | refine kD ?_ | refine kA ?_ _)); exact BK383.out) hb); replace HB := Q0.mk (bP q_ hb); clear q_; clear hb ho30; have hcz31_0 : w29.cell? ⟨gb381, 0, none⟩ = some (.slice A0_0 l0_0.length c0_0) := (kC BK381.out 0).trans rfl; have hfz31_0 := kF BK381.out 0))
    go_loopg [31] k (fun kq v31 w' => ∃ (x6_1 : List Int) (x31_1 : Int), v31 = .int .i64 x31_1 ∧ Q0 (nat_Nat_Mul.l0 kq x6_1 (l0_0.length : Int) x31_1 l0_0 l1_0 = some (r1, r2)) ∧ Q0 (kq ≤ k) ∧ Q0 (Kd.R (Kd.int .u64) 40 w' w.heap.size (fun k_ => (w.heap.size ≤ k_)) v387 x6_1) ∧ Q0 (w'.heap[gb381]? = some (.cells #[(.slice A0_0 l0_0.length c0_0)] 29 (0, 0))) ∧ Q0 (w'.heap[gb382]? = some (.cells #[(.slice A1_0 l1_0.length c1_0)] 29 (0, 0))) ∧ Q0 (w'.heap[gb383]? = some (.cells #[(.slice none 0 0)] 29 (0, 0))) ∧ Q0 (Below w.heap.size w w'))
    case atStart => exact ⟨(y386), (0), (by first | rfl | (simp; done) | (simp [*]; done)), H', ⟨Nat.le_refl _⟩, ⟨by (with_reducible repeat (first | apply Kd.RA_ | apply Kd.RN_ | apply Kd.RD_)); exact Kd.zb1 HO388.out (fun _ hk => hk.1)⟩, ⟨by (with_reducible repeat (first | refine kN ?_ _ | refine kD ?_ | refine kA ?_ _)); exact BK381.out⟩, ⟨by (with_reducible repeat (first | refine kN ?_ _ | refine kD ?_ | refine kA ?_ _)); exact BK382.out⟩, ⟨by (with_reducible repeat (first | refine kN ?_ _ | refine kD ?_ | refine kA ?_ _)); exact BK383.out⟩, ⟨by repeat (first | (with_reducible first | exact HB.out | apply bA | apply bN | apply b1_ | refine bS ?_ GE381.out | refine bS ?_ GE382.out | refine bS ?_ GE383.out) | exact HB.out)⟩⟩
    case round =>
     clear H'
     try clear c1
     try clear c2
     try clear p2
     try clear c3
     try clear c5
     try clear c5b0
     try clear p6
     try clear c12
     try clear c13
     try clear c16
     try clear c16b0
     try clear c16b1
     try clear c17
     try clear c17b0
     try clear c17b1
     try clear c20
     try clear c24
     try clear c25
     try clear c27
     try clear hcz14_0
     try clear hcz26_0
     try clear hcz28_0
     try clear hcz31_0
     try clear hfz14_0
     try clear hfz26_0
     try clear hfz28_0
     try clear hfz31_0
     obtain ⟨x6_1, x31_1, rfl, HA, HK1, HO_6, BK381, BK382, BK383, HB⟩ := hrel
     cases gk with
     | zero => exact absurd HA.out (by simp [nat_Nat_Mul.l0])
     | succ k1 =>
      have H := HA.out
      clear HA
      simp only [nat_Nat_Mul.l0] at H
      by_cases c32 : x31_1 < (l0_0.length : Int)
      ·rw [if_pos c32] at H
       have c32b0 : decide (x31_1 < (l0_0.length : Int)) = true := decide_eq_true c32
       clear c32
       have H' := Q0.mk H
       clear H
       have hnb33 := NB382_381.out
       have hnc33 := NB381_382.out
       have hnb34 := NB382_383.out
       have hnc34 := NB383_382.out
       have hcz35_0 : wr.cell? ⟨gb382, 0, none⟩ = some (.slice A1_0 l1_0.length c1_0) := (kC BK382.out 0).trans rfl
       have hfz35_0 := kF BK382.out 0
       go_wp2
       go_loopg [8, 37] k1 (fun kq v8 v37 w' => ∃ (x6_2 : List Int) (x8_2 : Int) (x37_2 : Int), v8 = .int .u64 x8_2 ∧ v37 = .int .i64 x37_2 ∧ Q0 (nat_Nat_Mul.l1 kq x6_2 x31_1 x8_2 (l0_0.length : Int) x31_1 (l1_0.length : Int) x37_2 l0_0 l1_0 = some (r1, r2)) ∧ Q0 (kq ≤ k1) ∧ Q0 (Kd.R (Kd.int .u64) 40 w' w.heap.size (fun k_ => (w.heap.size ≤ k_)) v387 x6_2) ∧ Q0 (w'.heap[gb381]? = some (.cells #[(.slice A0_0 l0_0.length c0_0)] 29 (0, 0))) ∧ Q0 (w'.heap[gb382]? = some (.cells #[(.slice A1_0 l1_0.length c1_0)] 29 (0, 0))) ∧ Q0 (w'.heap[gb383]? = some (.cells #[(.slice none 0 0)] 29 (0, 0))) ∧ Q0 (Below w.heap.size w w'))
       case atStart => exact ⟨(x6_1), (0), (0), (by first | rfl | (simp; done) | (simp [*]; done)), (by first | rfl | (simp; done) | (simp [*]; done)), H', ⟨Nat.le_refl _⟩, ⟨by (with_reducible repeat (first | apply Kd.RA_ | apply Kd.RN_ | apply Kd.RD_)); exact HO_6.out⟩, ⟨by (with_reducible repeat (first | refine kN ?_ _ | refine kD ?_ | refine kA ?_ _)); exact BK381.out⟩, ⟨by (with_reducible repeat (first | refine kN ?_ _ | refine kD ?_ | refine kA ?_ _)); exact BK382.out⟩, ⟨by (with_reducible repeat (first | refine kN ?_ _ | refine kD ?_ | refine kA ?_ _)); exact BK383.out⟩, ⟨by repeat (first | (with_reducible first | exact HB.out | apply bA | apply bN | apply b1_ | refine bS ?_ GE381.out | refine bS ?_ GE382.out | refine bS ?_ GE383.out) | exact HB.out)⟩⟩
       case round =>
        clear H'
        try clear c1
        try clear c2
        try clear p2
        try clear c3
        try clear c5
        try clear c5b0
        try clear p6
        try clear c12
        try clear c13
        try clear c16
        try clear c16b0
        try clear c16b1
        try clear c17
        try clear c17b0
        try clear c17b1
        try clear c20
        try clear c24
        try clear c25
        try clear c27
        try clear c32
        try clear c32b0
        try clear c33
        try clear c34
        try clear hcz14_0
        try clear hcz26_0
        try clear hcz28_0
        try clear hcz31_0
        try clear hcz35_0
        try clear hfz14_0
        try clear hfz26_0
        try clear hfz28_0
        try clear hfz31_0
        try clear hfz35_0
        try clear p2
        try clear p6
        obtain ⟨x6_2, x8_2, x37_2, rfl, rfl, HA, HK2, HO_6, BK381, BK382, BK383, HB⟩ := hrel
        cases gk with
        | zero => exact absurd HA.out (by simp [nat_Nat_Mul.l1])
        | succ k2 =>
         have H := HA.out
         clear HA
         simp only [nat_Nat_Mul.l1] at H
         by_cases c36 : x37_2 < (l1_0.length : Int)
         ·rw [if_pos c36] at H
          have c36b0 : decide (x37_2 < (l1_0.length : Int)) = true := decide_eq_true c36
          clear c36
          by_cases c37 : 0 ≤ x31_1
          ·rw [if_pos c37] at H
           have c37b0 : decide (0 ≤ x31_1) = true := decide_eq_true c37
           clear c37
           by_cases c38 : x31_1 < (l0_0.length : Int)
           ·rw [if_pos c38] at H
            have c38b0 : decide (x31_1 < (l0_0.length : Int)) = true := decide_eq_true c38
            clear c38
            by_cases c39 : 0 ≤ x37_2
            ·rw [if_pos c39] at H
             have c39b0 : decide (0 ≤ x37_2) = true := decide_eq_true c39
             clear c39
             by_cases c40 : x37_2 < (l1_0.length : Int)
             ·rw [if_pos c40] at H
              have c40b0 : decide (x37_2 < (l1_0.length : Int)) = true := decide_eq_true c40
              clear c40
              replace H := Option.bind_eq_some_iff.mp H
              obtain ⟨⟨t395, t396⟩, A410, H⟩ := H
              replace H : (if 0 ≤ (wrap64 (x31_1 + x37_2)) then (if (wrap64 (x31_1 + x37_2)) < (x6_2.length : Int) then ((bits_Add64.f t396 (rd x6_2 (wrap64 (x31_1 + x37_2))) 0).bind fun bt398 => ((bits_Add64.f bt398.1 x8_2 0).bind fun bt400 => (nat_Nat_Mul.l1 k2 (x6_2.set ((wrap64 (x31_1 + x37_2)) : Int).toNat bt400.1) x31_1 (IntKind.u64.wrap ((IntKind.u64.wrap (t395 + bt398.2)) + bt400.2)) (l0_0.length : Int) x31_1 (l1_0.length : Int) (wrap64 (x37_2 + 1)) l0_0 l1_0))) else (none)) else (none)) = some (r1, r2) := H
              have A41 := Q0.mk A410
              clear A410
              obtain ⟨ji42, hji42⟩ : ∃ j_ : Int, (wrap64 (x31_1 + x37_2)) = j_ := ⟨_, rfl⟩
              replace H : (if 0 ≤ (ji42) then (if (ji42) < (x6_2.length : Int) then ((bits_Add64.f t396 (rd x6_2 (ji42)) 0).bind fun bt398 => ((bits_Add64.f bt398.1 x8_2 0).bind fun bt400 => (nat_Nat_Mul.l1 k2 (x6_2.set ((ji42) : Int).toNat bt400.1) x31_1 (IntKind.u64.wrap ((IntKind.u64.wrap (t395 + bt398.2)) + bt400.2)) (l0_0.length : Int) x31_1 (l1_0.length : Int) (wrap64 (x37_2 + 1)) l0_0 l1_0))) else (none)) else (none)) = some (r1, r2) := by first | (rw [hji42] at H; exact H) | (simp only [hji42] at H ⊢; exact H)
              (try rw [hji42] at A41)
              have hji42w : (IntKind.i64.wrap (x31_1 + x37_2)) = ji42 := (iw _).trans hji42
              by_cases c43 : 0 ≤ (ji42)
              ·rw [if_pos c43] at H
               have c43b0 : decide (0 ≤ (ji42)) = true := decide_eq_true c43
               clear c43
               by_cases c44 : (ji42) < (x6_2.length : Int)
               ·rw [if_pos c44] at H
                have c44b0 : decide ((ji42) < (x6_2.length : Int)) = true := decide_eq_true c44
                clear c44
                replace H := Option.bind_eq_some_iff.mp H
                obtain ⟨⟨t398, t399⟩, A450, H⟩ := H
                replace H : ((bits_Add64.f t398 x8_2 0).bind fun bt400 => (nat_Nat_Mul.l1 k2 (x6_2.set ((ji42) : Int).toNat bt400.1) x31_1 (IntKind.u64.wrap ((IntKind.u64.wrap (t395 + t399)) + bt400.2)) (l0_0.length : Int) x31_1 (l1_0.length : Int) (wrap64 (x37_2 + 1)) l0_0 l1_0)) = some (r1, r2) := H
                have A45 := Q0.mk A450
                clear A450
                replace H := Option.bind_eq_some_iff.mp H
                obtain ⟨⟨t400, t401⟩, A460, H⟩ := H
                replace H : (nat_Nat_Mul.l1 k2 (x6_2.set ((ji42) : Int).toNat t400) x31_1 (IntKind.u64.wrap ((IntKind.u64.wrap (t395 + t399)) + t401)) (l0_0.length : Int) x31_1 (l1_0.length : Int) (wrap64 (x37_2 + 1)) l0_0 l1_0) = some (r1, r2) := H
                have A46 := Q0.mk A460
                clear A460
                obtain ⟨y402, hy402⟩ : ∃ y_ : List Int, y_ = (x6_2.set ((ji42) : Int).toNat t400) := ⟨_, rfl⟩
                replace H : (nat_Nat_Mul.l1 k2 y402 x31_1 (IntKind.u64.wrap ((IntKind.u64.wrap (t395 + t399)) + t401)) (l0_0.length : Int) x31_1 (l1_0.length : Int) (wrap64 (x37_2 + 1)) l0_0 l1_0) = some (r1, r2) := by first | (rw [hy402]; with_reducible exact H) | (have H2_ := (Option.bind_some _ _).symm.trans H; rw [hy402]; with_reducible exact H2_) | (have H2_ := (Option.bind_some _ _).symm.trans H; with_reducible exact H2_) | with_reducible exact H | (rw [hy402]; exact H) | exact H
                have Ny402 := Q0.mk hy402
                clear hy402
                have H' := Q0.mk H
                clear H
                try go_wp2
                have n0_ := Q0.mk (Kd.RD_ HO_6.out)
                have n1_ := Q0.mk (kD BK381.out)
                have n2_ := Q0.mk (kD BK382.out)
                have n3_ := Q0.mk (kD BK383.out)
                have n4_ := Q0.mk (b1_ HB.out)
                clear HO_6
                clear BK381
                clear BK382
                clear BK383
                clear HB
                have HO_6 := n0_
                have BK381 := n1_
                have BK382 := n2_
                have BK383 := n3_
                have HB := n4_
                clear n0_ n1_ n2_ n3_ n4_
                have p393 : 0 ≤ (x31_1 : Int) := of_decide_eq_true (by first | (with_reducible assumption) | assumption)
                have q393 : x31_1 < (l0_0.length : Int) := of_decide_eq_true (by first | (with_reducible assumption) | assumption)
                obtain ⟨ad393, e393, hx393_0⟩ := Kd.zk HR0_0.out x31_1 p393 q393
                have hw393_0 := hx393_0
                cases e393
                replace hx393_0 := (HB.out.cell (World.block_lt_of_cell? w _ hx393_0)).trans hx393_0
                replace p393 := eq_true p393
                replace q393 := eq_true q393
                have p394 : 0 ≤ (x37_2 : Int) := of_decide_eq_true (by first | (with_reducible assumption) | assumption)
                have q394 : x37_2 < (l1_0.length : Int) := of_decide_eq_true (by first | (with_reducible assumption) | assumption)
                obtain ⟨ad394, e394, hx394_0⟩ := Kd.zk HR1_0.out x37_2 p394 q394
                have hw394_0 := hx394_0
                cases e394
                replace hx394_0 := (HB.out.cell (World.block_lt_of_cell? w _ hx394_0)).trans hx394_0
                replace p394 := eq_true p394
                replace q394 := eq_true q394
                refine zt0 (n := 16) (S := fun w' => w'.cell? ⟨gb381, 0, none⟩ = some (.slice (some ad393) l0_0.length c0_0) ∧ w'.cell? ⟨gb382, 0, none⟩ = some (.slice (some ad394) l1_0.length c1_0) ∧ w'.cell? (ad393.add (x31_1).toNat) = some (.int .u64 (rd l0_0 x31_1)) ∧ w'.cell? (ad394.add (x37_2).toNat) = some (.int .u64 (rd l1_0 x37_2))) (ds := []) #[ff,ff,ff,ff,ff,ff,ff,ff,ff,ff,ff,ff,ff,ff,ff,ff] (by kernel_rfl) rfl rfl ⟨(kC BK381.out 0).trans rfl, (kC BK382.out 0).trans rfl, ((HB.out.cell (World.block_lt_of_cell? w _ hw393_0)).trans hw393_0), ((HB.out.cell (World.block_lt_of_cell? w _ hw394_0)).trans hw394_0)⟩ (fun hHeld => ?_); refine z02 nat_Nat_Mul.tab11 nat_Nat_Mul.bits11 (fun HT_ HW_ => ?_)
                generalize wr.drew = w48 at HO_6 BK381 BK382 BK383 HB hx393_0 hx394_0 hHeld ⊢
                refine za 0 41 ?_ #[tt,ff,ff,ff,ff,ff,ff,ff,ff,ff,ff,ff,ff,ff,ff,ff] rfl rfl (zb HT_.out (by kernel_rfl)) (fun _ _ _ h => h) (Or.inl ⟨by rfl, ?_⟩) ?_ ?_ ?_
                rotate_left
                ·intro w'
                 go_simp
                 with_reducible rfl
                rotate_left
                ·simp only [Act.put, s2_, s0_, s1_, iw, jw]
                 rfl
                refine za 2 43 ?_ #[tt,ff,tt,ff,ff,ff,ff,ff,ff,ff,ff,ff,ff,ff,ff,ff] rfl rfl (zb HT_.out (by kernel_rfl)) (fun _ _ _ h => h) (Or.inl ⟨by rfl, ?_⟩) ?_ ?_ ?_
                rotate_left
                ·intro w'
                 go_simp
                 with_reducible rfl
                rotate_left
                ·simp only [Act.put, s2_, s0_, s1_, iw, jw]
                 rfl
                refine za 5 46 ?_ #[tt,ff,tt,ff,ff,tt,ff,ff,ff,ff,ff,ff,ff,ff,ff,ff] rfl rfl (zb HT_.out (by kernel_rfl)) (fun _ _ _ h => h) (Or.inl ⟨by rfl, ?_⟩) ?_ ?_ ?_
                rotate_left
                ·intro w'
                 go_simp
                 with_reducible rfl
                rotate_left
                ·simp only [Act.put, s2_, s0_, s1_, iw, jw]
                 rfl
                refine za 7 48 ?_ #[tt,ff,tt,ff,ff,tt,ff,tt,ff,ff,ff,ff,ff,ff,ff,ff] rfl rfl (zb HT_.out (by kernel_rfl)) (fun _ _ _ h => h) (Or.inl ⟨by rfl, ?_⟩) ?_ ?_ ?_
                rotate_left
                ·intro w'
                 go_simp
                 with_reducible rfl
                rotate_left
                ·simp only [Act.put, s2_, s0_, s1_, iw, jw]
                 rfl
                refine z10 1 42 ?_ #[tt,tt,tt,ff,ff,tt,ff,tt,ff,ff,ff,ff,ff,ff,ff,ff] rfl rfl (zp0 HT_.out HW_.out (by kernel_rfl)) (fun _ _ _ h => h) (Or.inl ⟨by rfl, ?_⟩) hHeld ?_ ?_ ?_
                rotate_left
                ·rintro w' ⟨s0, s1, s2, s3⟩
                 go_simp
                 with_reducible rfl
                rotate_left
                ·simp only [Act.put, s2_, s0_, s1_, iw, jw]
                 rfl
                refine za 3 44 ?_ #[tt,tt,tt,tt,ff,tt,ff,tt,ff,ff,ff,ff,ff,ff,ff,ff] rfl rfl (zb HT_.out (by kernel_rfl)) (fun _ _ _ h => h) (Or.inl ⟨by rfl, ?_⟩) ?_ ?_ ?_
                rotate_left
                ·intro w'
                 go_simp
                 with_reducible rfl
                rotate_left
                ·simp only [Act.put, s2_, s0_, s1_, iw, jw]
                 rfl
                refine z10 4 45 ?_ #[tt,tt,tt,tt,tt,tt,ff,tt,ff,ff,ff,ff,ff,ff,ff,ff] rfl rfl (zp0 HT_.out HW_.out (by kernel_rfl)) (fun _ _ _ h => h) (Or.inl ⟨by rfl, ?_⟩) hHeld ?_ ?_ ?_
                rotate_left
                ·rintro w' ⟨s0, s1, s2, s3⟩
                 go_simp
                 with_reducible rfl
                rotate_left
                ·simp only [Act.put, s2_, s0_, s1_, iw, jw]
                 rfl
                refine z10 6 47 ?_ #[tt,tt,tt,tt,tt,tt,tt,tt,ff,ff,ff,ff,ff,ff,ff,ff] rfl rfl (zp0 HT_.out HW_.out (by kernel_rfl)) (fun _ _ _ h => h) (Or.inl ⟨by rfl, ?_⟩) hHeld ?_ ?_ ?_
                rotate_left
                ·rintro w' ⟨s0, s1, s2, s3⟩
                 go_simp
                 with_reducible rfl
                rotate_left
                ·simp only [Act.put, s2_, s0_, s1_, iw, jw]
                 rfl
                refine za 8 49 ?_ #[tt,tt,tt,tt,tt,tt,tt,tt,tt,ff,ff,ff,ff,ff,ff,ff] rfl rfl (zb HT_.out (by kernel_rfl)) (fun _ _ _ h => h) (Or.inl ⟨by rfl, ?_⟩) ?_ ?_ ?_
                rotate_left
                ·intro w'
                 go_simp
                 with_reducible rfl
                rotate_left
                ·simp only [Act.put, s2_, s0_, s1_, iw, jw]
                 rfl
                refine z10 9 50 ?_ #[tt,tt,tt,tt,tt,tt,tt,tt,tt,tt,ff,ff,ff,ff,ff,ff] rfl rfl (zp0 HT_.out HW_.out (by kernel_rfl)) (fun _ _ _ h => h) (Or.inl ⟨by rfl, ?_⟩) hHeld ?_ ?_ ?_
                rotate_left
                ·rintro w' ⟨s0, s1, s2, s3⟩
                 go_simp
                 with_reducible rfl
                rotate_left
                ·simp only [Act.put, s2_, s0_, s1_, iw, jw]
                 rfl
                refine zh0 (i := 10) (N := some 51) #[tt,tt,tt,tt,tt,tt,tt,tt,tt,tt,tt,ff,ff,ff,ff,ff] rfl rfl (zb2 HT_.out (by kernel_rfl)) (by decide) (fun K hK => ?_)
                refine z00 Tryd.func81 (by kernel_rfl) rfl #[.int .u64 (rd l0_0 x31_1), .int .u64 (rd l1_0 x37_2)] (by rfl) rfl rfl (by (try simp only [List.map_toArray, List.map_cons, List.map_nil]); first | done | rfl | (simp only [List.length_drop, List.length_take]; rfl)) ?_
                with_reducible refine (bits_Mul64.calls (rd l0_0 x31_1) (rd l1_0 x37_2) t395 t396 _ A41.out).mono ?_
                rintro e w' ⟨rfl, ⟨nd, rfl⟩⟩
                refine ⟨_, rfl, ?_⟩
                refine hK.out _ _ ⟨(kC BK381.out 0).trans rfl, (kC BK382.out 0).trans rfl, ((HB.out.cell (World.block_lt_of_cell? w _ hw393_0)).trans hw393_0), ((HB.out.cell (World.block_lt_of_cell? w _ hw394_0)).trans hw394_0)⟩ (fun hHeld => ?_)
                clear hK K
                refine zg (a' := ?_) ?_ ?_
                rotate_left
                ·show Act.put _ (some 51) _ = _
                 simp only [Act.put, s2_, s0_, s1_, iw, jw]
                 rfl
                refine za 11 40 ?_ #[tt,tt,tt,tt,tt,tt,tt,tt,tt,tt,tt,tt,ff,ff,ff,ff] rfl rfl (zb HT_.out (by kernel_rfl)) (fun _ _ _ h => h) (Or.inl ⟨by rfl, ?_⟩) ?_ ?_ ?_
                rotate_left
                ·intro w'
                 go_simp
                 with_reducible rfl
                rotate_left
                ·simp only [Act.put, s2_, s0_, s1_, iw, jw]
                 rfl
                refine za 12 52 ?_ #[tt,tt,tt,tt,tt,tt,tt,tt,tt,tt,tt,tt,tt,ff,ff,ff] rfl rfl (zb HT_.out (by kernel_rfl)) (fun _ _ _ h => h) (Or.inl ⟨by rfl, ?_⟩) ?_ ?_ ?_
                rotate_left
                ·intro w'
                 go_simp
                 with_reducible rfl
                rotate_left
                ·simp only [Act.put, s2_, s0_, s1_, iw, jw]
                 rfl
                refine za 13 53 ?_ #[tt,tt,tt,tt,tt,tt,tt,tt,tt,tt,tt,tt,tt,tt,ff,ff] rfl rfl (zb HT_.out (by kernel_rfl)) (fun _ _ _ h => h) (Or.inl ⟨by rfl, ?_⟩) ?_ ?_ ?_
                rotate_left
                ·intro w'
                 go_simp
                 with_reducible rfl
                rotate_left
                ·simp only [Act.put, s2_, s0_, s1_, iw, jw]
                 rfl
                refine za 14 10 ?_ #[tt,tt,tt,tt,tt,tt,tt,tt,tt,tt,tt,tt,tt,tt,tt,ff] rfl rfl (zb HT_.out (by kernel_rfl)) (fun _ _ _ h => h) (Or.inl ⟨by rfl, ?_⟩) ?_ ?_ ?_
                rotate_left
                ·intro w'
                 go_simp
                 with_reducible rfl
                rotate_left
                ·simp only [Act.put, s2_, s0_, s1_, iw, jw]
                 rfl
                refine za 15 11 ?_ #[tt,tt,tt,tt,tt,tt,tt,tt,tt,tt,tt,tt,tt,tt,tt,tt] rfl rfl (zb HT_.out (by kernel_rfl)) (fun _ _ _ h => h) (Or.inl ⟨by rfl, ?_⟩) ?_ ?_ ?_
                rotate_left
                ·intro w'
                 go_simp
                 with_reducible rfl
                rotate_left
                ·simp only [Act.put, s2_, s0_, s1_, iw, jw]
                 rfl
                refine zh1 (z03 HT_.out (by kernel_rfl)) ?_
                obtain ⟨Ao49, co49, eo49⟩ := Kd.zl0 HO_6.out
                subst eo49
                have p397 : 0 ≤ ((ji42) : Int) := of_decide_eq_true (by first | (with_reducible assumption) | assumption)
                have q397 : (ji42) < (x6_2.length : Int) := of_decide_eq_true (by first | (with_reducible assumption) | assumption)
                obtain ⟨ad397, e397, hx397_0⟩ := Kd.zk (Kd.zw HO_6.out).2.2 (ji42) p397 q397
                cases e397
                replace p397 := eq_true p397
                replace q397 := eq_true q397
                try go_wp2_with (first | (rw [bits_Add64.run t396 (rd x6_2 (ji42)) 0 t398 t399 A45.out]; (try (rw [zl1 w48]; generalize hq_ : World.drewN w48 _ = w48; have n0_ : Q0 (Kd.R (Kd.int .u64) 40 w48 w.heap.size (fun k_ => (w.heap.size ≤ k_)) (.slice (some ad397) x6_2.length co49) x6_2) := ⟨by rw [← hq_]; exact (by (with_reducible repeat (first | apply Kd.RA_ | apply Kd.RN_ | apply Kd.RD_)); exact HO_6.out)⟩; have n1_ : Q0 (w48.heap[gb381]? = some (.cells #[.slice (some ad393) l0_0.length c0_0] 29 (0, 0))) := ⟨by rw [← hq_]; exact (by (with_reducible repeat (first | refine kN ?_ _ | refine kD ?_ | refine kA ?_ _)); exact BK381.out)⟩; have n2_ : Q0 (w48.heap[gb382]? = some (.cells #[.slice (some ad394) l1_0.length c1_0] 29 (0, 0))) := ⟨by rw [← hq_]; exact (by (with_reducible repeat (first | refine kN ?_ _ | refine kD ?_ | refine kA ?_ _)); exact BK382.out)⟩; have n3_ : Q0 (w48.heap[gb383]? = some (.cells #[.slice none 0 0] 29 (0, 0))) := ⟨by rw [← hq_]; exact (by (with_reducible repeat (first | refine kN ?_ _ | refine kD ?_ | refine kA ?_ _)); exact BK383.out)⟩; have n4_ : Q0 (Below w.heap.size w w48) := ⟨by rw [← hq_]; exact (by repeat (first | (with_reducible first | exact HB.out | apply bA | apply bN | apply b1_ | refine bS ?_ GE381.out | refine bS ?_ GE382.out | refine bS ?_ GE383.out) | exact HB.out))⟩; clear HO_6 BK381 BK382 BK383 HB hq_; have HO_6 := n0_; have BK381 := n1_; have BK382 := n2_; have BK383 := n3_; have HB := n4_; clear n0_ n1_ n2_ n3_ n4_))) | (rw [bits_Add64.run t398 x8_2 0 t400 t401 A46.out]; (try (rw [zl1 w48]; generalize hq_ : World.drewN w48 _ = w48; have n0_ : Q0 (Kd.R (Kd.int .u64) 40 w48 w.heap.size (fun k_ => (w.heap.size ≤ k_)) (.slice (some ad397) x6_2.length co49) x6_2) := ⟨by rw [← hq_]; exact (by (with_reducible repeat (first | apply Kd.RA_ | apply Kd.RN_ | apply Kd.RD_)); exact HO_6.out)⟩; have n1_ : Q0 (w48.heap[gb381]? = some (.cells #[.slice (some ad393) l0_0.length c0_0] 29 (0, 0))) := ⟨by rw [← hq_]; exact (by (with_reducible repeat (first | refine kN ?_ _ | refine kD ?_ | refine kA ?_ _)); exact BK381.out)⟩; have n2_ : Q0 (w48.heap[gb382]? = some (.cells #[.slice (some ad394) l1_0.length c1_0] 29 (0, 0))) := ⟨by rw [← hq_]; exact (by (with_reducible repeat (first | refine kN ?_ _ | refine kD ?_ | refine kA ?_ _)); exact BK382.out)⟩; have n3_ : Q0 (w48.heap[gb383]? = some (.cells #[.slice none 0 0] 29 (0, 0))) := ⟨by rw [← hq_]; exact (by (with_reducible repeat (first | refine kN ?_ _ | refine kD ?_ | refine kA ?_ _)); exact BK383.out)⟩; have n4_ : Q0 (Below w.heap.size w w48) := ⟨by rw [← hq_]; exact (by repeat (first | (with_reducible first | exact HB.out | apply bA | apply bN | apply b1_ | refine bS ?_ GE381.out | refine bS ?_ GE382.out | refine bS ?_ GE383.out) | exact HB.out))⟩; clear HO_6 BK381 BK382 BK383 HB hq_; have HO_6 := n0_; have BK381 := n1_; have BK382 := n2_; have BK383 := n3_; have HB := n4_; clear n0_ n1_ n2_ n3_ n4_)); have p47 : 0 ≤ ((ji42) : Int) := of_decide_eq_true (by first | (with_reducible assumption) | assumption); have q47 : ((ji42) : Int) < ((x6_2.length : Int) : Int) := of_decide_eq_true (by first | (with_reducible assumption) | assumption); obtain ⟨go47, co47, eo47, gb47, gl47, cl47, HG47⟩ := Kd.zi2 HO_6.out (by omega); (first | cases eo47 | (injection eo47 with ea_ en_ ec_; (first | subst ea_ | (injection ea_ with ea_; subst ea_)); subst ec_; clear en_)); have GB47 := Q0.mk gb47; have GG47 := Q0.mk HG47; clear gb47 gl47 HG47; (first | simp only [add_plain] at hx397_0 | skip); obtain ⟨hx47_0, hf47_0⟩ := Kd.z81 0 HO_6.out ((ji42) : Int) p47 q47; replace p47 := eq_true p47; replace q47 := eq_true q47; obtain ⟨hy50_, hz50_⟩ := Kd.z81 0 HO_6.out ((ji42) : Int) (of_decide_eq_true (by first | (with_reducible assumption) | assumption)) (of_decide_eq_true (by first | (with_reducible assumption) | assumption)); have HP50 := Kd.zo1 HO_6.out ((ji42) : Int) t400) | ((with_reducible refine zq0 (t := 40) (p := 82) rfl ?_); refine zi0 (t := 40) (p := 82) (v := ?vo_w51) (w1 := (w48.setCell ⟨go47, ((ji42) : Int).toNat, none⟩ (.int .u64 t400))) ?hg ?ho ?hn ?hr ?_; (case ho => rfl); (case hg => rfl); (case hn => rfl); (case hr => first | (go_simp; done) | (go_simp; rfl)); intro w51 hw; have hg : w48.grownBy w51 (some go47) := (by rw [hw]; exact HP50.2); have hp_ : Kd.R (Kd.int .u64) 40 w51 w.heap.size (fun k_ => (w.heap.size ≤ k_)) (.slice (some ⟨go47, 0, none⟩) x6_2.length co49) y402 := (by rw [hw, Ny402.out]; exact HP50.1); clear HP50; replace BK381 := Q0.mk (zv0 (g := gb381) (o := .cells #[.slice (some ad393) l0_0.length c0_0] 29 (0, 0)) (by (with_reducible repeat (first | refine kN ?_ _ | refine kD ?_ | refine kA ?_ _)); exact BK381.out) hg (Kd.zp2 HO_6.out BK381.out (by decide))); replace BK382 := Q0.mk (zv0 (g := gb382) (o := .cells #[.slice (some ad394) l1_0.length c1_0] 29 (0, 0)) (by (with_reducible repeat (first | refine kN ?_ _ | refine kD ?_ | refine kA ?_ _)); exact BK382.out) hg (Kd.zp2 HO_6.out BK382.out (by decide))); replace BK383 := Q0.mk (zv0 (g := gb383) (o := .cells #[.slice none 0 0] 29 (0, 0)) (by (with_reducible repeat (first | refine kN ?_ _ | refine kD ?_ | refine kA ?_ _)); exact BK383.out) hg (Kd.zp2 HO_6.out BK383.out (by decide))); replace HO_6 := Q0.mk (hp_); replace HB := Q0.mk ((by rw [hw]; exact bS (HB.out) GB47.out : Below w.heap.size w w51)); clear hg hw hp_))
                go_roundg k2
                case measure => have := HK1.out; have := HK2.out; omega
                case rel => exact ⟨(y402), (IntKind.u64.wrap ((IntKind.u64.wrap (t395 + t399)) + t401)), (wrap64 (x37_2 + 1)), (by first | rfl | (simp; done) | (simp [*]; done)), (by first | rfl | (simp; done) | (simp [*]; done)), H', ⟨by have := HK1.out; have := HK2.out; omega⟩, ⟨by (with_reducible repeat (first | apply Kd.RA_ | apply Kd.RN_ | apply Kd.RD_)); exact HO_6.out⟩, ⟨by (with_reducible repeat (first | refine kN ?_ _ | refine kD ?_ | refine kA ?_ _)); exact BK381.out⟩, ⟨by (with_reducible repeat (first | refine kN ?_ _ | refine kD ?_ | refine kA ?_ _)); exact BK382.out⟩, ⟨by (with_reducible repeat (first | refine kN ?_ _ | refine kD ?_ | refine kA ?_ _)); exact BK383.out⟩, ⟨by repeat (first | (with_reducible first | exact HB.out | apply bA | apply bN | apply b1_ | refine bS ?_ GE381.out | refine bS ?_ GE382.out | refine bS ?_ GE383.out) | exact HB.out)⟩⟩
               ·rw [if_neg c44] at H
                exact absurd H (by simp)
              ·rw [if_neg c43] at H
               exact absurd H (by simp)
             ·rw [if_neg c40] at H
              exact absurd H (by simp)
            ·rw [if_neg c39] at H
             exact absurd H (by simp)
           ·rw [if_neg c38] at H
            exact absurd H (by simp)
          ·rw [if_neg c37] at H
           exact absurd H (by simp)
         ·rw [if_neg c36] at H
          have c36b0 : decide (x37_2 < (l1_0.length : Int)) = false := decide_eq_false c36
          clear c36
          obtain ⟨ji52, hji52⟩ : ∃ j_ : Int, (wrap64 (x31_1 + (l1_0.length : Int))) = j_ := ⟨_, rfl⟩
          replace H : (if 0 ≤ (ji52) then (if (ji52) < (x6_2.length : Int) then (nat_Nat_Mul.l0 k2 (x6_2.set ((ji52) : Int).toNat x8_2) (l0_0.length : Int) (wrap64 (x31_1 + 1)) l0_0 l1_0) else (none)) else (none)) = some (r1, r2) := by first | (rw [hji52] at H; exact H) | (simp only [hji52] at H ⊢; exact H)
          have hji52w : (IntKind.i64.wrap (x31_1 + (l1_0.length : Int))) = ji52 := (iw _).trans hji52
          by_cases c53 : 0 ≤ (ji52)
          ·rw [if_pos c53] at H
           have c53b0 : decide (0 ≤ (ji52)) = true := decide_eq_true c53
           clear c53
           by_cases c54 : (ji52) < (x6_2.length : Int)
           ·rw [if_pos c54] at H
            have c54b0 : decide ((ji52) < (x6_2.length : Int)) = true := decide_eq_true c54
            clear c54
            obtain ⟨y403, hy403⟩ : ∃ y_ : List Int, y_ = (x6_2.set ((ji52) : Int).toNat x8_2) := ⟨_, rfl⟩
            replace H : (nat_Nat_Mul.l0 k2 y403 (l0_0.length : Int) (wrap64 (x31_1 + 1)) l0_0 l1_0) = some (r1, r2) := by first | (rw [hy403]; with_reducible exact H) | (have H2_ := (Option.bind_some _ _).symm.trans H; rw [hy403]; with_reducible exact H2_) | (have H2_ := (Option.bind_some _ _).symm.trans H; with_reducible exact H2_) | with_reducible exact H | (rw [hy403]; exact H) | exact H
            have Ny403 := Q0.mk hy403
            clear hy403
            have H' := Q0.mk H
            clear H
            have hnb56 := NB382_381.out
            have hnc56 := NB381_382.out
            have hnb57 := NB382_383.out
            have hnc57 := NB383_382.out
            have hcz58_0 : wr.cell? ⟨gb382, 0, none⟩ = some (.slice A1_0 l1_0.length c1_0) := (kC BK382.out 0).trans rfl
            have hfz58_0 := kF BK382.out 0
            have p55 : 0 ≤ ((ji52) : Int) := of_decide_eq_true (by first | (with_reducible assumption) | assumption)
            have q55 : ((ji52) : Int) < ((x6_2.length : Int) : Int) := of_decide_eq_true (by first | (with_reducible assumption) | assumption)
            obtain ⟨go55, co55, eo55, gb55, gl55, cl55, HG55⟩ := Kd.zi2 HO_6.out (by omega)
            (first | cases eo55 | (injection eo55 with ea_ en_ ec_; (first | subst ea_ | (injection ea_ with ea_; subst ea_)); subst ec_; clear en_))
            have GB55 := Q0.mk gb55
            have GG55 := Q0.mk HG55
            clear gb55 gl55 HG55
            obtain ⟨hx55_0, hf55_0⟩ := Kd.z81 0 HO_6.out ((ji52) : Int) p55 q55
            replace p55 := eq_true p55
            replace q55 := eq_true q55
            have HP59 := Kd.zo1 HO_6.out ((ji52) : Int) x8_2
            go_wp2_with (first | ((with_reducible refine zq0 (t := 40) (p := 91) rfl ?_); refine zi0 (t := 40) (p := 91) (v := ?vo_w60) (w1 := (wr.setCell ⟨go55, ((ji52) : Int).toNat, none⟩ (.int .u64 x8_2))) ?hg ?ho ?hn ?hr ?_; (case ho => rfl); (case hg => rfl); (case hn => rfl); (case hr => first | (go_simp; done) | (go_simp; rfl)); intro w60 hw; have hg : wr.grownBy w60 (some go55) := (by rw [hw]; exact HP59.2); have hp_ : Kd.R (Kd.int .u64) 40 w60 w.heap.size (fun k_ => (w.heap.size ≤ k_)) (.slice (some ⟨go55, 0, none⟩) x6_2.length co55) y403 := (by rw [hw, Ny403.out]; exact HP59.1); clear HP59; replace BK381 := Q0.mk (zv0 (g := gb381) (o := .cells #[.slice A0_0 l0_0.length c0_0] 29 (0, 0)) (by (with_reducible repeat (first | refine kN ?_ _ | refine kD ?_ | refine kA ?_ _)); exact BK381.out) hg (Kd.zp2 HO_6.out BK381.out (by decide))); replace BK382 := Q0.mk (zv0 (g := gb382) (o := .cells #[.slice A1_0 l1_0.length c1_0] 29 (0, 0)) (by (with_reducible repeat (first | refine kN ?_ _ | refine kD ?_ | refine kA ?_ _)); exact BK382.out) hg (Kd.zp2 HO_6.out BK382.out (by decide))); replace BK383 := Q0.mk (zv0 (g := gb383) (o := .cells #[.slice none 0 0] 29 (0, 0)) (by (with_reducible repeat (first | refine kN ?_ _ | refine kD ?_ | refine kA ?_ _)); exact BK383.out) hg (Kd.zp2 HO_6.out BK383.out (by decide))); replace HO_6 := Q0.mk (hp_); replace HB := Q0.mk ((by rw [hw]; exact bS (HB.out) GB55.out : Below w.heap.size w w60)); clear hg hw hp_))
            go_roundg k2
            case measure => have := HK1.out; have := HK2.out; omega
            case rel => exact ⟨(y403), (wrap64 (x31_1 + 1)), (by first | rfl | (simp; done) | (simp [*]; done)), H', ⟨by have := HK1.out; have := HK2.out; omega⟩, ⟨by (with_reducible repeat (first | apply Kd.RA_ | apply Kd.RN_ | apply Kd.RD_)); exact HO_6.out⟩, ⟨by (with_reducible repeat (first | refine kN ?_ _ | refine kD ?_ | refine kA ?_ _)); exact BK381.out⟩, ⟨by (with_reducible repeat (first | refine kN ?_ _ | refine kD ?_ | refine kA ?_ _)); exact BK382.out⟩, ⟨by (with_reducible repeat (first | refine kN ?_ _ | refine kD ?_ | refine kA ?_ _)); exact BK383.out⟩, ⟨by repeat (first | (with_reducible first | exact HB.out | apply bA | apply bN | apply b1_ | refine bS ?_ GE381.out | refine bS ?_ GE382.out | refine bS ?_ GE383.out) | exact HB.out)⟩⟩
           ·rw [if_neg c54] at H
            exact absurd H (by simp)
          ·rw [if_neg c53] at H
           exact absurd H (by simp)
      ·rw [if_neg c32] at H
       have c32b0 : decide (x31_1 < (l0_0.length : Int)) = false := decide_eq_false c32
       clear c32
       replace H := Option.bind_eq_some_iff.mp H
       obtain ⟨⟨t389, t392⟩, A610, H⟩ := H
       replace H : (some (t389, t392)) = some (r1, r2) := H
       have A61 := Q0.mk A610
       clear A610
       simp only [Option.some.injEq, Prod.mk.injEq] at H
       obtain ⟨rfl, rfl⟩ := H
       obtain ⟨Ao62, co62, eo62⟩ := Kd.zl0 HO_6.out
       subst eo62
       go_wp2_with (first | ((with_reducible refine gC (f := 64) rfl ?_); refine zx (some 94) rfl rfl Tryd.func64 (by kernel_rfl) rfl #[.slice Ao62 x6_1.length co62] rfl (by (try simp only [List.map_toArray, List.map_cons, List.map_nil]); first | done | rfl | (simp only [List.length_drop, List.length_take]; rfl)) ?_; (with_reducible refine (nat_fit.calls k1 (fun k_ => some k_ = (.slice Ao62 x6_1.length co62 : Value).ownBlock) _ _ x6_1 t389 t392 _ ?side1 A61.out).mono ?_); (case side1 => exact Kd.R_V (Kd.z11 rfl (Kd.RT_ (Kd.RT_ (Kd.RT_ (HO_6.out) BK381.out (by decide)) BK382.out (by decide)) BK383.out (by decide)))); rintro e w63 ⟨v390, rfl, ho0, hb⟩; refine ⟨_, rfl, ?_⟩; have q_ := zm (w := w) hb (by repeat (first | (with_reducible first | exact HB.out | apply bA | apply bN | apply b1_ | refine bS ?_ GE381.out | refine bS ?_ GE382.out | refine bS ?_ GE383.out) | exact HB.out)); have HO391 := Q0.mk (Kd.za0 (Kd.VM_ (ok' := fun k_ => (w.heap.size ≤ k_) ∧ k_ ≠ gb381 ∧ k_ ≠ gb382 ∧ k_ ≠ gb383) ho0 (fun k_ hk_ => ⟨Or.elim hk_ (fun hs_ => ((Kd.RT_ (Kd.RT_ (Kd.RT_ (HO_6.out) BK381.out (by decide)) BK382.out (by decide)) BK383.out (by decide)).1 k_ hs_.symm).1.1.1) (fun hn_ => (Nat.le_trans (bZ q_) hn_)), Or.elim hk_ (fun hs_ => ((Kd.RT_ (Kd.RT_ (Kd.RT_ (HO_6.out) BK381.out (by decide)) BK382.out (by decide)) BK383.out (by decide)).1 k_ hs_.symm).1.1.2) (fun hn_ => (Kd.zm0 (g := gb381) (o := .cells #[.slice A0_0 l0_0.length c0_0] 29 (0, 0)) (by (with_reducible repeat (first | refine kN ?_ _ | refine kD ?_ | refine kA ?_ _)); exact BK381.out) k_ hn_)), Or.elim hk_ (fun hs_ => ((Kd.RT_ (Kd.RT_ (Kd.RT_ (HO_6.out) BK381.out (by decide)) BK382.out (by decide)) BK383.out (by decide)).1 k_ hs_.symm).1.2) (fun hn_ => (Kd.zm0 (g := gb382) (o := .cells #[.slice A1_0 l1_0.length c1_0] 29 (0, 0)) (by (with_reducible repeat (first | refine kN ?_ _ | refine kD ?_ | refine kA ?_ _)); exact BK382.out) k_ hn_)), Or.elim hk_ (fun hs_ => ((Kd.RT_ (Kd.RT_ (Kd.RT_ (HO_6.out) BK381.out (by decide)) BK382.out (by decide)) BK383.out (by decide)).1 k_ hs_.symm).2) (fun hn_ => (Kd.zm0 (g := gb383) (o := .cells #[.slice none 0 0] 29 (0, 0)) (by (with_reducible repeat (first | refine kN ?_ _ | refine kD ?_ | refine kA ?_ _)); exact BK383.out) k_ hn_))⟩)) (bZ q_)); replace HO_6 := Q0.mk (Kd.zy (by (with_reducible repeat (first | apply Kd.RA_ | apply Kd.RN_ | apply Kd.RD_)); exact HO_6.out) hb); replace BK381 := Q0.mk (kB (g := gb381) (o := .cells #[.slice A0_0 l0_0.length c0_0] 29 (0, 0)) (by (with_reducible repeat (first | refine kN ?_ _ | refine kD ?_ | refine kA ?_ _)); exact BK381.out) hb); replace BK382 := Q0.mk (kB (g := gb382) (o := .cells #[.slice A1_0 l1_0.length c1_0] 29 (0, 0)) (by (with_reducible repeat (first | refine kN ?_ _ | refine kD ?_ | refine kA ?_ _)); exact BK382.out) hb); replace BK383 := Q0.mk (kB (g := gb383) (o := .cells #[.slice none 0 0] 29 (0, 0)) (by (with_reducible repeat (first | refine kN ?_ _ | refine kD ?_ | refine kA ?_ _)); exact BK383.out) hb); replace HB := Q0.mk (bP q_ hb); clear q_; (try clear hb); (try clear hb2); (try clear hk); (try clear hi); (try clear ho0); obtain ⟨Ao64, co64, eo64⟩ := Kd.zo HO391.out; subst eo64; have hnb65 := NB383_381.out; have hnc65 := NB381_383.out; have hnb66 := NB383_382.out; have hnc66 := NB382_383.out; have hcz67_0 : w63.cell? ⟨gb383, 0, none⟩ = some (.slice none 0 0) := (kC BK383.out 0).trans rfl; have hfz67_0 := kF BK383.out 0))
       refine bodyPost_ret (zg1 rfl _ _ gb383 29 #[.slice Ao64 t389.length co64] (0, 0) _ rfl (by (with_reducible repeat (first | refine kN ?_ _ | refine kD ?_ | refine kA ?_ _)); refine zc0 (cs := #[.slice none 0 0]) ?_ 0 _ rfl; (with_reducible repeat (first | refine kN ?_ _ | refine kD ?_ | refine kA ?_ _)); exact BK383.out) Tryd.underlying29 rfl (by kernel_rfl)) rfl ?_
       exact ⟨_, by first | rfl | (simp [eN, eS] <;> rfl) | (simp only [← hji15]; first | rfl | (simp [eN, eS] <;> rfl)) | (simp [*, eN, eS] <;> rfl), by (with_reducible repeat (first | apply Kd.VA_ | apply Kd.VN_ | apply Kd.VD_)); exact Kd.VM_ (Kd.zn1 (p := ⟨gb383, 0, none⟩) (Kd.VM_ HO391.out (fun k_ hk => (⟨hk, hk.2.2.2⟩ : _ ∧ k_ ≠ gb383))) (fun _ hk => hk.2) (.slice Ao64 t389.length co64)) (fun _ hk => hk.1.1), by repeat (first | (with_reducible first | exact HB.out | apply bA | apply bN | apply b1_ | refine bS ?_ GE381.out | refine bS ?_ GE382.out | refine bS ?_ GE383.out) | exact HB.out)⟩
   ·rw [if_neg c17] at H
    exact absurd H (by simp)
  ·rw [if_neg c16] at H
   exact absurd H (by simp)
end Go.Proofs.YtgkdealidnidiaaDoor.Na
namespace Go.Proofs.YtgkdealidnidiaaDoor.Na
open Go.RowKit Go.Proofs.YtgkdealidnidiaaDoorW.PrintWords Go.Proofs.YtgkdealidnidiaaDoorW.PrintLast Go.Proofs.YtgkdealidnidiaaDoorW.PrintMore Go.Proofs.YtgkdealidnidiaaDoor.Dg
theorem mul_some {x y : Int} (h0 : 0 ≤ x) (h1 : x < 18446744073709551616) (h2 : 0 ≤ y) (h3 : y < 18446744073709551616) : bits_Mul64.f x y = some (x * y / 18446744073709551616, x * y % 18446744073709551616) := by
 unfold bits_Mul64.f; rw [if_pos ⟨⟨h0, h1⟩, h2, h3⟩]
theorem add_some {x y c : Int} (h0 : 0 ≤ x) (h2 : 0 ≤ y) (h3 : 0 ≤ c) (h4 : c ≤ 1) : bits_Add64.f x y c = some ((x + y + c) % 18446744073709551616, (x + y + c) / 18446744073709551616) := by
 unfold bits_Add64.f; rw [if_pos ⟨h0, h2, h3, h4⟩]
theorem prod_lt {x y : Int} (h0 : 0 ≤ x) (h1 : x < 18446744073709551616) (h2 : 0 ≤ y) (h3 : y < 18446744073709551616) : 0 ≤ x * y ∧ x * y ≤ 18446744073709551615 * 18446744073709551615 := by
 refine ⟨Int.mul_nonneg h0 h2, Int.mul_le_mul (by omega) (by omega) h2 (by decide)⟩
end Go.Proofs.YtgkdealidnidiaaDoor.Na
namespace Go.Proofs.YtgkdealidnidiaaDoor.Na
open Go.RowKit Go.Proofs.YtgkdealidnidiaaDoorW.PrintWords Go.Proofs.YtgkdealidnidiaaDoorW.PrintLast Go.Proofs.YtgkdealidnidiaaDoorW.PrintMore
attribute [local go_sem] zx0 zd1
def chaffref01_Bits.l0 : Nat → Int → Int → Option (Int)
 | 0, _, _ => none
 | k + 1, x3, x4 => if x4 > 0 then (chaffref01_Bits.l0 k (wrap64 (x3 + 1)) (wrap64 (Int.tdiv x4 2))) else (some x3)
def chaffref01_Bits.f (k : Nat) (l0 : List Int) : Option (Int) := if (l0.length : Int) = 0 then (some 0) else (if 0 ≤ (wrap64 ((l0.length : Int) - 1)) then (if (wrap64 ((l0.length : Int) - 1)) < (l0.length : Int) then (chaffref01_Bits.l0 k (wrap64 (16 * (wrap64 ((l0.length : Int) - 1)))) (rd l0 (wrap64 ((l0.length : Int) - 1)))) else (none)) else (none))
theorem chaffref01_Bits.calls (k : Nat) (A0 : Option Addr) (c0 : Nat) (l0 : List Int) (r : Int) (w : World) (hr0 : Kd.C (Kd.int .i64) w A0 l0.length l0) (hc0 : l0.length ≤ c0) (h : chaffref01_Bits.f k l0 = some r) :
  Calls Tryd.prog 21 #[.slice A0 l0.length c0] w fun e w' => e = .returned (.int .i64 r) ∧ D0 w w' := by
 have HR0 := Q0.mk hr0
 have HC0 := Q0.mk hc0
 clear hr0 hc0
 have H : (if (l0.length : Int) = 0 then (some 0) else (if 0 ≤ (wrap64 ((l0.length : Int) - 1)) then (if (wrap64 ((l0.length : Int) - 1)) < (l0.length : Int) then (chaffref01_Bits.l0 k (wrap64 (16 * (wrap64 ((l0.length : Int) - 1)))) (rd l0 (wrap64 ((l0.length : Int) - 1)))) else (none)) else (none))) = some r := h
 clear h
 by_cases c2 : (l0.length : Int) = 0
 ·rw [if_pos c2] at H
  have c2b0 : ((l0.length : Int) == 0) = true := beq_iff_eq.mpr c2
  have c2b1 : ((l0.length : Int) != 0) = false := bne_eq_false_iff_eq.mpr c2
  clear c2
  obtain rfl := Option.some.inj H
  go_enter Tryd.func21, Tryd.ntmps21
  go_wp2
  go_ret
  exact ⟨by first | rfl | (simp; done) | (simp [*]; done), by repeat (first | exact D0.refl _ | apply D0.step)⟩
 ·rw [if_neg c2] at H
  have c2b0 : ((l0.length : Int) == 0) = false := beq_eq_false_iff_ne.mpr c2
  have c2b1 : ((l0.length : Int) != 0) = true := bne_iff_ne.mpr c2
  have c2b2 : ¬ (l0 = []) := fun h_ => c2 (by rw [h_]; rfl)
  obtain ⟨ji3, hji3⟩ : ∃ j_ : Int, (wrap64 ((l0.length : Int) - 1)) = j_ := ⟨_, rfl⟩
  replace H : (if 0 ≤ (ji3) then (if (ji3) < (l0.length : Int) then (chaffref01_Bits.l0 k (wrap64 (16 * (ji3))) (rd l0 (ji3))) else (none)) else (none)) = some r := by first | (rw [hji3] at H; exact H) | (simp only [hji3] at H ⊢; exact H)
  have hji3w : (IntKind.i64.wrap ((l0.length : Int) - 1)) = ji3 := (iw _).trans hji3
  by_cases c4 : 0 ≤ (ji3)
  ·rw [if_pos c4] at H
   have c4b0 : decide (0 ≤ (ji3)) = true := decide_eq_true c4
   clear c4
   by_cases c5 : (ji3) < (l0.length : Int)
   ·rw [if_pos c5] at H
    have c5b0 : decide ((ji3) < (l0.length : Int)) = true := decide_eq_true c5
    clear c5
    have H' := Q0.mk H
    clear H
    have p206 : 0 ≤ ((ji3) : Int) := of_decide_eq_true (by first | (with_reducible assumption) | assumption)
    have q206 : (ji3) < (l0.length : Int) := of_decide_eq_true (by first | (with_reducible assumption) | assumption)
    obtain ⟨ad206, e206, hx206_0⟩ := Kd.zk HR0.out (ji3) p206 q206
    cases e206
    replace p206 := eq_true p206
    replace q206 := eq_true q206
    go_enter Tryd.func21, Tryd.ntmps21
    go_wp2
    go_loopg [3, 4] k (fun kq v3 v4 w' => ∃ (x3_1 : Int) (x4_1 : Int), v3 = .int .i64 x3_1 ∧ v4 = .int .i64 x4_1 ∧ Q0 (chaffref01_Bits.l0 kq x3_1 x4_1 = some r) ∧ Q0 (kq ≤ k) ∧ D0 w w')
    case atStart => exact ⟨(wrap64 (16 * (ji3))), (rd l0 (ji3)), (by first | rfl | (simp; done) | (simp only [← hji3] <;> (first | rfl | simp)) | (simp [*]; done)), (by first | rfl | (simp; done) | (simp only [← hji3] <;> (first | rfl | simp)) | (simp [*]; done)), H', ⟨Nat.le_refl _⟩, by repeat (first | exact D0.refl _ | apply D0.step)⟩
    case round =>
     clear H'
     obtain ⟨x3_1, x4_1, rfl, rfl, HA, HK1, ⟨m1, rfl⟩⟩ := hrel
     cases gk with
     | zero => exact absurd HA.out (by simp [chaffref01_Bits.l0])
     | succ k1 =>
      have H := HA.out
      clear HA
      simp only [chaffref01_Bits.l0] at H
      by_cases c6 : x4_1 > 0
      ·rw [if_pos c6] at H
       have c6b0 : decide (0 < x4_1) = true := decide_eq_true c6
       clear c6
       have H' := Q0.mk H
       clear H
       go_wp2
       go_roundg k1
       case measure => have := HK1.out; omega
       case rel => exact ⟨(wrap64 (x3_1 + 1)), (wrap64 (Int.tdiv x4_1 2)), (by first | rfl | (simp; done) | (simp [*]; done)), (by first | rfl | (simp; done) | (simp [*]; done)), H', ⟨by have := HK1.out; omega⟩, by repeat (first | exact D0.refl _ | apply D0.step)⟩
      ·rw [if_neg c6] at H
       have c6b0 : decide (0 < x4_1) = false := decide_eq_false c6
       clear c6
       obtain rfl := Option.some.inj H
       go_wp2
       go_ret
       exact ⟨by first | rfl | (simp; done) | (simp only [← hji3] <;> (first | rfl | simp)) | (simp [*]; done), by repeat (first | exact D0.refl _ | apply D0.step)⟩
   ·rw [if_neg c5] at H
    exact absurd H (by simp)
  ·rw [if_neg c4] at H
   exact absurd H (by simp)
end Go.Proofs.YtgkdealidnidiaaDoor.Na
