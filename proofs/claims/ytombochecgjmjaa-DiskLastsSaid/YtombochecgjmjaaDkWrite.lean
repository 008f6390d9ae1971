/- A disk: Write. -/
import Derived.Test.YtombochecgjmjaaDkNew
namespace Go.Proofs.Ytombochecgjmjaa.Dk
set_option linter.unusedSimpArgs false
set_option linter.unusedVariables false
open Go.RowKit Go.Proofs.Ytombochecgjmjaa.Own Go.Proofs.Ytombochecgjmjaa.Cel

/-- F, and what is new behind W. -/
def Big (F : Nat → Prop) (W : World) (k : Nat) : Prop := F k ∨ W.heap.size ≤ k
theorem Only.small {F : Nat → Prop} {W W' : World} (h : Only (Big F W) W W') : Only F W W' :=
  ⟨h.os, h.tape, h.output, h.size, fun k hk hn => h.block k hk (fun e => e.elim hn (fun e => by omega))⟩
theorem Only.big {F : Nat → Prop} {W a b : World} (h : Only F a b) : Only (Big F W) a b :=
  ⟨h.os, h.tape, h.output, h.size, fun k hk hn => h.block k hk (fun e => hn (.inl e))⟩
theorem Only.big_trans {F : Nat → Prop} {W a b c : World} (h : Only (Big F W) a b) (k : Only (Big F W) b c) : Only (Big F W) a c := h.trans k (fun _ e => .inl e)
theorem infoW : (Try.prog.info? 68).map (fun i => (i.zero, i.size, i.bytes)) = some (some (.agg #[.int .i64 0, .string ⟨#[]⟩]), 2, 24) := by kernel_rfl
theorem keyI : Go.Maps.Keyed Try.prog 3 := Go.Maps.int_keyed Try.underlying3
theorem owns_get {W : World} {B g n c : Nat} {e : TypeId} {xs : List Value} (h : W.ownsRow B e 2 (.slice (some ⟨g, 0, none⟩) n c) n xs) : ∀ j u, xs[j]? = some u → W.cell? ((⟨g, 0, none⟩ : Addr).add j) = some u := h.cells rfl
theorem slice_full {W : World} {B n c : Nat} {A : Option Addr} {xs : List Value} (h : W.ownsRow B 68 2 (.slice A n c) n xs) :
    (∀ V : World, (Instr.slice 61 (.slice A n c) none (some (.int .i64 (n : Nat))) (some (.int .i64 (n : Nat)))).run Try.prog V = .ok (.slice A n n) V) ∧
    ((Value.slice A n n = .slice none 0 0 ∧ n = 0) ∨ ∃ g, Value.slice A n n = .slice (some ⟨g, 0, none⟩) n n ∧ ∀ j u, xs[j]? = some u → W.cell? ((⟨g, 0, none⟩ : Addr).add j) = some u) := by
  rcases h.2 with ⟨e, rfl⟩ | ⟨g, cap, cur, e, _, _, hnc, _⟩
  · simp only [Value.slice.injEq] at e
    obtain ⟨rfl, _, rfl⟩ := e
    refine ⟨fun V => ?_, .inl ⟨rfl, rfl⟩⟩
    kernel_rfl
  · simp only [Value.slice.injEq] at e
    obtain ⟨rfl, _, rfl⟩ := e
    refine ⟨fun V => ?_, .inr ⟨g, rfl, owns_get h⟩⟩
    have hr := run_slice_hm (P := Try.prog) V 61 (some ⟨g, 0, none⟩) n c (by rfl) .i64 .i64 (n : Int) (n : Int) (by omega) (by omega) (by omega)
    rw [hr]
    simp [sliced, go_sem]
/-- The map behind one more write to i. -/
theorem map_put {W : World} {mb n : Nat} {D : DataW Unit} {ws : List Wt} {i : Nat} {s : ByteArray} (h : W.ownsMap Try.prog 3 (plainElem Try.prog 3) mb n D) (hD : ∀ j : Nat, D.atKey (.int .i64 (j : Int)) (.lit (.int .i64 0)) = .lit (.int .i64 ((cnt j ws : Nat) : Int))) (j : Nat) :
    (D.put (.int .i64 (i : Int)) (.lit (.int .i64 ((cnt i ws : Nat) + 1 : Int)))).atKey (.int .i64 (j : Int)) (.lit (.int .i64 0)) = .lit (.int .i64 ((cnt j (ws ++ [(i, s)]) : Nat) : Int)) := by
  rw [cnt_snoc]
  by_cases e : j = i
  · subst e
    rw [Go.Maps.atKey_put_same h.isMap (by trivial), if_pos rfl]; rfl
  · rw [Go.Maps.atKey_put_other (by simp; omega), hD, if_neg (fun x => e x.symm)]; rfl

variable {B p : Nat} {S : DS} {F : Nat → Prop} {W : World}

theorem put_no {S : DS} {i : Int} {s : ByteArray} (h : ¬ (0 ≤ i ∧ i < (S.lasts.length : Int))) : S.put i s = (S, 5) := by unfold DS.put; rw [if_pos h]
theorem put_form {S : DS} {i : Int} {s : ByteArray} (h : 0 ≤ i ∧ i < (S.lasts.length : Int)) (h2 : s.size ≠ 128) : S.put i s = (S, 4) := by unfold DS.put; rw [if_neg (fun e => e h), if_pos h2]
theorem put_fails {S : DS} {i : Int} {s : ByteArray} (h : 0 ≤ i ∧ i < (S.lasts.length : Int)) (h2 : s.size = 128) (h3 : S.fails.2 = true) : S.put i s = (S.fails.1, 7) := by
  unfold DS.put; rw [if_neg (fun e => e h), if_neg (fun e => e h2), if_pos h3]
theorem put_ok {S : DS} {i : Int} {s : ByteArray} (h : 0 ≤ i ∧ i < (S.lasts.length : Int)) (h2 : s.size = 128) (h3 : S.fails.2 = false) : S.put i s = ({ S.fails.1 with waits := S.waits ++ [(i.toNat, s)], ops := S.ops + 1 }, 0) := by
  unfold DS.put; rw [if_neg (fun e => e h), if_neg (fun e => e h2), if_neg (by rw [h3]; decide)]
theorem fails_lasts (S : DS) : S.fails.1.lasts = S.lasts ∧ S.fails.1.waits = S.waits ∧ S.fails.1.ops = S.ops := by
  unfold DS.fails; split <;> exact ⟨rfl, rfl, rfl⟩

set_option maxRecDepth 100000 in
set_option maxHeartbeats 2000000 in
theorem write_calls (h : DK B p S F W) (ha : S.armed ≤ 9223372036854775807) (hn : S.waits.length ≤ 1000000) (ho0 : 0 ≤ S.ops) (ho : S.ops ≤ 4611686018427387904) (i : Int) (s : ByteArray) (hi0 : -9223372036854775808 ≤ i) (hi1 : i ≤ 9223372036854775807) :
    Calls Try.prog 12 #[.pointer (some ⟨p, 0, none⟩), .int .i64 i, .string s] W fun e W' => e = .returned (.int .i64 (S.put i s).2) ∧ Did B p (S.put i s).1 F W W' := by
  have KH := Aside0.mk (has_calls h i)
  have H0 := Aside0.mk h
  by_cases a : 0 ≤ i ∧ i < (S.lasts.length : Int)
  rotate_left
  · rw [put_no a]
    rw [show decide (0 ≤ i ∧ i < (S.lasts.length : Int)) = false from decide_eq_false a] at KH
    clear a h hi0 hi1
    go_enter Try.func12, Try.ntmps12
    go_wp2_with fail
    refine KH.out.mono ?_
    rintro e w1 ⟨rfl, rfl⟩
    go_wp2
    go_ret
    exact ⟨rfl, F, H0.out, Only.refl _ _, fun _ e => .inl e⟩
  rw [show decide (0 ≤ i ∧ i < (S.lasts.length : Int)) = true from decide_eq_true a] at KH
  by_cases hs : s.size = 128
  rotate_left
  · rw [put_form a hs]
    have c1 : ((s.size : Int) != 128) = true := by simp; omega
    have c1' : (s.size != 128) = true := by simpa using hs
    clear a h hs hi0 hi1
    go_enter Try.func12, Try.ntmps12
    go_wp2_with fail
    refine KH.out.mono ?_
    rintro e w1 ⟨rfl, rfl⟩
    go_wp2
    go_ret
    exact ⟨rfl, F, H0.out, Only.refl _ _, fun _ e => .inl e⟩
  have c1 : ((s.size : Int) != 128) = false := by rw [hs]; rfl
  have c1' : (s.size != 128) = false := by rw [hs]; rfl
  have KF := Aside0.mk (fails_calls h ha)
  cases hf : S.fails.2 with
  | true =>
    rw [put_fails a hs hf]
    rw [hf] at KF
    clear a h hs hf hi0 hi1
    go_enter Try.func12, Try.ntmps12
    go_wp2_with fail
    refine KH.out.mono ?_
    rintro e w1 ⟨rfl, rfl⟩
    go_wp2_with fail
    refine KF.out.mono ?_
    rintro e w1 ⟨rfl, h1, h2⟩
    have H1 := Aside0.mk (And.intro h1 h2)
    clear h1 h2
    go_wp2
    go_ret
    exact ⟨rfl, F, H1.out.1, H1.out.2, fun _ e => .inl e⟩
  | false =>
    rw [put_ok a hs hf]
    rw [hf] at KF
    obtain ⟨fl, fw, fo⟩ := fails_lasts S
    obtain ⟨S1, hS1⟩ : ∃ x, S.fails.1 = x := ⟨_, rfl⟩
    rw [hS1] at KF fl fw fo ⊢
    obtain ⟨j, rfl⟩ := Int.eq_ofNat_of_zero_le a.1
    have hj : j < S1.lasts.length := by rw [fl]; have := a.2; omega
    rw [← fw] at hn ⊢
    rw [← fo] at ho0 ho ⊢
    have HF := Aside0.mk (And.intro fl (And.intro fw fo))
    have HI := Aside0.mk (show (Lit.int .i64 (j : Int)).wf = true by simp [Lit.wf, IntKind.min, IntKind.max, IntKind.signed, IntKind.bits]; omega)
    clear a h hs hf hi0 hi1 fl fw fo hS1 ha
    go_enter Try.func12, Try.ntmps12
    go_wp2_with fail
    refine KH.out.mono ?_
    rintro e w1 ⟨rfl, rfl⟩
    go_wp2_with fail
    refine KF.out.mono ?_
    rintro e W1 ⟨rfl, h1, h2⟩
    obtain ⟨lb, lc, rb, rc, mb, wv, hd, hFP⟩ := h1
    have O1 := Aside0.mk (Only.big (W := W) h2)
    clear h2 KH KF
    obtain ⟨i0, hi0, hz0, hz1, hz2⟩ := info_parts infoW
    have d1 := hd.cell 1
    obtain ⟨A, wc, rfl⟩ := owns_slice hd.hw
    have hdA := hd.below ((Below.refl _ _).alloc (Nat.le_refl _) (.cells #[.int .i64 (j : Int), .string s] 68))
    obtain ⟨hsl, hv⟩ := slice_full hdA.hw
    have HV := Aside0.mk hv
    have HDA := Aside0.mk hdA
    have HJ := Aside0.mk hj
    have HFP := Aside0.mk hFP
    have HB := Aside0.mk (show B ≤ W1.heap.size by have := hd.lt (.inl rfl); omega)
    have HC := Aside0.mk (show ∀ k u, (wcells [(j, s)])[k]? = some u → (W1.alloc (.cells #[.int .i64 (j : Int), .string s] 68)).cell? ((⟨W1.heap.size, 0, none⟩ : Addr).add k) = some u by
      intro k u hk
      match k, hk with
      | 0, hk => exact (cell_of_row _ W1.heap.size 0 _ _ _ (heap_alloc_new W1 _)).trans hk
      | 1, hk => exact (cell_of_row _ W1.heap.size 1 _ _ _ (heap_alloc_new W1 _)).trans hk
      | k + 2, hk => simp [wcells] at hk)
    clear hd hdA hv hFP hj
    have hn' : S1.waits.length + 1 ≤ 1000001 := by omega
    go_wp2_with (at_builtin; go_loud (refine wpList_append_new _ rfl _ _ 61 rfl B 68 i0 (.agg #[.int .i64 0, .string ⟨#[]⟩]) 2 24 Try.underlying61 hi0 hz0 hz1 hz2 rfl _ _ (wcells S1.waits) rfl (wcells_len _) HV.out ⟨W1.heap.size, 0, none⟩ 1 1 (wcells [(j, s)]) rfl rfl HC.out (by decide) (by unfold maxLen; omega) (by omega) (by have := HB.out; simp; omega) ?_))
    intro cap W2 ho2 hg2
    obtain ⟨q, hq⟩ : ∃ q, W1.heap.size + 1 = q := ⟨_, rfl⟩
    rw [hq] at ho2 ⊢
    have HQ := Aside0.mk (show W.heap.size ≤ q by have := O1.out.size; omega)
    rw [← wcells_append] at ho2
    have hd2 := HDA.out.keep (fun k hk => hg2.block k (HDA.out.lt hk).2 (by simp))
    have d1' := hd2.cell 1
    have f1' := hd2.frozen 1
    have hlen : (S1.waits ++ [(j, s)]).length = S1.waits.length + 1 := by simp
    have hd3 := hd2.setW (.slice (some ⟨q, 0, none⟩) (S1.waits.length + 1) cap) (S1.waits ++ [(j, s)]) (by rw [hlen]; exact ho2)
    have c2 := hd3.cell 2
    have O3 := Aside0.mk ((O1.out.big_trans ((only_below ((Below.refl _ _).alloc (Nat.le_refl _) (.cells #[.int .i64 (j : Int), .string s] 68))).big)).big_trans ((only_grown (F := F) hg2 (fun k e => by cases e)).big.big_trans (only_set (F := F) ⟨p, 1, none⟩ (.slice (some ⟨q, 0, none⟩) (S1.waits.length + 1) cap) ((HFP.out p).2 (.inl rfl))).big))
    obtain ⟨nm, D, hown, hnm, hDD⟩ := hd3.mp
    obtain ⟨cc, hlook, hat, _⟩ := hown.lookup_int keyI Try.underlying60 Try.underlying3 (by kernel_rfl) (key := .int .i64 (j : Int)) (kl := .int .i64 (j : Int)) (Go.Maps.keyOf_int_mk Try.underlying3 HI.out)
    rw [hDD j] at hat
    obtain rfl : ((cnt j S1.waits : Nat) : Int) = cc := by injection hat with e; injection e
    have hcl := cnt_le j S1.waits
    have HDD := Aside0.mk hDD
    have HOWN := Aside0.mk hown
    have HD3 := Aside0.mk hd3
    have HNM := Aside0.mk hnm
    have HCN := Aside0.mk hlen
    obtain ⟨cj, hcj⟩ : ∃ c, cnt j S1.waits = c := ⟨_, rfl⟩
    have HCJ := Aside0.mk hcj
    rw [hcj] at hlook hcl
    have hcl' : (cj : Int) ≤ 1000000 := by omega
    have hwfc : (Lit.int .i64 ((cj : Int) + 1)).wf = true := by simp [Lit.wf, IntKind.min, IntKind.max, IntKind.signed, IntKind.bits]; omega
    have HW := Aside0.mk hwfc
    clear hat hDD hown hd3 hnm hlen hcj hcl hwfc hd2 ho2 hg2 hq hsl HV HDA HC HB O1 d1
    go_wp2_with (at_mapUpdate; go_loud (refine wpList_mapUpdate_own _ rfl _ _ _ 60 rfl 3 3 keyI Try.underlying60 (plainElem Try.prog 3) mb nm D rfl HOWN.out (by have := HNM.out; unfold maxLen; omega) _ _ (.int .i64 (j : Int)) rfl rfl (Go.Maps.keyOf_int_mk Try.underlying3 HI.out) (.lit (.int .i64 ((cj : Int) + 1))) [] (plainElem_int Try.underlying3 HW.out) ?_))
    intro W4 hown4 hg4
    clear d1' f1' c2 hlook
    generalize W2.setCell ⟨p, 1, none⟩ (.slice (some ⟨q, 0, none⟩) (S1.waits.length + 1) cap) = W3 at hg4 O3 HOWN HD3
    have hd4 := HD3.out.setM (m' := fun i => cnt i (S1.waits ++ [(j, s)])) (N' := S1.waits.length + 1) hg4 ⟨_, _, hown4, by have := HNM.out; omega, fun k => by
      have := map_put (s := s) HOWN.out HDD.out (i := j) k
      rw [HCJ.out] at this
      exact this⟩
    have O4 := Aside0.mk (O3.out.big_trans ((only_grown (F := F) hg4 (fun k e => (HFP.out k).2 (.inr (.inl (by simpa using e.symm))))).big))
    have c5 := hd4.cell 5
    have hjr : j < S1.read.length := by rw [hd4.rlen]; exact HJ.out
    have cj4 : W4.cell? ⟨rb, j, none⟩ = some (.string (S1.read[j]'hjr)) := by
      rw [hd4.hr.cellAt j (by have := HJ.out; omega), strs_get _ _ hjr]
    have fj4 := hd4.hr.frozenAt j
    have hd5 := hd4.setR j s
    have c4 := hd5.cell 4
    have f4 := hd5.frozen 4
    have HD6 := Aside0.mk (hd5.setO (S1.ops + 1))
    have hjl : (j : Int) < (S1.lasts.length : Int) := by have := HJ.out; omega
    have O6 := Aside0.mk (O4.out.big_trans ((only_set (F := F) ⟨rb, j, none⟩ (.string s) ((HFP.out rb).2 (.inr (.inr (.inr (.inl rfl)))))).big.big_trans (only_set (F := F) ⟨p, 4, none⟩ (.int .i64 (S1.ops + 1)) ((HFP.out p).2 (.inl rfl))).big))
    clear hd4 hd5 hown4 hg4 O3 O4 HOWN HD3
    obtain ⟨s0, hs0⟩ : ∃ x, S1.read[j]'hjr = x := ⟨_, rfl⟩
    rw [hs0] at cj4
    clear hs0 hjr
    obtain ⟨op, hop⟩ : ∃ x, S1.ops = x := ⟨_, rfl⟩
    rw [hop] at c4 ho ho0
    have HOP := Aside0.mk hop
    clear hop
    go_wp2
    go_ret
    rw [HOP.out] at HD6 O6
    refine ⟨rfl, FP p lb rb mb (.slice (some ⟨q, 0, none⟩) (S1.waits.length + 1) cap), ⟨lb, lc, rb, rc, mb, _, ?_, fun _ => Iff.rfl⟩, O6.out.small, fun k hk => ?_⟩
    · have e : ({ S1 with waits := S1.waits ++ [((j : Int).toNat, s)], ops := S1.ops + 1 } : DS).read = S1.read.set j s := by
        show applyW S1.lasts (S1.waits ++ [((j : Int).toNat, s)]) = _
        rw [applyW_snoc]; rfl
      rw [e]
      have e2 : (S1.waits ++ [((j : Int).toNat, s)]).length = S1.waits.length + 1 := by simp
      show DR B p lb lc rb rc mb _ S1.lasts (S1.read.set j s) (S1.waits ++ [((j : Int).toNat, s)]) (fun i => cnt i (S1.waits ++ [((j : Int).toNat, s)])) (S1.waits ++ [((j : Int).toNat, s)]).length S1.armed (S1.ops + 1) _
      rw [e2, HOP.out]
      exact HD6.out
    · rcases hk with rfl | rfl | rfl | rfl | hk
      · exact .inl ((HFP.out k).2 (.inl rfl))
      · exact .inl ((HFP.out k).2 (.inr (.inl rfl)))
      · exact .inl ((HFP.out k).2 (.inr (.inr (.inl rfl))))
      · exact .inl ((HFP.out k).2 (.inr (.inr (.inr (.inl rfl)))))
      · obtain rfl : q = k := by simpa [Value.ownBlock] using hk
        exact .inr HQ.out
end Go.Proofs.Ytombochecgjmjaa.Dk
