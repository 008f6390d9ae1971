/- news.take and the closures that it hands numbers to: their contracts. The variable 'l' lies in block bl; it owns a row of numbers. -/
import Derived.Test.YtdmmklfphkgmlaaBaOct
import Derived.Test.YtdmmklfphkgmlaaBcOct
import Derived.OneCell
namespace Go.Proofs.Ytdmmklfphkgmlaa.Ba
open Go.RowKit Go.Proofs.YtdmmklfphkgmlaaW.PrintWords Go.Proofs.YtdmmklfphkgmlaaW.PrintLast Go.Proofs.YtdmmklfphkgmlaaW.PrintMore Go.Proofs.Ytdmmklfphkgmlaa.Om

/-- Block bl holds the variable; the variable's value owns the numbers. -/
def LAt (w : World) (base bl : Nat) (xs : List Int) : Prop :=
  ∃ lv, w.heap[bl]? = some (.cells #[lv] 106 (0, 0)) ∧ w.ownsRow base 22 1 lv xs.length (nums .u64 xs) ∧ lv.ownBlock ≠ some bl
/-- Below 'base' nothing has turned; nor has any block of another kind of cells. -/
structure Fr (base bl : Nat) (w w' : World) : Prop where
  below : Below base w w'
  keep : ∀ k c T fr, k ≠ bl → T ≠ 22 → w.heap[k]? = some (.cells c T fr) → w'.heap[k]? = some (.cells c T fr)
theorem Fr.refl (base bl : Nat) (w : World) : Fr base bl w w := ⟨Below.refl _ _, fun _ _ _ _ _ _ h => h⟩
theorem Fr.trans {base bl : Nat} {a b c : World} (h : Fr base bl a b) (k : Fr base bl b c) : Fr base bl a c :=
  ⟨h.below.trans k.below, fun i cs T fr hi hT hc => k.keep i cs T fr hi hT (h.keep i cs T fr hi hT hc)⟩
theorem Fr.of_below {base bl : Nat} {w w' : World} (hb : base ≤ w.heap.size) (h : Below w.heap.size w w') : Fr base bl w w' :=
  ⟨h.mono hb, fun k _ _ _ _ _ hc => (h.block k (Array.getElem?_eq_some_iff.1 hc).1).trans hc⟩
theorem LAt.below {w w' : World} {base bl : Nat} {xs : List Int} (h : LAt w base bl xs) (hb : Below w.heap.size w w') : LAt w' base bl xs := by
  obtain ⟨lv, h1, h2, h3⟩ := h
  exact ⟨lv, (hb.block bl (Array.getElem?_eq_some_iff.1 h1).1).trans h1, pw_own_below h2 hb, h3⟩
theorem LAt.lt {w : World} {base bl : Nat} {xs : List Int} (h : LAt w base bl xs) : bl < w.heap.size := by
  obtain ⟨lv, h1, _, _⟩ := h
  exact (Array.getElem?_eq_some_iff.1 h1).1

theorem info22 : (Try.prog.info? 22).map (fun i => (i.zero, i.size, i.bytes)) = some (some (.int .u64 0), 1, 8) := by kernel_rfl

theorem clos_step {w w1 : World} {base bl : Nat} {xs : List Int} {v : Int} {lv lv' : Value} (hb : base ≤ bl)
    (h1 : w.heap[bl]? = some (.cells #[lv] 106 (0, 0))) (h2 : w.ownsRow base 22 1 lv xs.length (nums .u64 xs)) (h3 : lv.ownBlock ≠ some bl)
    (ho : w1.ownsRow base 22 1 lv' (xs.length + 1) (nums .u64 xs ++ [.int .u64 v])) (hgr : (w.alloc (.cells #[.int .u64 v] 22)).grownBy w1 lv.ownBlock) :
    LAt (w1.setCell ⟨bl, 0, none⟩ lv') base bl (xs ++ [v]) ∧ Fr base bl w (w1.setCell ⟨bl, 0, none⟩ lv') := by
  have hlt : bl < w.heap.size := (Array.getElem?_eq_some_iff.1 h1).1
  have hold : ∀ k, k < w.heap.size → some k ≠ lv.ownBlock → w1.heap[k]? = w.heap[k]? := fun k hk hne =>
    (hgr.block k (by simp; omega) hne).trans (Below.heap_alloc w _ k hk)
  have hbl : w1.heap[bl]? = some (.cells #[lv] 106 (0, 0)) := (hold bl hlt (Ne.symm h3)).trans h1
  -- the new row's block is not the variable's
  have hne : lv'.ownBlock ≠ some bl := by
    intro e
    rcases ho.2 with ⟨rfl, _⟩ | ⟨g', cap', cur', rfl, _, hh, _⟩
    · simp [Value.ownBlock] at e
    · have : g' = bl := by simpa [Value.ownBlock] using e
      subst this
      rw [hbl] at hh
      injection hh with hh
      injection hh with _ ht
      exact absurd ht (by decide)
  have hw : ∀ k, k ≠ bl → (w1.setCell ⟨bl, 0, none⟩ lv').heap[k]? = w1.heap[k]? := fun k hk => Below.heap_setCell _ _ _ _ hk
  refine ⟨⟨lv', ?_, ?_, hne⟩, ⟨?_, ?_⟩⟩
  · simp [World.setCell, Array.getElem?_modify, hbl]
  · have e : (xs ++ [v]).length = xs.length + 1 := by simp
    rw [e, nums_append]
    rcases ho.2 with ⟨_, h0⟩ | ⟨g', cap', cur', rfl, hg1, hg2, hg3, hg4, hg5, hg6⟩
    · omega
    · refine ⟨ho.1, .inr ⟨g', cap', cur', rfl, hg1, ?_, hg3, hg4, hg5, hg6⟩⟩
      rw [hw g' (fun e => hne (by simp [Value.ownBlock, e]))]; exact hg2
  · have hb1 : Below base w w1 := by
      refine ⟨hgr.os, hgr.tape, hgr.output, Nat.le_trans (by simp) hgr.size, fun k hk => ?_⟩
      have hkw : k < w.heap.size := by omega
      refine hold k hkw (fun e => ?_)
      have := own_base h2 k e.symm
      omega
    exact hb1.setCell hb _
  · intro k c T fr hk hT hc
    have hkw : k < w.heap.size := (Array.getElem?_eq_some_iff.1 hc).1
    rw [hw k hk, hold k hkw (fun e => ?_)]
    · exact hc
    · rcases h2.2 with ⟨rfl, _⟩ | ⟨g', cap', cur', rfl, _, hh, _⟩
      · simp [Value.ownBlock] at e
      · have : k = g' := by simpa [Value.ownBlock] using e
        subst this
        rw [hc] at hh
        injection hh with hh
        injection hh with _ ht
        exact hT ht

set_option maxRecDepth 100000 in
theorem clos52 (w : World) (base bl : Nat) (xs : List Int) (v : Int) (h : LAt w base bl xs) (hb : base ≤ bl) (hn : xs.length ≤ 1000) :
    Calls Try.prog 52 #[.int .u64 v, .pointer (some ⟨bl, 0, none⟩)] w fun e w' => e = .returned (.tuple #[]) ∧ LAt w' base bl (xs ++ [v]) ∧ Fr base bl w w' := by
  have hlt := h.lt
  obtain ⟨lv, h1, h2, h3⟩ := h
  obtain ⟨i0, hi, hz0, hz1, hz2⟩ := info_parts info22
  have hc : w.cell? ⟨bl, 0, none⟩ = some lv := by simp [World.cell?, h1]
  have hf : w.frozen? ⟨bl, 0, none⟩ = false := by simp [World.frozen?, h1]
  have H1 := Aside0.mk h1; clear h1
  go_enter Try.func52, Try.ntmps52
  go_wp2_with (at_builtin; refine wpList_append_own _ rfl _ _ 106 rfl base 22 i0 (.int .u64 0) 1 8 Try.underlying106 hi hz0 hz1 hz2 rfl (by decide) _ _ _ rfl (h2.alloc _) ⟨w.heap.size, 0, none⟩ 1 1 [.int .u64 v] rfl rfl ?c1 ?c2 ?c3 ?c4 ?c5 ?_)
  case c1 => exact cell_one_new _ _ _
  case c2 => intro u hu; simp only [List.mem_singleton] at hu; subst hu; rfl
  case c3 => unfold maxLen; omega
  case c4 => omega
  case c5 => simp; omega
  intro lv' w1 ho hgr _
  obtain ⟨A', c', rfl⟩ := own_slice ho
  have hst := clos_step hb H1.out h2 h3 ho hgr
  have H2 := Aside0.mk hst
  have hc1 : w1.cell? ⟨bl, 0, none⟩ = some lv := by
    have hx := hgr.block bl (by simp; omega) (Ne.symm h3)
    simp [World.cell?, hx, Below.heap_alloc w _ bl hlt, H1.out]
  have hf1 : w1.frozen? ⟨bl, 0, none⟩ = false := by
    have hx := hgr.block bl (by simp; omega) (Ne.symm h3)
    simp [World.frozen?, hx, Below.heap_alloc w _ bl hlt, H1.out]
  clear hst ho hgr h2 h3 hc hf
  go_wp2
  go_end0
  exact ⟨rfl, H2.out⟩

set_option maxRecDepth 100000 in
theorem clos58 (w : World) (base bl : Nat) (xs : List Int) (v : Int) (h : LAt w base bl xs) (hb : base ≤ bl) (hn : xs.length ≤ 1000) :
    Calls Try.prog 58 #[.int .u64 v, .pointer (some ⟨bl, 0, none⟩)] w fun e w' => e = .returned (.tuple #[]) ∧ LAt w' base bl (xs ++ [v]) ∧ Fr base bl w w' := by
  have hlt := h.lt
  obtain ⟨lv, h1, h2, h3⟩ := h
  obtain ⟨i0, hi, hz0, hz1, hz2⟩ := info_parts info22
  have hc : w.cell? ⟨bl, 0, none⟩ = some lv := by simp [World.cell?, h1]
  have hf : w.frozen? ⟨bl, 0, none⟩ = false := by simp [World.frozen?, h1]
  have H1 := Aside0.mk h1; clear h1
  go_enter Try.func58, Try.ntmps58
  go_wp2_with (at_builtin; refine wpList_append_own _ rfl _ _ 106 rfl base 22 i0 (.int .u64 0) 1 8 Try.underlying106 hi hz0 hz1 hz2 rfl (by decide) _ _ _ rfl (h2.alloc _) ⟨w.heap.size, 0, none⟩ 1 1 [.int .u64 v] rfl rfl ?c1 ?c2 ?c3 ?c4 ?c5 ?_)
  case c1 => exact cell_one_new _ _ _
  case c2 => intro u hu; simp only [List.mem_singleton] at hu; subst hu; rfl
  case c3 => unfold maxLen; omega
  case c4 => omega
  case c5 => simp; omega
  intro lv' w1 ho hgr _
  obtain ⟨A', c', rfl⟩ := own_slice ho
  have hst := clos_step hb H1.out h2 h3 ho hgr
  have H2 := Aside0.mk hst
  have hc1 : w1.cell? ⟨bl, 0, none⟩ = some lv := by
    have hx := hgr.block bl (by simp; omega) (Ne.symm h3)
    simp [World.cell?, hx, Below.heap_alloc w _ bl hlt, H1.out]
  have hf1 : w1.frozen? ⟨bl, 0, none⟩ = false := by
    have hx := hgr.block bl (by simp; omega) (Ne.symm h3)
    simp [World.frozen?, hx, Below.heap_alloc w _ bl hlt, H1.out]
  clear hst ho hgr h2 h3 hc hf
  go_wp2
  go_end0
  exact ⟨rfl, H2.out⟩


/-- What take hands on, and what it tells. -/
def takeN : ByteArray → List Int → List Int → ByteArray × Int × List Int
  | s, [], xs => (s, 0, xs)
  | s, n :: l, xs => if (takeS s n).2.2 = 0 then takeN (takeS s n).2.1 l (xs ++ [(takeS s n).1]) else (⟨#[]⟩, (takeS s n).2.2, xs)

set_option maxRecDepth 100000 in
theorem take52 (w : World) (base bl bs : Nat) (s : ByteArray) (zs xs : List Int) (h : LAt w base bl xs) (hb : base ≤ bl) (hn : zs.length ≤ 10) (hx : xs.length ≤ 10) (hne : bs ≠ bl)
    (hbs : w.heap[bs]? = some (.cells (nums .i64 zs).toArray 3 (0, 0))) (hbase : base ≤ w.heap.size) :
    Calls Try.prog 51 #[.string s, .func (.func 52) #[] #[.pointer (some ⟨bl, 0, none⟩)], .slice (some ⟨bs, 0, none⟩) zs.length zs.length] w fun e w' =>
      e = .returned (.tuple #[.string (takeN s zs xs).1, .int .i64 (takeN s zs xs).2.1]) ∧ LAt w' base bl (takeN s zs xs).2.2 ∧ Fr base bl w w' := by
  obtain ⟨⟨R, E, XS⟩, hr⟩ : ∃ p, takeN s zs xs = p := ⟨_, rfl⟩
  rw [hr]
  have HR := Aside0.mk hr
  have HL := Aside0.mk h
  have HS := Aside0.mk hbs
  have HB := Aside0.mk hbase
  clear hr h hbs hbase
  go_enter Try.func51, Try.ntmps51
  go_wp2
  go_loopw [0, 15] (fun sv i wr => ∃ (j : Nat) (sj : ByteArray) (xj : List Int), sv = .string sj ∧ i = .int .i64 j ∧ j ≤ zs.length ∧ xj.length ≤ 10 + j ∧ Aside0 (takeN sj (zs.drop j) xj = (R, E, XS)) ∧ Aside0 (LAt wr base bl xj) ∧ Aside0 (Fr base bl w wr)) (fun _ i _ => zs.length - (intOf i).toNat)
  case atStart => exact ⟨0, s, xs, rfl, rfl, Nat.zero_le _, by omega, HR, HL, ⟨Fr.refl _ _ _⟩⟩
  case round =>
    obtain ⟨j, sj, xj, rfl, rfl, hj, hxj, HT, HLj, HF⟩ := hrel
    by_cases hlt : j < zs.length
    · obtain ⟨z, hz⟩ : ∃ z, zs.getD j 0 = z := ⟨_, rfl⟩
      obtain ⟨⟨v, rest, er⟩, ht⟩ : ∃ p, takeS sj z = p := ⟨_, rfl⟩
      have hd : zs.drop j = z :: zs.drop (j + 1) := by
        rw [List.drop_eq_getElem_cons hlt, ← hz]; simp [List.getD, List.getElem?_eq_getElem hlt]
      have hT := HT.out
      rw [hd] at hT
      simp only [takeN, ht] at hT
      have A1 := Aside0.mk ((take_any sj z 20 (by omega)).trans (congrArg some ht))
      have hcell : wr.cell? ⟨bs, j, none⟩ = some (.int .i64 z) := by
        have hk := HF.out.keep bs _ 3 (0, 0) hne (by decide) HS.out
        rw [← hz]
        simp [World.cell?, hk, nums, List.getD, List.getElem?_eq_getElem hlt]
      have hj0 : 0 < zs.length := by omega
      have hbw : base ≤ wr.heap.size := Nat.le_trans HB.out HF.out.below.size
      by_cases her : er = 0
      · subst her
        rw [if_pos rfl] at hT
        have HT' := Aside0.mk hT
        have HBW := Aside0.mk hbw
        clear hT ht hd HT hbw hz
        go_wp2_with fail
        refine (octet_Take.calls 20 sj z v rest 0 _ A1.out).mono ?_
        rintro e w1 ⟨rfl, h1⟩
        have H1 := Aside0.mk h1; clear h1
        go_wp2_with fail
        refine (clos52 w1 base bl xj v (HLj.out.below H1.out.below) hb (by omega)).mono ?_
        rintro e w2 ⟨rfl, h2⟩
        have H2 := Aside0.mk h2; clear h2
        go_wp2
        go_roundw
        case rel => exact ⟨j + 1, rest, xj ++ [v], rfl, by go_num, by omega, by simp; omega, HT', ⟨H2.out.1⟩, ⟨(HF.out.trans (Fr.of_below HBW.out H1.out.below)).trans H2.out.2⟩⟩
        case measure => simp [intOf]; omega
      · rw [if_neg her] at hT
        simp only [Prod.mk.injEq] at hT
        obtain ⟨rfl, rfl, rfl⟩ := hT
        have HBW := Aside0.mk hbw
        have her' : (er == 0) = false := beq_eq_false_iff_ne.mpr her
        have her2 : (er != 0) = true := bne_iff_ne.mpr her
        clear ht hd HT hbw hz her
        go_wp2_with fail
        refine (octet_Take.calls 20 sj z v rest er _ A1.out).mono ?_
        rintro e w1 ⟨rfl, h1⟩
        have H1 := Aside0.mk h1; clear h1
        go_wp2
        go_ret2
        exact ⟨rfl, HLj.out.below H1.out.below, HF.out.trans (Fr.of_below HBW.out H1.out.below)⟩
    · have hge : j = zs.length := by omega
      have hres : sj = R ∧ E = 0 ∧ xj = XS := by
        have := HT.out
        rw [hge, List.drop_length] at this
        simp only [takeN, Prod.mk.injEq] at this
        exact ⟨this.1, this.2.1.symm, this.2.2⟩
      obtain ⟨rfl, rfl, rfl⟩ := hres
      clear hge HT
      go_wp2
      go_ret2
      exact ⟨rfl, HLj.out, HF.out⟩

set_option maxRecDepth 100000 in
theorem take58 (w : World) (base bl bs : Nat) (s : ByteArray) (zs xs : List Int) (h : LAt w base bl xs) (hb : base ≤ bl) (hn : zs.length ≤ 10) (hx : xs.length ≤ 10) (hne : bs ≠ bl)
    (hbs : w.heap[bs]? = some (.cells (nums .i64 zs).toArray 3 (0, 0))) (hbase : base ≤ w.heap.size) :
    Calls Try.prog 51 #[.string s, .func (.func 58) #[] #[.pointer (some ⟨bl, 0, none⟩)], .slice (some ⟨bs, 0, none⟩) zs.length zs.length] w fun e w' =>
      e = .returned (.tuple #[.string (takeN s zs xs).1, .int .i64 (takeN s zs xs).2.1]) ∧ LAt w' base bl (takeN s zs xs).2.2 ∧ Fr base bl w w' := by
  obtain ⟨⟨R, E, XS⟩, hr⟩ : ∃ p, takeN s zs xs = p := ⟨_, rfl⟩
  rw [hr]
  have HR := Aside0.mk hr
  have HL := Aside0.mk h
  have HS := Aside0.mk hbs
  have HB := Aside0.mk hbase
  clear hr h hbs hbase
  go_enter Try.func51, Try.ntmps51
  go_wp2
  go_loopw [0, 15] (fun sv i wr => ∃ (j : Nat) (sj : ByteArray) (xj : List Int), sv = .string sj ∧ i = .int .i64 j ∧ j ≤ zs.length ∧ xj.length ≤ 10 + j ∧ Aside0 (takeN sj (zs.drop j) xj = (R, E, XS)) ∧ Aside0 (LAt wr base bl xj) ∧ Aside0 (Fr base bl w wr)) (fun _ i _ => zs.length - (intOf i).toNat)
  case atStart => exact ⟨0, s, xs, rfl, rfl, Nat.zero_le _, by omega, HR, HL, ⟨Fr.refl _ _ _⟩⟩
  case round =>
    obtain ⟨j, sj, xj, rfl, rfl, hj, hxj, HT, HLj, HF⟩ := hrel
    by_cases hlt : j < zs.length
    · obtain ⟨z, hz⟩ : ∃ z, zs.getD j 0 = z := ⟨_, rfl⟩
      obtain ⟨⟨v, rest, er⟩, ht⟩ : ∃ p, takeS sj z = p := ⟨_, rfl⟩
      have hd : zs.drop j = z :: zs.drop (j + 1) := by
        rw [List.drop_eq_getElem_cons hlt, ← hz]; simp [List.getD, List.getElem?_eq_getElem hlt]
      have hT := HT.out
      rw [hd] at hT
      simp only [takeN, ht] at hT
      have A1 := Aside0.mk ((take_any sj z 20 (by omega)).trans (congrArg some ht))
      have hcell : wr.cell? ⟨bs, j, none⟩ = some (.int .i64 z) := by
        have hk := HF.out.keep bs _ 3 (0, 0) hne (by decide) HS.out
        rw [← hz]
        simp [World.cell?, hk, nums, List.getD, List.getElem?_eq_getElem hlt]
      have hj0 : 0 < zs.length := by omega
      have hbw : base ≤ wr.heap.size := Nat.le_trans HB.out HF.out.below.size
      by_cases her : er = 0
      · subst her
        rw [if_pos rfl] at hT
        have HT' := Aside0.mk hT
        have HBW := Aside0.mk hbw
        clear hT ht hd HT hbw hz
        go_wp2_with fail
        refine (octet_Take.calls 20 sj z v rest 0 _ A1.out).mono ?_
        rintro e w1 ⟨rfl, h1⟩
        have H1 := Aside0.mk h1; clear h1
        go_wp2_with fail
        refine (clos58 w1 base bl xj v (HLj.out.below H1.out.below) hb (by omega)).mono ?_
        rintro e w2 ⟨rfl, h2⟩
        have H2 := Aside0.mk h2; clear h2
        go_wp2
        go_roundw
        case rel => exact ⟨j + 1, rest, xj ++ [v], rfl, by go_num, by omega, by simp; omega, HT', ⟨H2.out.1⟩, ⟨(HF.out.trans (Fr.of_below HBW.out H1.out.below)).trans H2.out.2⟩⟩
        case measure => simp [intOf]; omega
      · rw [if_neg her] at hT
        simp only [Prod.mk.injEq] at hT
        obtain ⟨rfl, rfl, rfl⟩ := hT
        have HBW := Aside0.mk hbw
        have her' : (er == 0) = false := beq_eq_false_iff_ne.mpr her
        have her2 : (er != 0) = true := bne_iff_ne.mpr her
        clear ht hd HT hbw hz her
        go_wp2_with fail
        refine (octet_Take.calls 20 sj z v rest er _ A1.out).mono ?_
        rintro e w1 ⟨rfl, h1⟩
        have H1 := Aside0.mk h1; clear h1
        go_wp2
        go_ret2
        exact ⟨rfl, HLj.out.below H1.out.below, HF.out.trans (Fr.of_below HBW.out H1.out.below)⟩
    · have hge : j = zs.length := by omega
      have hres : sj = R ∧ E = 0 ∧ xj = XS := by
        have := HT.out
        rw [hge, List.drop_length] at this
        simp only [takeN, Prod.mk.injEq] at this
        exact ⟨this.1, this.2.1.symm, this.2.2⟩
      obtain ⟨rfl, rfl, rfl⟩ := hres
      clear hge HT
      go_wp2
      go_ret2
      exact ⟨rfl, HLj.out, HF.out⟩

end Go.Proofs.Ytdmmklfphkgmlaa.Ba
