/- table: Encode. -/
import Derived.Test.YtdmmklfphkgmlaaTbTClip
import Derived.Test.YtdmmklfphkgmlaaBld
namespace Go.Proofs.Ytdmmklfphkgmlaa.Tb
set_option linter.unusedSimpArgs false
open Go.Proofs.Ytdmmklfphkgmlaa.Ba Go.Proofs.Ytdmmklfphkgmlaa.Seg Go.RowKit Go.Proofs.YtdmmklfphkgmlaaW.PrintWords Go.Proofs.YtdmmklfphkgmlaaW.PrintLast Go.Proofs.YtdmmklfphkgmlaaW.PrintMore Go.Proofs.Ytdmmklfphkgmlaa.Om

theorem put_calls (v : Int) (n : Int) (w : World) (h0 : 0 ≤ v) (h1 : v < 18446744073709551616) :
    Calls Try.prog 14 #[.int .u64 v, .int .i64 n] w fun e w' => e = .returned (.tuple #[.string (putS v n).1, .int .i64 (putS v n).2]) ∧ Below w.heap.size w w' :=
  octet_Put.calls 10 v n _ _ w (put_any v n h0 h1 10 (Nat.le_refl _))

set_option maxRecDepth 100000 in
theorem number_calls (B b : Nat) (l : List UInt8) (v : Int) (n : Nat) (w : World) (h0 : 0 ≤ v) (h1 : v < 18446744073709551616) (hn1 : 1 ≤ n) (hn : n ≤ 8) (hv : v < 256 ^ n)
    (h : Lib.IsBuilderF 119 5 B b (Lib.byteCells l) w) (hlen : l.length + 8 ≤ 140737488355328) (hBw : B ≤ w.heap.size) :
    Calls Try.prog 61 #[.int .u64 v, .int .i64 (n : Int), .pointer (some ⟨b, 0, none⟩)] w fun e w' => e = .returned (.tuple #[]) ∧
      Lib.IsBuilderF 119 5 B b (Lib.byteCells (l ++ (num n v).data.toList)) w' ∧ Below B w w' ∧ Lib.OthersKept 5 (some b) w w' := by
  have e1 : putS v n = (num n v, 0) := by unfold putS; rw [Int.toNat_natCast, if_pos ⟨by omega, by omega, hv⟩]
  have K := Aside0.mk (put_calls v n w h0 h1)
  rw [e1] at K
  have HW := Aside0.mk (fun W (hb : Below w.heap.size w W) => Bld.writeString B b (Lib.byteCells l) (num n v) W (Bld.builder_below h hb) (by rw [Lib.byteCells_length, num_size]; omega) (Nat.le_trans hBw hb.size))
  have HB := Aside0.mk hBw
  clear h e1 hlen hv hBw
  go_enter Try.func61, Try.ntmps61
  go_wp2_with fail
  refine K.out.mono ?_
  rintro x w1 ⟨rfl, hb1⟩
  have H1 := Aside0.mk hb1
  clear hb1
  go_wp2_with fail
  refine (HW.out w1 H1.out).mono ?_
  rintro x w2 ⟨rfl, h2, hb2, hk2⟩
  have H2 := Aside0.mk (And.intro h2 (And.intro hb2 hk2))
  clear h2 hb2 hk2
  go_wp2
  go_end0
  refine ⟨rfl, ?_, (H1.out.mono HB.out).trans H2.out.2.1, (Bld.othersKept_below H1.out).trans H2.out.2.2⟩
  have := H2.out.1
  rw [Lib.strCells_eq, ← Lib.byteCells_append] at this
  exact .inr this

/-- What Encode has: the table's box and the builder. -/
def ES (w : World) (b : Nat) (x : Array Value) (l : ByteArray) (W : World) : Prop :=
  Below w.heap.size w W ∧ W.heap[w.heap.size]? = some (.cells x 39 (0, 0)) ∧ Lib.IsBuilderF 119 5 b b (Lib.byteCells l.data.toList) W ∧ w.heap.size < b ∧ b < W.heap.size
theorem ES.step {w W W' : World} {b : Nat} {x : Array Value} {l : ByteArray} (h : ES w b x l W) (hb : Below W.heap.size W W') : ES w b x l W' :=
  ⟨h.1.trans (hb.mono h.1.size), (hb.block _ (Array.getElem?_eq_some_iff.1 h.2.1).1).trans h.2.1, Bld.builder_below h.2.2.1 hb, h.2.2.2.1, Nat.lt_of_lt_of_le h.2.2.2.2 hb.size⟩
theorem ES.num {w W : World} {b : Nat} {x : Array Value} {l : ByteArray} (h : ES w b x l W) (v : Int) (n : Nat) (h0 : 0 ≤ v) (h1 : v < 18446744073709551616) (hn1 : 1 ≤ n) (hn : n ≤ 8) (hv : v < 256 ^ n) (hl : l.size ≤ 100000) :
    Calls Try.prog 61 #[.int .u64 v, .int .i64 (n : Int), .pointer (some ⟨b, 0, none⟩)] W fun e w' => e = .returned (.tuple #[]) ∧ ES w b x (l ++ num n v) w' ∧ Lib.OthersKept 5 (some b) W w' := by
  refine (number_calls b b l.data.toList v n W h0 h1 hn1 hn hv h.2.2.1 (by have : l.data.toList.length = l.size := by simp
                                                                           omega) (Nat.le_of_lt h.2.2.2.2)).mono ?_
  rintro e w' ⟨rfl, h2, hb, hk⟩
  refine ⟨rfl, ⟨h.1.trans (hb.mono (Nat.le_of_lt h.2.2.2.1)), (hb.block _ h.2.2.2.1).trans h.2.1, by rw [data_append]; exact h2, h.2.2.2.1, Nat.lt_of_lt_of_le h.2.2.2.2 hb.size⟩, hk⟩

theorem ES.other {w W : World} {b r : Nat} {x : Array Value} {l : ByteArray} (h : ES w b x l W) (hr : r ≠ b) (hw : r ≠ w.heap.size) (hwr : w.heap.size ≤ r) (hn : ∀ c fz, W.heap[r]? ≠ some (.cells c 5 fz)) (c : Array Value) : ES w b x l (W.setRow r c) := by
  have key : ∀ p, Lib.BuilderAtF 119 5 b b p (Lib.byteCells l.data.toList) W → Lib.BuilderAtF 119 5 b b p (Lib.byteCells l.data.toList) (W.setRow r c) := by
    rintro p ⟨hB, v, hv, hown, hne⟩
    refine ⟨hB, v, (setRow_other _ _ _ _ (fun e => hr e.symm)).trans hv, hown.kept (row := some r) ⟨rfl, rfl, rfl, by simp [World.setRow], fun k hk hk2 => setRow_other _ _ _ _ (fun e => hk2 (by rw [e]))⟩ (.inr fun e => ?_), hne⟩
    obtain ⟨c2, fz, h2⟩ := Lib.ownsRowF_kind hown r e
    exact hn c2 fz h2
  exact ⟨below_setRow h.1 hwr _, (setRow_other _ _ _ _ (fun e => hw e.symm)).trans h.2.1, h.2.2.1.elim (fun z => .inl (key _ z)) (fun z => .inr (key _ z)), h.2.2.2.1, by simpa [World.setRow] using h.2.2.2.2⟩
/-- .. and a row's box. -/
def ER (w : World) (b r : Nat) (x : Array Value) (l : ByteArray) (R : List Int) (W : World) : Prop :=
  ES w b x l W ∧ W.heap[r]? = some (.cells (rowV R) 36 (0, 0)) ∧ r ≠ b
theorem ER.num {w W : World} {b r : Nat} {x : Array Value} {l : ByteArray} {R : List Int} (h : ER w b r x l R W) (v : Int) (n : Nat) (h0 : 0 ≤ v) (h1 : v < 18446744073709551616) (hn1 : 1 ≤ n) (hn : n ≤ 8) (hv : v < 256 ^ n) (hl : l.size ≤ 100000) :
    Calls Try.prog 61 #[.int .u64 v, .int .i64 (n : Int), .pointer (some ⟨b, 0, none⟩)] W fun e w' => e = .returned (.tuple #[]) ∧ ER w b r x (l ++ num n v) R w' := by
  refine (h.1.num v n h0 h1 hn1 hn hv hl).mono ?_
  rintro e w' ⟨rfl, h2, hk⟩
  exact ⟨rfl, h2, hk r _ h.2.1 (fun e => h.2.2 (Option.some.inj e)) (fun _ _ e => by cases e), h.2.2⟩
theorem seqB_next (xs : List Int) (l : Int) (n j k : Nat) (hk : k < n) : num 8 l ++ seqB xs n (n * j + k) ++ num 4 (gx xs (8 * j + k)) = num 8 l ++ seqB xs n (n * j + (k + 1)) := by
  rw [← Nat.add_assoc, seqB, ByteArray.append_assoc, Nat.mul_add_div (by omega), Nat.div_eq_of_lt hk, Nat.mul_add_mod, Nat.mod_eq_of_lt hk, Nat.add_zero, Nat.mul_comm j 8]

set_option maxRecDepth 100000 in
set_option maxHeartbeats 1000000 in
theorem encode_calls (xs : List Int) (l m n : Int) (w : World) (hx : xs.length = 136) (hr : ∀ x ∈ xs, 0 ≤ x ∧ x < 4294967296) (hl0 : 0 ≤ l) (hl : l < 18446744073709551616) :
    Calls Try.prog 44 #[.agg (tabV xs l), .int .i64 m, .int .i64 n] w fun e w' => e = .returned (.tuple #[.string (encX xs l m n).1, .int .i64 (encX xs l m n).2]) ∧ Below w.heap.size w w' := by
  unfold encX
  by_cases hs : szB m n = true
  · rw [if_pos hs]
    obtain ⟨a1, a2, a3, a4⟩ := of_decide_eq_true hs
    obtain ⟨M, rfl⟩ := Int.eq_ofNat_of_zero_le (show 0 ≤ m by omega)
    obtain ⟨N, rfl⟩ := Int.eq_ofNat_of_zero_le (show 0 ≤ n by omega)
    have KS := Aside0.mk (fun V => hs ▸ sizes_calls (M : Int) (N : Int) V)
    rw [Int.toNat_natCast, Int.toNat_natCast]
    have H0 := Aside0.mk (show Below w.heap.size w (w.alloc (.cells (tabV xs l) 39)) ∧ (w.alloc (.cells (tabV xs l) 39)).heap[w.heap.size]? = some (.cells (tabV xs l) 39 (0, 0)) from ⟨below_alloc (Below.refl _ _) _, heap_alloc_new _ _⟩)
    have KC := Aside0.mk (fun V => clip_calls xs l M N V hx (by omega))
    obtain ⟨fb, hfb⟩ : ∃ b, fitsB xs M N = b := ⟨_, rfl⟩
    rw [hfb]
    have HF := Aside0.mk hfb
    clear hs hfb
    go_enter Try.func44, Try.ntmps44
    go_wp2_with fail
    generalize w.alloc (.cells (tabV xs l) 39) = W0 at H0 ⊢
    refine (KS.out _).mono ?_
    rintro x w1 ⟨rfl, rfl⟩
    go_wp2_with fail
    have ka : ∀ V : World, Below W0.heap.size W0 V → (Instr.loadAt 39 (.pointer (some ⟨w.heap.size, 0, none⟩))).run Try.prog V = .ok (.agg (tabV xs l)) V := fun V h => load39 ((h.block _ (Array.getElem?_eq_some_iff.1 H0.out.2).1).trans H0.out.2) (tab_info39 xs l hx)
    have keq : ∀ W : World, (Op.equalIn 10000 39 (.agg (tabV xs l)) (.agg (tabV (clipL xs M N) l))).run Try.prog W = .ok fb W := fun W => by rw [tabEq39 xs _ l l hx (clipL_len _ _ _), tabEq_clip xs l M N hx, HF.out]
    refine wp_region_held_drew (S := fun V => Below W0.heap.size W0 V) (by kernel_rfl) (below_drew (Below.refl _ _)) (fun hHeld => ?_)
    refine take_at (i := 0) (some 19) (.agg (tabV xs l)) rfl rfl (by kernel_rfl) (by kernel_rfl) (by kernel_rfl) (fun _ _ _ h => h) (yieldsIf_load (by rfl) 39 (.tmp 3) rfl (.pointer (some ⟨w.heap.size, 0, none⟩)) rfl _ ka) hHeld ?_
    refine take_at (i := 1) (some 20) (.agg (tabV xs l)) rfl rfl (by kernel_rfl) (by kernel_rfl) (by kernel_rfl) (fun _ _ _ h => h) (yieldsIf_load (by rfl) 39 (.tmp 3) rfl (.pointer (some ⟨w.heap.size, 0, none⟩)) rfl _ ka) hHeld ?_
    try simp only [Act.put, List.setIfInBounds_toArray, List.set_cons_zero, List.set_cons_succ]
    refine take_at (i := 2) (some 21) (.int .i64 M) rfl rfl (by kernel_rfl) (by kernel_rfl) (by kernel_rfl) (fun _ _ _ h => h) (Or.inl ⟨by rfl, fun w hSw => by go_simp⟩) hHeld ?_
    refine take_at (i := 3) (some 22) (.int .i64 N) rfl rfl (by kernel_rfl) (by kernel_rfl) (by kernel_rfl) (fun _ _ _ h => h) (Or.inl ⟨by rfl, fun w hSw => by go_simp⟩) hHeld ?_
    try simp only [Act.put, List.setIfInBounds_toArray, List.set_cons_zero, List.set_cons_succ]
    try simp only [Act.put, List.setIfInBounds_toArray, List.set_cons_zero, List.set_cons_succ]
    refine wpAnyH_ready (rs := [4]) (by kernel_rfl) (by simp) (AllReadyH.cons rfl (fun K hK => ?_) AllReadyH.nil)
    go_simp
    refine (KC.out _).mono ?_
    rintro x wc1 ⟨rfl, hb⟩
    refine hK.out _ _ (Below.trans hHeld (hb.mono (Below.size hHeld))) (fun hH1 => ?_)
    clear hK K hb hHeld
    refine take_at (i := 5) (some 24) (.bool (!fb)) rfl rfl (by kernel_rfl) (by kernel_rfl) (by kernel_rfl) (fun _ _ _ h => h) (Or.inl ⟨by rfl, fun w hSw => by go_simp⟩) hH1 ?_
    refine take_at (i := 6) (some 18) (.bool (!fb)) rfl rfl (by kernel_rfl) (by kernel_rfl) (by kernel_rfl) (fun _ _ _ h => h) (Or.inl ⟨by rfl, fun w hSw => by go_simp⟩) hH1 ?_
    try simp only [Act.put, List.setIfInBounds_toArray, List.set_cons_zero, List.set_cons_succ]
    refine wpAnyH_done (by kernel_rfl) ?_ _
    try simp only [Act.put, List.setIfInBounds_toArray, List.set_cons_zero, List.set_cons_succ]
    have H1 := Aside0.mk (show Below w.heap.size w wc1 ∧ wc1.heap[w.heap.size]? = some (.cells (tabV xs l) 39 (0, 0)) from ⟨H0.out.1.trans (hH1.mono H0.out.1.size), (hH1.block _ (Array.getElem?_eq_some_iff.1 H0.out.2).1).trans H0.out.2⟩)
    clear H0 hH1 ka keq
    cases fb with
    | false =>
      go_wp2
      go_ret2
      exact ⟨rfl, H1.out.1⟩
    | true =>
      have HE := Aside0.mk (show ES w wc1.heap.size (tabV xs l) ⟨#[]⟩ (wc1.alloc (.cells #[.pointer none, .slice none 0 0] 119)) from
        ⟨H1.out.1.alloc H1.out.1.size _, (heap_alloc_old _ _ (Array.getElem?_eq_some_iff.1 H1.out.2).1).trans H1.out.2, Lib.IsBuilderF.of (Lib.fresh_isBuilder 119 5 wc1), (Array.getElem?_eq_some_iff.1 H1.out.2).1, by simp⟩)
      clear H1
      have c1 := cell_of_row _ w.heap.size 136 _ _ _ HE.out.2.1
      rw [tabV_at xs l hx] at c1
      simp only [show ¬ (136 < 136) by omega, if_false, if_true] at c1
      go_wp2_with fail
      generalize wc1.alloc (.cells #[.pointer none, .slice none 0 0] 119) = W1 at HE c1 ⊢
      refine (HE.out.num l 8 hl0 hl (by omega) (by omega) (by have : (256 : Int) ^ 8 = 18446744073709551616 := by decide
                                                              omega) (by show 0 ≤ 100000; omega)).mono ?_
      rintro x w2 ⟨rfl, h2, _⟩
      have hb2 : (⟨#[]⟩ : ByteArray) ++ num 8 l = num 8 l ++ seqB xs N (N * 0) := by rw [Nat.mul_zero, seqB]; exact (ByteArray.empty_append).trans (ByteArray.append_empty).symm
      rw [hb2] at h2
      have H2 := Aside0.mk h2
      clear h2 HE c1 hb2 KC KS
      obtain ⟨b, hb⟩ : ∃ b, wc1.heap.size = b := ⟨_, rfl⟩
      rw [hb] at H2 ⊢
      clear hb
      go_wp2_with fail
      go_loopw [32] (fun i wr => ∃ (j : Nat), i = .int .i64 j ∧ j ≤ M + 1 ∧ Aside0 (ES w b (tabV xs l) (num 8 l ++ seqB xs N (N * j)) wr)) (fun i _ => M + 1 - (intOf i).toNat)
      case atStart => exact ⟨0, rfl, by omega, H2⟩
      case round =>
        obtain ⟨j, rfl, hj, HS⟩ := hrel
        clear H2
        by_cases hlt : j < M + 1
        · have hx1 : 0 ≤ (j : Int) := by omega
          have hx2 : (j : Int) < (M : Int) + 1 := by omega
          have hx3 : (j : Int) < 17 := by omega
          have hA := (heap_alloc_old wr (.cells #[.int .u32 0, .int .u32 0, .int .u32 0, .int .u32 0, .int .u32 0, .int .u32 0, .int .u32 0, .int .u32 0] 36) (Array.getElem?_eq_some_iff.1 HS.out.2.1).1).trans HS.out.2.1
          have hZ := heap_alloc_new wr (.cells #[.int .u32 0, .int .u32 0, .int .u32 0, .int .u32 0, .int .u32 0, .int .u32 0, .int .u32 0, .int .u32 0] 36)
          have r0 := rowL_at xs l 0 hx (by omega)
          have i0 : (Try.prog.info? 36).map (·.size) = some (rowL xs 0).length := by rw [rowL_len xs 0 hx (by omega)]; exact info36
          have j0 : (Try.prog.info? 36).map (·.size) = some (rowL xs 0).toArray.size := by rw [List.size_toArray, rowL_len xs 0 hx (by omega)]; exact info36
          have o0 := rowL_one xs 0
          have z0 : (#[.int .u32 0, .int .u32 0, .int .u32 0, .int .u32 0, .int .u32 0, .int .u32 0, .int .u32 0, .int .u32 0] : Array Value).size = (rowL xs 0).toArray.size := by simp only [List.size_toArray]; rw [rowL_len xs 0 hx (by omega)]; rfl
          have hbr : b < wr.heap.size := HS.out.2.2.2.2
          have hwb : w.heap.size < b := HS.out.2.2.2.1
          have hA0 := HS.out.2.1
          have HV : ES w b (tabV xs l) (num 8 l ++ seqB xs N (N * j)) ((wr.alloc (.cells #[.int .u32 0, .int .u32 0, .int .u32 0, .int .u32 0, .int .u32 0, .int .u32 0, .int .u32 0, .int .u32 0] 36)).setRow wr.heap.size (rowV (rowI xs 0))) := HS.out.step (below_setRow (below_alloc (Below.refl _ _) _) (Nat.le_refl _) _)
          have hR0 := setRow_heap (wr.alloc (.cells #[.int .u32 0, .int .u32 0, .int .u32 0, .int .u32 0, .int .u32 0, .int .u32 0, .int .u32 0, .int .u32 0] 36)) wr.heap.size _ (rowV (rowI xs 0)) 36 (0, 0) hZ
          generalize hVV : (wr.alloc (.cells #[.int .u32 0, .int .u32 0, .int .u32 0, .int .u32 0, .int .u32 0, .int .u32 0, .int .u32 0, .int .u32 0] 36)).setRow wr.heap.size (rowV (rowI xs 0)) = V at HV hR0
          have HV0 := Aside0.mk HV
          have hA2 := HV.2.1
          clear HV
          have hr1 : (rowL xs 0).toArray = rowV (rowI xs 0) := rfl
          rw [hr1] at j0 o0 z0
          have arm1 : True := trivial
          by_cases h0 : j = 0
          · have c2 : decide (0 < j) = false := decide_eq_false (by omega)
            have c3 : decide (0 < (j : Int)) = false := decide_eq_false (by omega)
            have H3 := Aside0.mk (show ER w b wr.heap.size (tabV xs l) (num 8 l ++ seqB xs N (N * j + 0)) (rowI xs (8 * j)) V from ⟨HV0.out, by rw [h0]; exact hR0, by omega⟩)
            clear h0
            go_wp2_with (first | refine wpList_load_seg rfl 36 _ rfl w.heap.size 0 rfl 39 _ (0, 0) (rowL xs 0) _ hA0 r0 Try.underlying36 rfl i0 ?_ | (refine wpList_store_row rfl 36 _ _ rfl wr.heap.size (rowV (rowI xs 0)) rfl rfl 36 _ hZ j0 z0 o0 ?_; rw [hVV]))
            clear hZ hVV hA hA2 hR0 r0 i0 j0 z0 o0 hr1 HV0 HS hA0
            obtain ⟨r, hrr⟩ : ∃ r, wr.heap.size = r := ⟨_, rfl⟩
            rw [hrr] at H3 hbr ⊢
            clear hrr
            go_wp2_with fail
            go_loopw [45] (fun i wz => ∃ (k : Nat), i = .int .i64 k ∧ k ≤ N ∧ Aside0 (ER w b r (tabV xs l) (num 8 l ++ seqB xs N (N * j + k)) (rowI xs (8 * j)) wz)) (fun i _ => N - (intOf i).toNat)
            case atStart => exact ⟨0, rfl, by omega, H3⟩
            case round =>
              obtain ⟨k, rfl, hk, HS⟩ := hrel
              clear H3
              by_cases hlt2 : k < N
              · have hy1 : 0 ≤ (k : Int) := by omega
                have hy2 : (k : Int) < (N : Int) := by omega
                have hy3 : (k : Int) < 8 := by omega
                have g1 := (cell_of_row wr r k _ _ _ HS.out.2.1).trans ((rowV_get (rowI xs (8 * j)) k (by rw [rowI_len xs _ hx (by omega)]; omega)).trans (by rw [gx_rowI _ _ _ (by omega)]))
                have g2 := gx_range hr (8 * j + k)
                have e1 : gx xs (8 * j + k) % 18446744073709551616 = gx xs (8 * j + k) := by omega
                have K := Aside0.mk (HS.out.num (gx xs (8 * j + k)) 4 g2.1 (by omega) (by omega) (by omega) (by have : (256 : Int) ^ 4 = 4294967296 := by decide
                                                                                                                omega) (by rw [ByteArray.size_append, num_size, seqB_size]; have : N * j ≤ 8 * 16 := Nat.mul_le_mul (by omega) (by omega)
                                                                                                                           omega))
                have E := Aside0.mk (seqB_next xs l N j k hlt2)
                clear HS g2
                go_wp2_with fail
                refine K.out.mono ?_
                rintro x w5 ⟨rfl, h5⟩
                rw [E.out] at h5
                have H5 := Aside0.mk h5
                clear h5 K E g1 e1
                go_wp2
                go_roundw
                case rel => exact ⟨k + 1, by go_num, by omega, H5⟩
                case measure => simp [intOf]; omega
              · have hge : k = N := by omega
                subst hge
                have H6 := Aside0.mk (show ES w b (tabV xs l) (num 8 l ++ seqB xs k (k * (j + 1))) wr from by rw [Nat.mul_add, Nat.mul_one]; exact HS.out.1)
                clear HS
                go_wp2
                go_roundw
                case rel => exact ⟨j + 1, by go_num, by omega, H6⟩
                case measure => simp [intOf]; omega
          · have c2 : decide (0 < j) = true := decide_eq_true (by omega)
            have c3 : decide (0 < (j : Int)) = true := decide_eq_true (by omega)
            have hj16 : 8 + (j - 1) * 8 ≤ 128 := by omega
            have r1 := rowL_at xs l (8 + (j - 1) * 8) hx hj16
            have i1 : (Try.prog.info? 36).map (·.size) = some (rowL xs (8 + (j - 1) * 8)).length := by rw [rowL_len xs _ hx hj16]; exact info36
            have j1 : (Try.prog.info? 36).map (·.size) = some (rowV (rowI xs (8 + (j - 1) * 8))).size := by rw [rowV_size _ (rowI_len xs _ hx hj16)]; exact info36
            have o1 := rowV_one (rowI xs (8 + (j - 1) * 8))
            have z1 : (rowV (rowI xs 0)).size = (rowV (rowI xs (8 + (j - 1) * 8))).size := by rw [rowV_size _ (rowI_len xs _ hx hj16), rowV_size _ (rowI_len xs _ hx (by omega))]
            have hx4 : 0 ≤ (j : Int) - 1 := by omega
            have hx5 : (j : Int) - 1 < 16 := by omega
            have H3 := Aside0.mk (show ER w b wr.heap.size (tabV xs l) (num 8 l ++ seqB xs N (N * j + 0)) (rowI xs (8 * j)) (V.setRow wr.heap.size (rowV (rowI xs (8 + (j - 1) * 8)))) from
              ⟨HV0.out.other (r := wr.heap.size) (by omega) (by omega) (by omega) (fun _ _ e => by rw [hR0] at e; simp at e) _, by rw [show 8 * j = 8 + (j - 1) * 8 by omega]; exact setRow_heap _ _ _ _ _ _ hR0, by omega⟩)
            clear h0
            go_wp2_with (first | refine wpList_load_seg rfl 36 _ rfl w.heap.size 0 rfl 39 _ (0, 0) (rowL xs 0) _ hA0 r0 Try.underlying36 rfl i0 ?_ | (refine wpList_store_row rfl 36 _ _ rfl wr.heap.size (rowV (rowI xs 0)) rfl rfl 36 _ hZ j0 z0 o0 ?_; rw [hVV]) |
              refine wpList_load_seg rfl 36 _ rfl w.heap.size (8 + (j - 1) * 8) rfl 39 _ (0, 0) (rowL xs (8 + (j - 1) * 8)) _ hA2 r1 Try.underlying36 rfl i1 ?_ | refine wpList_store_row rfl 36 _ _ rfl wr.heap.size (rowV (rowI xs (8 + (j - 1) * 8))) rfl rfl 36 _ hR0 j1 z1 o1 ?_)
            clear hZ hVV hA hA2 r0 i0 j0 z0 o0 hr1 r1 i1 j1 o1 z1 HV0 HS hA0
            generalize V.setRow wr.heap.size (rowV (rowI xs (8 + (j - 1) * 8))) = V2 at H3 ⊢
            clear hR0
            obtain ⟨r, hrr⟩ : ∃ r, wr.heap.size = r := ⟨_, rfl⟩
            rw [hrr] at H3 hbr ⊢
            clear hrr
            go_wp2_with fail
            go_loopw [45] (fun i wz => ∃ (k : Nat), i = .int .i64 k ∧ k ≤ N ∧ Aside0 (ER w b r (tabV xs l) (num 8 l ++ seqB xs N (N * j + k)) (rowI xs (8 * j)) wz)) (fun i _ => N - (intOf i).toNat)
            case atStart => exact ⟨0, rfl, by omega, H3⟩
            case round =>
              obtain ⟨k, rfl, hk, HS⟩ := hrel
              clear H3
              by_cases hlt2 : k < N
              · have hy1 : 0 ≤ (k : Int) := by omega
                have hy2 : (k : Int) < (N : Int) := by omega
                have hy3 : (k : Int) < 8 := by omega
                have g1 := (cell_of_row wr r k _ _ _ HS.out.2.1).trans ((rowV_get (rowI xs (8 * j)) k (by rw [rowI_len xs _ hx (by omega)]; omega)).trans (by rw [gx_rowI _ _ _ (by omega)]))
                have g2 := gx_range hr (8 * j + k)
                have e1 : gx xs (8 * j + k) % 18446744073709551616 = gx xs (8 * j + k) := by omega
                have K := Aside0.mk (HS.out.num (gx xs (8 * j + k)) 4 g2.1 (by omega) (by omega) (by omega) (by have : (256 : Int) ^ 4 = 4294967296 := by decide
                                                                                                                omega) (by rw [ByteArray.size_append, num_size, seqB_size]; have : N * j ≤ 8 * 16 := Nat.mul_le_mul (by omega) (by omega)
                                                                                                                           omega))
                have E := Aside0.mk (seqB_next xs l N j k hlt2)
                clear HS g2
                go_wp2_with fail
                refine K.out.mono ?_
                rintro x w5 ⟨rfl, h5⟩
                rw [E.out] at h5
                have H5 := Aside0.mk h5
                clear h5 K E g1 e1
                go_wp2
                go_roundw
                case rel => exact ⟨k + 1, by go_num, by omega, H5⟩
                case measure => simp [intOf]; omega
              · have hge : k = N := by omega
                subst hge
                have H6 := Aside0.mk (show ES w b (tabV xs l) (num 8 l ++ seqB xs k (k * (j + 1))) wr from by rw [Nat.mul_add, Nat.mul_one]; exact HS.out.1)
                clear HS
                go_wp2
                go_roundw
                case rel => exact ⟨j + 1, by go_num, by omega, H6⟩
                case measure => simp [intOf]; omega
        · have hge : j = M + 1 := by omega
          subst hge
          clear hr hx HF
          have hbl : b ≤ wr.heap.size := Nat.le_of_lt HS.out.2.2.2.2
          have hwb := HS.out.2.2.2.1
          go_wp2_with fail
          refine (Try.Builder_String_any_f b b (num 8 l ++ seqB xs N (N * (M + 1))).data.toList _ HS.out.2.2.1 hbl).mono ?_
          rintro x w5 ⟨rfl, _, hb5⟩
          have HZ := Aside0.mk (HS.out.1.trans (hb5.mono (Nat.le_of_lt hwb)))
          clear hb5 HS
          go_wp2
          go_ret2
          exact ⟨by rfl, HZ.out⟩
  · have hs : szB m n = false := by simpa using hs
    rw [hs, if_neg (by simp)]
    have KS := Aside0.mk (fun V => hs ▸ sizes_calls m n V)
    clear hs
    go_enter Try.func44, Try.ntmps44
    go_wp2_with fail
    refine (KS.out _).mono ?_
    rintro x w1 ⟨rfl, rfl⟩
    go_wp2_with fail
    go_ret2
    exact ⟨rfl, below_alloc (Below.refl _ _) _⟩
end Go.Proofs.Ytdmmklfphkgmlaa.Tb
