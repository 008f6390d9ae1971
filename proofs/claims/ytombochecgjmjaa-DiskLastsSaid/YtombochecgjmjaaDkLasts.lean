/- DiskLasts: the law's walk. -/
import Derived.Test.YtombochecgjmjaaDkArms
namespace Go.Proofs.Ytombochecgjmjaa.Dk
set_option linter.unusedSimpArgs false
set_option linter.unusedVariables false
open Go.RowKit Go.Proofs.Ytombochecgjmjaa.Own Go.Proofs.Ytombochecgjmjaa.Cel

/-- Bytes that came in. -/
def ArgB (A : Option Addr) (bs : List UInt8) (V : World) : Prop := ∀ j (h : j < bs.length), ∃ b o, A = some ⟨b, o, none⟩ ∧ V.cell? ⟨b, o + j, none⟩ = some (.int .u8 ((bs[j]'h).toNat : Nat))
theorem ArgB.below {A : Option Addr} {bs : List UInt8} {V V' : World} {B : Nat} (h : ArgB A bs V) (hs : V.heap.size ≤ B) (hb : Below B V V') : ArgB A bs V' := fun j hj => by
  obtain ⟨b, o, e, hc⟩ := h j hj
  have hlt : b < V.heap.size := World.block_lt_of_cell? V _ hc
  exact ⟨b, o, e, (World.cell?_of_block (hb.block b (by omega))).trans hc⟩
/-- The disk behind i writes, not armed. -/
def LS (L : List ByteArray) (i : Nat) (S : DS) : Prop := S.lasts = L ∧ L.length = 8 ∧ S.armed = 0 ∧ S.ok ∧ S.waits.length = i ∧ 0 ≤ S.ops ∧ S.ops ≤ 1000
theorem LS.put {L : List ByteArray} {i : Nat} {S : DS} (h : LS L i S) (j : Int) (s : ByteArray) (hj : 0 ≤ j ∧ j < 8) (hs : s.size = 128) (ho : S.ops ≤ 999) : (S.put j s).2 = 0 ∧ LS L (i + 1) (S.put j s).1 ∧ (S.put j s).1.ops = S.ops + 1 := by
  obtain ⟨h1, h2, h3, h4, h5, h6, h7⟩ := h
  have hf : S.fails = (S, false) := by unfold DS.fails; rw [if_pos (by omega)]
  have hp := put_ok (S := S) (i := j) (s := s) (by rw [h1, h2]; exact hj) hs (by rw [hf])
  rw [hp, hf]
  refine ⟨rfl, ⟨h1, h2, h3, ?_, ?_, ?_, ?_⟩, rfl⟩
  · intro x hx
    rcases List.mem_append.1 hx with hx | hx
    · exact h4 x hx
    · simp only [List.mem_singleton] at hx
      subst hx
      show j.toNat < S.lasts.length
      rw [h1, h2]; omega
  · show (S.waits ++ [(j.toNat, s)]).length = _
    rw [List.length_append, h5]; rfl
  · show 0 ≤ S.ops + 1
    omega
  · show S.ops + 1 ≤ 1000
    omega
theorem LS.sync {L : List ByteArray} {i : Nat} {S : DS} (h : LS L i S) (ho : S.ops ≤ 999) : S.sync.2 = 0 ∧ LS (applyW L S.waits) 0 S.sync.1 ∧ S.sync.1.waits = [] ∧ S.sync.1.ops = S.ops + 1 := by
  obtain ⟨h1, h2, h3, h4, h5, h6, h7⟩ := h
  have hf : S.fails = (S, false) := by unfold DS.fails; rw [if_pos (by omega)]
  have e : S.sync = ({ S.crash (fun _ => true) with ops := S.ops + 1 }, 0) := by unfold DS.sync; rw [hf]; rfl
  rw [e]
  have hl : applyW S.lasts (keptW (fun _ => true) 0 S.waits) = applyW L S.waits := by rw [keptW_all _ _ _ (fun _ _ _ => rfl), h1]
  have hok : ({ S.crash (fun _ => true) with ops := S.ops + 1 } : DS).ok := fun x (hx : x ∈ ([] : List Wt)) => absurd hx (by simp)
  exact ⟨rfl, ⟨hl, by rw [applyW_len, h2], h3, hok, rfl, show 0 ≤ S.ops + 1 by omega, show S.ops + 1 ≤ 1000 by omega⟩, rfl, rfl⟩
theorem readAt_lasts {S : DS} (h : S.waits = []) (j : Nat) (hj : j < S.lasts.length) : S.readAt (j : Int) = (S.lasts.getD j ByteArray.empty, 0) := by
  unfold DS.readAt
  rw [if_pos ⟨by omega, by omega⟩, DS.read, h]; rfl

/-- A disk, and a row of strings beside it. -/
def LW (w : World) (p : Nat) (S : DS) (v : Value) (ws : List ByteArray) (V : World) : Prop :=
  ∃ F, DK w.heap.size p S F V ∧ Below w.heap.size w V ∧ V.ownsRow w.heap.size 9 1 v ws.length (strs ws) ∧ ∀ k, v.ownBlock = some k → ¬ F k
theorem LW.step {w V V' : World} {p : Nat} {S : DS} {v : Value} {ws : List ByteArray} (h : LW w p S v ws V) (hb : Below V.heap.size V V') : LW w p S v ws V' := by
  obtain ⟨F, d, b, r, n⟩ := h
  exact ⟨F, d.below hb, b.trans (hb.mono b.size), owns_keep r hb, n⟩
theorem LW.did {w V V' : World} {p : Nat} {S S' : DS} {F : Nat → Prop} {v : Value} {ws : List ByteArray} (d : DK w.heap.size p S F V) (b : Below w.heap.size w V) (r : V.ownsRow w.heap.size 9 1 v ws.length (strs ws)) (n : ∀ k, v.ownBlock = some k → ¬ F k)
    (h : Did w.heap.size p S' F V V') : LW w p S' v ws V' := by
  obtain ⟨F', d', o, f⟩ := h
  refine ⟨F', d', b.trans (o.below (fun k hk => (d.lt hk).1) b.size), owns_block r (fun g e => o.block g (r.lt g e).2 (n g e)), fun k e hk => ?_⟩
  rcases f k hk with hk | hk
  · exact n k e hk
  · have := (r.lt k e).2
    omega
theorem LW.write {w V : World} {p : Nat} {S : DS} {v : Value} {ws : List ByteArray} (h : LW w p S v ws V) (ha : S.armed ≤ 9223372036854775807) (hn : S.waits.length ≤ 1000000) (ho0 : 0 ≤ S.ops) (ho : S.ops ≤ 4611686018427387904) (i : Int) (s : ByteArray) (hi0 : -9223372036854775808 ≤ i) (hi1 : i ≤ 9223372036854775807) :
    Calls Try.prog 12 #[.pointer (some ⟨p, 0, none⟩), .int .i64 i, .string s] V fun e W' => e = .returned (.int .i64 (S.put i s).2) ∧ LW w p (S.put i s).1 v ws W' := by
  obtain ⟨F, d, b, r, n⟩ := h
  exact (write_calls d ha hn ho0 ho i s hi0 hi1).mono fun _ _ ⟨e, h⟩ => ⟨e, LW.did d b r n h⟩
theorem LW.read {w V : World} {p : Nat} {S : DS} {v : Value} {ws : List ByteArray} (h : LW w p S v ws V) (i : Int) :
    Calls Try.prog 18 #[.pointer (some ⟨p, 0, none⟩), .int .i64 i] V fun e W' => e = .returned (.tuple #[.string (S.readAt i).1, .int .i64 (S.readAt i).2]) ∧ V = W' := by
  obtain ⟨F, d, b, r, n⟩ := h
  exact read_calls d i
theorem LW.waiting {w V : World} {p : Nat} {S : DS} {v : Value} {ws : List ByteArray} (h : LW w p S v ws V) :
    Calls Try.prog 16 #[.pointer (some ⟨p, 0, none⟩)] V fun e W' => e = .returned (.int .i64 (S.waits.length : Nat)) ∧ V = W' := by
  obtain ⟨F, d, b, r, n⟩ := h
  exact waiting_calls d
theorem infoB : (Try.prog.info? 4).map (fun i => (i.zero, i.size, i.bytes)) = some (some (.bool false), 1, 1) := by kernel_rfl
/-- 'make([]bool, n)'. -/
theorem makeB (V : World) (n : Nat) (hn : n ≤ 1000) : ∃ b V', (Instr.makeSlice 43 (.int .i64 (n : Nat)) (.int .i64 (n : Nat))).run Try.prog V = .ok (.slice (some ⟨b, 0, none⟩) n n) V' ∧ Below V.heap.size V V' ∧ V.heap.size ≤ b ∧
    ∀ i, i < n → V'.cell? ⟨b, i, none⟩ = some (.bool false) := by
  obtain ⟨i0, hi, hz0, hz1, hz2⟩ := info_parts infoB
  obtain ⟨w1, hm, ho, hg⟩ := run_makeSlice_full (P := Try.prog) V V.heap.size 43 4 i0 (.bool false) 1 Try.underlying43 hi hz0 hz1 .i64 .i64 n (by omega) (by rw [hz2]; omega) (by unfold maxLen; omega) (Nat.le_refl _)
  refine ⟨V.heap.size, w1, hm, (Below.refl _ _).grown hg (Nat.le_refl _) (fun k h => by cases h), Nat.le_refl _, fun i hi => ?_⟩
  rw [ho.cellAt i (by omega), show (madeCells (Value.bool false).cells (n * 1)).toList = List.replicate (n * 1) (.bool false) from toList_madeCells_one _ _]
  rw [List.getElem?_replicate, if_pos (by omega)]
/-- A crash that keeps nothing of what waits. -/
theorem LW.crashN {w V : World} {p : Nat} {S : DS} {v : Value} {ws : List ByteArray} (h : LW w p S v ws V) (hok : S.ok) (hn : S.waits.length ≤ 1000000) (b n : Nat) (hnn : n ≤ 1000) (hb : V.heap.size ≤ b) (V' : World) (hb2 : Below V.heap.size V V') (hc : ∀ i, i < n → V'.cell? ⟨b, i, none⟩ = some (.bool false)) :
    Calls Try.prog 19 #[.pointer (some ⟨p, 0, none⟩), .slice (some ⟨b, 0, none⟩) n n] V' fun e W' => e = .returned (.tuple #[]) ∧ LW w p { S with waits := [] } v ws W' := by
  have h' := h.step hb2
  obtain ⟨F, d, b1, r, nn⟩ := h
  have d' := d.below hb2
  have r' := owns_keep r hb2
  have hk : KeepAt F (some ⟨b, 0, none⟩) (List.replicate n false) V' := fun i hi => by
    have hi' : i < n := by simpa using hi
    exact ⟨0 + i, b, 0, rfl, rfl, fun e => by have := (d.lt e).2; omega, by rw [Nat.zero_add, hc i hi', List.getElem_replicate]⟩
  have hq := crash_calls d' hok hn (some ⟨b, 0, none⟩) n (List.replicate n false) hk (by simp; omega)
  rw [List.length_replicate] at hq
  refine hq.mono fun _ _ ⟨e, h⟩ => ⟨e, ?_⟩
  have e2 : S.crash (fun j => (List.replicate n false).getD j false) = { S with waits := [] } := by
    unfold DS.crash
    rw [keptW_none _ _ _ (fun j _ _ => by
      rw [List.getD_eq_getElem?_getD, List.getElem?_replicate]; split <;> rfl)]; rfl
  rw [e2] at h
  exact LW.did d' (b1.trans (hb2.mono b1.size)) r' nn h

/-- What the second loop has. -/
def L2 (w : World) (p : Nat) (S : DS) (β : Nat) (v : Value) (ws : List ByteArray) (V : World) : Prop :=
  ∃ F, DK w.heap.size p S F V ∧ (∀ k, F k → k < β) ∧ β ≤ V.heap.size ∧ w.heap.size ≤ β ∧ Below w.heap.size w V ∧ V.ownsRow β 9 1 v ws.length (strs ws)
theorem L2.read {w V : World} {p β : Nat} {S : DS} {v : Value} {ws : List ByteArray} (h : L2 w p S β v ws V) (i : Int) :
    Calls Try.prog 18 #[.pointer (some ⟨p, 0, none⟩), .int .i64 i] V fun e W' => e = .returned (.tuple #[.string (S.readAt i).1, .int .i64 (S.readAt i).2]) ∧ V = W' := by
  obtain ⟨F, d, _⟩ := h
  exact read_calls d i
theorem L2.step {w V V' : World} {p β : Nat} {S : DS} {v : Value} {ws : List ByteArray} (h : L2 w p S β v ws V) (hb : Below V.heap.size V V') : L2 w p S β v ws V' := by
  obtain ⟨F, d, a1, a2, a3, b, r⟩ := h
  exact ⟨F, d.below hb, a1, Nat.le_trans a2 hb.size, a3, b.trans (hb.mono b.size), owns_keep r hb⟩
theorem L2.put {w V V' : World} {p β k : Nat} {S : DS} {v v' : Value} {ws : List ByteArray} {s : ByteArray} (h : L2 w p S β v ws V) (hg : V.grownBy V' v.ownBlock) (ho : V'.ownsRow β 9 1 v' k (strs ws ++ strs [s])) (hk : k = ws.length + 1) : L2 w p S β v' (ws ++ [s]) V' := by
  obtain ⟨F, d, a1, a2, a3, b, r⟩ := h
  subst hk
  refine ⟨F, d.keep (fun k hk => hg.block k (d.lt hk).2 (fun e => ?_)), a1, Nat.le_trans a2 hg.size, a3, b.grown hg b.size (fun k e => ?_), by rw [List.length_append, strs_append]; exact ho⟩
  · have := (r.lt k e.symm).1
    have := a1 k hk
    omega
  · have := (r.lt k e).1
    omega
theorem L2.done {w V : World} {p β : Nat} {S : DS} {v : Value} {ws : List ByteArray} (h : L2 w p S β v ws V) : LW w p S v ws V := by
  obtain ⟨F, d, a1, a2, a3, b, r⟩ := h
  exact ⟨F, d, b, owns_mono r a3, fun k e hk => by have := (r.lt k e).1; have := a1 k hk; omega⟩

set_option maxRecDepth 100000 in
set_option maxHeartbeats 2000000 in
theorem lasts_walk (A1 A2 : Option Addr) (c1 c2 : Nat) (bs1 bs2 : List UInt8) (w : World) (h1 : ArgB A1 bs1 w) (h2 : ArgB A2 bs2 w) (m1 : bs1.length ≤ 9223372036854775807) (m2 : bs2.length ≤ 9223372036854775807) :
    Calls Try.prog 5 #[.slice A1 bs1.length c1, .slice A2 bs2.length c2] w fun e w' => e = .returned (.bool true) ∧ Below w.heap.size w w' := by
  obtain ⟨n1, hn1⟩ : ∃ n, bs1.length = n := ⟨_, rfl⟩
  obtain ⟨n2, hn2⟩ : ∃ n, bs2.length = n := ⟨_, rfl⟩
  rw [hn1, hn2]
  rw [hn1] at m1
  rw [hn2] at m2
  have H1 := Aside0.mk h1
  have H2 := Aside0.mk h2
  have N1 := Aside0.mk hn1
  have N2 := Aside0.mk hn2
  clear h1 h2 hn1 hn2
  by_cases q : 40 < n1 ∨ 40 < n2
  · by_cases q1 : 40 < n1
    · have t1 : decide (40 < (n1 : Int)) = true := decide_eq_true (by omega)
      have t1' : decide (40 < n1) = true := decide_eq_true q1
      clear q q1
      go_enter Try.func5, Try.ntmps5
      go_wp2_with fail
      refine (awake12_calls _).mono ?_
      rintro x w3 ⟨rfl, hb⟩
      have HB := Aside0.mk hb
      clear hb
      go_wp2
      go_ret
      exact ⟨rfl, HB.out⟩
    · have q2 : 40 < n2 := by omega
      have t1 : decide (40 < (n1 : Int)) = false := decide_eq_false (by omega)
      have t1' : decide (40 < n1) = false := decide_eq_false q1
      have t2 : decide (40 < (n2 : Int)) = true := decide_eq_true (by omega)
      have t2' : decide (40 < n2) = true := decide_eq_true q2
      clear q q1 q2
      go_enter Try.func5, Try.ntmps5
      go_wp2_with fail
      refine (awake12_calls _).mono ?_
      rintro x w3 ⟨rfl, hb⟩
      have HB := Aside0.mk hb
      clear hb
      go_wp2
      go_ret
      exact ⟨rfl, HB.out⟩
  have l1 : n1 ≤ 40 := by omega
  have l2 : n2 ≤ 40 := by omega
  have t1 : decide (40 < (n1 : Int)) = false := decide_eq_false (by omega)
  have t1' : decide (40 < n1) = false := decide_eq_false (by omega)
  have t2 : decide (40 < (n2 : Int)) = false := decide_eq_false (by omega)
  have t2' : decide (40 < n2) = false := decide_eq_false (by omega)
  have KN := Aside0.mk (new_good 8 w (by omega) (by omega))
  rw [show ((8 : Nat) : Int) = 8 by rfl] at KN
  clear q m1 m2
  go_enter Try.func5, Try.ntmps5
  go_wp2_with fail
  refine KN.out.mono ?_
  rintro x w1 ⟨p, F, rfl, d, b⟩
  have HS0 := Aside0.mk (show ∃ S, DW w p S w1 ∧ LS (List.replicate 8 (sect 0)) 0 S ∧ S.ops = ((0 : Nat) : Int) from ⟨_, DW.new d b, ⟨rfl, by simp, rfl, fun x (hx : x ∈ ([] : List Wt)) => absurd hx (by simp), rfl, Int.le_refl _, by decide⟩, rfl⟩)
  clear d b KN
  go_wp2_with fail
  go_loopw [39] (fun iv W => ∃ (i : Nat), iv = .int .i64 i ∧ i ≤ n1 ∧ Aside0 (∃ S, DW w p S W ∧ LS (List.replicate 8 (sect 0)) i S ∧ S.ops = (i : Int))) (fun iv _ => n1 - (intOf iv).toNat)
  case atStart => exact ⟨0, rfl, by omega, HS0⟩
  case round =>
    obtain ⟨i, rfl, hi, HS⟩ := hrel
    clear HS0
    by_cases hlt : i < n1
    · have hi1 : (i : Int) < (n1 : Int) := by omega
      obtain ⟨S, hd0, hl0, ho0⟩ := HS.out
      obtain ⟨bb, oo, rfl, hc⟩ := (H1.out.below (Nat.le_refl _) (by obtain ⟨F', d', b'⟩ := hd0; exact b')) i (by rw [N1.out]; exact hlt)
      obtain ⟨xb, hxb⟩ : ∃ x, bs1[i]'(by rw [N1.out]; exact hlt) = x := ⟨_, rfl⟩
      rw [hxb] at hc
      have KF := Aside0.mk (fun V => fill_calls xb V)
      obtain ⟨s8, hs8⟩ : ∃ x, sect xb = x := ⟨_, rfl⟩
      have HSZ := Aside0.mk (show s8.size = 128 by rw [← hs8]; exact sect_size _)
      rw [hs8] at KF
      obtain ⟨x8, hx8⟩ : ∃ x : Int, ((xb.toNat : Nat) : Int) = x := ⟨_, rfl⟩
      rw [hx8] at KF hc
      have HD := Aside0.mk hd0
      have HL := Aside0.mk hl0
      have HO := Aside0.mk ho0
      clear hs8 hx8 hd0 hl0 ho0 HS hxb
      go_wp2_with fail
      refine (KF.out _).mono ?_
      rintro x w3 ⟨rfl, hb⟩
      replace HD := Aside0.mk (HD.out.step hb)
      clear hb KF hc
      go_wp2_with fail
      refine (HD.out.write (by rw [HL.out.2.2.1]; decide) (by rw [HL.out.2.2.2.2.1]; omega) HL.out.2.2.2.2.2.1 (by rw [HO.out]; omega) ((i : Int) % 8) s8 (by omega) (by omega)).mono ?_
      rintro x w4 ⟨rfl, hd⟩
      obtain ⟨e1, e2, e3⟩ := HL.out.put ((i : Int) % 8) s8 (by omega) HSZ.out (by rw [HO.out]; omega)
      rw [e1]
      have HN := Aside0.mk (show ∃ S, DW w p S w4 ∧ LS (List.replicate 8 (sect 0)) (i + 1) S ∧ S.ops = ((i + 1 : Nat) : Int) from ⟨_, hd, e2, by rw [e3, HO.out]; rfl⟩)
      clear e1 e2 e3 hd HD HL HO
      go_wp2
      go_roundw
      case rel => exact ⟨i + 1, by go_num, by omega, HN⟩
      case measure => simp [intOf]; omega
    · obtain rfl : i = n1 := by omega
      obtain ⟨S, hd0, hl0, ho0⟩ := HS.out
      have HD := Aside0.mk hd0
      have HL := Aside0.mk hl0
      have HO := Aside0.mk ho0
      clear hd0 hl0 ho0 HS
      go_wp2_with fail
      refine (HD.out.sync HL.out.2.2.2.1 (by rw [HL.out.2.2.1]; decide) (by rw [HL.out.2.2.2.2.1]; omega) HL.out.2.2.2.2.2.1 (by rw [HO.out]; omega)).mono ?_
      rintro x w4 ⟨rfl, hd⟩
      obtain ⟨e1, e2, e3, e4⟩ := HL.out.sync (by rw [HO.out]; omega)
      rw [e1]
      rw [HO.out] at e4
      obtain ⟨L1, hL1⟩ : ∃ l, applyW (List.replicate 8 (sect 0)) S.waits = l := ⟨_, rfl⟩
      rw [hL1] at e2
      obtain ⟨S1, hS1⟩ : ∃ x, S.sync.1 = x := ⟨_, rfl⟩
      rw [hS1] at hd e2 e3 e4
      have HD1 := Aside0.mk hd
      have HL1 := Aside0.mk e2
      have HW1 := Aside0.mk e3
      have HO1 := Aside0.mk (show S1.ops ≤ 100 by rw [e4]; omega)
      clear e1 e2 e3 e4 hd HD HL HO hL1 hS1
      go_wp2_with fail
      refine HD1.out.waiting.mono ?_
      rw [HW1.out]
      rintro x w5 ⟨rfl, rfl⟩
      have HS0 := Aside0.mk (show L2 w p S1 w4.heap.size (.slice none 0 0) (L1.take 0) w4 from by
        obtain ⟨F', d', b'⟩ := HD1.out
        exact ⟨F', d', fun k hk => (d'.lt hk).2, Nat.le_refl _, b'.size, b', World.ownsRow_nil _ _ _ _⟩)
      clear HD1
      go_wp2_with fail
      obtain ⟨i0, hi0, hz0, hz1, hz2⟩ := info_parts infoS
      have hL8 : L1.length = 8 := HL1.out.2.1
      have HL8 := Aside0.mk hL8
      clear hL8
      generalize hβ : w4.heap.size = β at HS0
      clear hβ
      go_loopw [60, 9] (fun iv vv W => ∃ (j : Nat), iv = .int .i64 j ∧ j ≤ 8 ∧ Aside0 (L2 w p S1 β vv (L1.take j) W)) (fun iv _ _ => 8 - (intOf iv).toNat)
      case atStart => exact ⟨0, rfl, by omega, HS0⟩
      case round =>
        obtain ⟨j, rfl, hj, HS⟩ := hrel
        clear HS0
        by_cases hlt : j < 8
        · have hj1 : (j : Int) < 8 := by omega
          have hjl : j < L1.length := by rw [HL8.out]; exact hlt
          have er := readAt_lasts (S := S1) HW1.out j (by rw [HL1.out.1, HL8.out]; exact hlt)
          rw [HL1.out.1] at er
          obtain ⟨s8, hs8⟩ : ∃ x, L1.getD j ByteArray.empty = x := ⟨_, rfl⟩
          rw [hs8] at er
          have ET := Aside0.mk (show L1.take (j + 1) = L1.take j ++ [s8] by
            rw [List.take_succ_eq_append_getElem hjl, ← hs8, List.getD_eq_getElem?_getD, List.getElem?_eq_getElem hjl]; rfl)
          have ER := Aside0.mk er
          have hlen : (L1.take j).length = j := by rw [List.length_take, HL8.out]; omega
          have HLEN := Aside0.mk hlen
          clear hs8 er hlen hjl
          go_wp2_with fail
          refine (HS.out.read (j : Int)).mono ?_
          rw [ER.out]
          rintro x w6 ⟨rfl, rfl⟩
          have HA := Aside0.mk (HS.out.step ((Below.refl _ _).alloc (Nat.le_refl _) (.cells #[.string s8] 9)))
          have HC := Aside0.mk (show ∀ j u, (strs [s8])[j]? = some u → (wr.alloc (.cells #[.string s8] 9)).cell? ((⟨wr.heap.size, 0, none⟩ : Addr).add j) = some u by
            intro j u hj
            cases j with
            | zero => exact (cell_of_row _ wr.heap.size 0 _ _ _ (heap_alloc_new wr _)).trans hj
            | succ j => simp [strs] at hj)
          have HOW := Aside0.mk (show (wr.alloc (.cells #[.string s8] 9)).ownsRow β 9 1 u9 j (strs (L1.take j)) ∧ β ≤ (wr.alloc (.cells #[.string s8] 9)).heap.size from by
            obtain ⟨F', d', a1, a2, a3, b', r'⟩ := HA.out
            rw [HLEN.out] at r'
            exact ⟨r', a2⟩)
          clear HS
          go_wp2_with (at_builtin; go_loud (refine wpList_append_own _ rfl _ _ 39 rfl β 9 i0 (.string ⟨#[]⟩) 1 16 Try.underlying39 hi0 hz0 hz1 hz2 rfl (by decide) _ _ _ rfl HOW.out.1 ⟨wr.heap.size, 0, none⟩ 1 1 (strs [s8]) rfl rfl HC.out (strs_one _) (by unfold maxLen; omega) (by omega) HOW.out.2 ?_))
          intro v' w8 ho2 hg2 _
          obtain ⟨A', c', rfl⟩ := owns_slice ho2
          have HN := Aside0.mk (show L2 w p S1 β (.slice A' (j + 1) c') (L1.take (j + 1)) w8 from by
            rw [ET.out]; exact HA.out.put hg2 ho2 (by rw [HLEN.out]))
          clear ho2 hg2 HA HC HOW ET ER HLEN
          go_wp2
          go_roundw
          case rel => exact ⟨j + 1, by go_num, by omega, HN⟩
          case measure => simp [intOf]; omega
        · obtain rfl : j = 8 := by omega
          rw [show ((8 : Nat) : Int) = 8 from rfl]
          have e8 : L1.take 8 = L1 := List.take_of_length_le (by rw [HL8.out]; exact Nat.le_refl _)
          have hw := HS.out.done
          rw [e8] at hw
          obtain ⟨A3, c3, rfl⟩ : ∃ A c, u9 = .slice A 8 c := by
            obtain ⟨F', d', b', r', n'⟩ := hw
            rw [HL8.out] at r'
            exact owns_slice r'
          have HS3 := Aside0.mk (show ∃ S, LW w p S (.slice A3 8 c3) L1 wr ∧ LS L1 0 S ∧ S.ops ≤ 100 + ((0 : Nat) : Int) from ⟨S1, hw, HL1.out, by have := HO1.out; omega⟩)
          clear e8 hw HS hlt hj
          go_wp2_with fail
          go_loopw [76] (fun iv W => ∃ (k : Nat), iv = .int .i64 k ∧ k ≤ n2 ∧ Aside0 (∃ S, LW w p S (.slice A3 8 c3) L1 W ∧ LS L1 k S ∧ S.ops ≤ 100 + (k : Int))) (fun iv _ => n2 - (intOf iv).toNat)
          case atStart => exact ⟨0, rfl, by omega, HS3⟩
          case round =>
            obtain ⟨k, rfl, hk, HS⟩ := hrel
            clear HS3
            by_cases hlt : k < n2
            · have hk1 : (k : Int) < (n2 : Int) := by omega
              have hk40 : (k : Int) < 40 := by omega
              obtain ⟨S, hd0, hl0, ho0⟩ := HS.out
              obtain ⟨bb, oo, rfl, hc⟩ := (H2.out.below (Nat.le_refl _) (by obtain ⟨F', d', b', r', n'⟩ := hd0; exact b')) k (by rw [N2.out]; exact hlt)
              obtain ⟨xb, hxb⟩ : ∃ x, bs2[k]'(by rw [N2.out]; exact hlt) = x := ⟨_, rfl⟩
              rw [hxb] at hc
              have KF0 := fun V => fill_calls (UInt8.ofNat k) V
              have e8 : (((UInt8.ofNat k).toNat : Nat) : Int) = (k : Int) := by
                rw [UInt8.toNat_ofNat', Nat.mod_eq_of_lt (by omega)]
              rw [e8] at KF0
              obtain ⟨s8, hs8⟩ : ∃ x, sect (UInt8.ofNat k) = x := ⟨_, rfl⟩
              have HSZ := Aside0.mk (show s8.size = 128 by rw [← hs8]; exact sect_size _)
              rw [hs8] at KF0
              have KF := Aside0.mk KF0
              have hx256 : (xb.toNat : Int) < 256 := by have := xb.toNat_lt; omega
              obtain ⟨x8, hx8⟩ : ∃ x : Nat, xb.toNat = x := ⟨_, rfl⟩
              rw [hx8] at hc hx256
              have HD := Aside0.mk hd0
              have HL := Aside0.mk hl0
              have HO := Aside0.mk ho0
              clear hs8 hx8 hd0 hl0 ho0 HS hxb KF0 e8
              go_wp2_with fail
              refine (KF.out _).mono ?_
              rintro x w3 ⟨rfl, hb⟩
              replace HD := Aside0.mk (HD.out.step hb)
              clear hb KF hc
              go_wp2_with fail
              refine (HD.out.write (by rw [HL.out.2.2.1]; decide) (by rw [HL.out.2.2.2.2.1]; omega) HL.out.2.2.2.2.2.1 (by have := HO.out; omega) ((x8 : Int) % 8) s8 (by omega) (by omega)).mono ?_
              rintro x w4 ⟨rfl, hd⟩
              obtain ⟨e1, e2, e3⟩ := HL.out.put ((x8 : Int) % 8) s8 (by omega) HSZ.out (by have := HO.out; omega)
              rw [e1]
              have HN := Aside0.mk (show ∃ S, LW w p S (.slice A3 8 c3) L1 w4 ∧ LS L1 (k + 1) S ∧ S.ops ≤ 100 + ((k + 1 : Nat) : Int) from ⟨_, hd, e2, by rw [e3]; have := HO.out; omega⟩)
              clear e1 e2 e3 hd HD HL HO
              go_wp2
              go_roundw
              case rel => exact ⟨k + 1, by go_num, by omega, HN⟩
              case measure => simp [intOf]; omega
            · obtain rfl : k = n2 := by omega
              obtain ⟨S, hd0, hl0, ho0⟩ := HS.out
              obtain ⟨qb, W7, hmk, hb7, hq7, hc7⟩ := makeB wr k (by omega)
              have KC := Aside0.mk (hd0.crashN hl0.2.2.2.1 (by rw [hl0.2.2.2.2.1]; omega) qb k (by omega) hq7 W7 hb7 hc7)
              have HL := Aside0.mk hl0
              clear hd0 hl0 ho0 HS hb7 hq7 hc7
              go_wp2_with fail
              clear hmk
              refine KC.out.mono ?_
              rintro x w9 ⟨rfl, hd⟩
              obtain ⟨S9, hS9⟩ : ∃ x, ({ S with waits := [] } : DS) = x := ⟨_, rfl⟩
              rw [hS9] at hd
              have HD := Aside0.mk hd
              have HLL := Aside0.mk (show S9.lasts = L1 ∧ S9.waits = [] by rw [← hS9]; exact ⟨HL.out.1, rfl⟩)
              clear hd KC HL hS9
              go_wp2_with fail
              have HS4 := Aside0.mk (show LW w p S9 (.slice A3 8 c3) L1 w9 from HD.out)
              go_loopw [95] (fun iv W => ∃ (j : Nat), iv = .int .i64 j ∧ j ≤ 8 ∧ Aside0 (LW w p S9 (.slice A3 8 c3) L1 W)) (fun iv _ => 8 - (intOf iv).toNat)
              case atStart => exact ⟨0, rfl, by omega, HS4⟩
              case round =>
                obtain ⟨j, rfl, hj, HS⟩ := hrel
                clear HS4 HD
                by_cases hlt : j < 8
                · have hj1 : (j : Int) < 8 := by omega
                  have hjl : j < L1.length := by rw [HL8.out]; exact hlt
                  have er := readAt_lasts (S := S9) HLL.out.2 j (by rw [HLL.out.1, HL8.out]; exact hlt)
                  rw [HLL.out.1] at er
                  obtain ⟨s8, hs8⟩ : ∃ x, L1.getD j ByteArray.empty = x := ⟨_, rfl⟩
                  rw [hs8] at er
                  have ER := Aside0.mk er
                  obtain ⟨g, rfl, hcw⟩ : ∃ g, A3 = some ⟨g, 0, none⟩ ∧ wr.cell? ⟨g, j, none⟩ = some (.string s8) := by
                    obtain ⟨F', d', b', r', n'⟩ := HS.out
                    rcases r'.2 with ⟨e, e2⟩ | ⟨g, cap, cur, e, _⟩
                    · rw [HL8.out] at e2; cases e2
                    · simp only [Value.slice.injEq] at e
                      obtain ⟨rfl, _, rfl⟩ := e
                      refine ⟨g, rfl, ?_⟩
                      have hc := r'.cells (g := g) rfl j _ (strs_get L1 j hjl)
                      rw [Seg.addr_add, Nat.zero_add] at hc
                      rw [hc, ← hs8, List.getD_eq_getElem?_getD, List.getElem?_eq_getElem hjl]; rfl
                  clear er hs8 hjl
                  go_wp2_with fail
                  refine (HS.out.read (j : Int)).mono ?_
                  rw [ER.out]
                  rintro x w6 ⟨rfl, rfl⟩
                  go_wp2
                  go_roundw
                  case rel => exact ⟨j + 1, by go_num, by omega, HS⟩
                  case measure => simp [intOf]; omega
                · obtain rfl : j = 8 := by omega
                  go_wp2_with fail
                  refine (awake12_calls _).mono ?_
                  rintro x w6 ⟨rfl, hb⟩
                  have HE := Aside0.mk (HS.out.step hb)
                  clear hb HS
                  go_wp2_with fail
                  refine HE.out.waiting.mono ?_
                  rw [HLL.out.2]
                  rintro x w7 ⟨rfl, rfl⟩
                  go_wp2
                  go_ret
                  obtain ⟨F', d', b', r', n'⟩ := HE.out
                  exact ⟨rfl, b'⟩
end Go.Proofs.Ytombochecgjmjaa.Dk
