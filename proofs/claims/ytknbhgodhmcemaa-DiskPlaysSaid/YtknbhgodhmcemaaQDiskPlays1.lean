/- Texts of the seat, as far as the row needs them. -/
import Derived.Below
import Derived.BigQuiet
import Derived.Deep.CutBlock
import Derived.Deep.DeepCutAuto
import Derived.Deep.DeepFit
import Derived.Deep.Light
import Derived.Deep.LoopGhost
import Derived.Deep.QuietTactic
import Derived.Deep.RegionHeld3
import Derived.Ground.Names2Prog
import Derived.Laws.AppendOwn
import Derived.Laws.BitsAllLaws
import Derived.Laws.CopyOwn
import Derived.Laws.Externs
import Derived.Laws.IdiomCopy
import Derived.Laws.IdiomStrings
import Derived.Laws.OwnMore
import Derived.Laws.ResultCell
import Derived.Laws.Rows
import Derived.Laws.Tables
import Derived.Lib.AppendStr
import Derived.Lib.FrozenHead2
import Derived.Lib.OthersKept
import Derived.Lib.RepeatB
import Derived.Lib.UnsafeStr
import Derived.Maps.Own
import Derived.Maps.OwnOps
import Derived.Maps.OwnSet
import Derived.Maps.Views
import Derived.OrdersHeld
import Derived.Outline
import Derived.OwnWalk
import Derived.Shelf.Bits.Mul64
import Derived.Shelf.Slices.Clone
import Derived.Shelf.Strings.Builder1
import Derived.Shelf.Strings.Builder2
import Derived.Shelf.Strings.Builder2Cap
import Derived.Shelf.Strings.BuilderCap
import Derived.Shelf.Strings.BuilderF
import Derived.Shelf.Strings.BuilderK
import Derived.Shelf.Strings.Prefix
import Derived.Shelf.Strings.Repeat
import Derived.StillTailTactics
import Derived.Test.YtknbhgodhmcemaaProg
import Derived.WalkKit
import Derived.Test.YtknbhgodhmcemaaQDiskPlays0
set_option linter.unusedVariables false
set_option linter.unusedSimpArgs false
namespace Go.Proofs.Ytknbhgodhmcemaa.Dk
set_option linter.unusedSimpArgs false
set_option linter.unusedVariables false
set_option maxRecDepth 100000
open Go.RowKit Go.Proofs.Ytknbhgodhmcemaa.Own Go.Proofs.Ytknbhgodhmcemaa.Cel
variable {B p : Nat} {S : DS} {F : Nat → Prop} {W : World}
theorem sync1_calls (j : Int) (W : World) : Calls Try.prog 38 #[.int .i64 j] W fun e w' => e = .returned (.bool true) ∧ W = w' := by
  go_enter Try.func38, Try.ntmps38
  go_wp2
  go_ret
  exact ⟨rfl, rfl⟩
theorem fails_ok (h : S.ok) : S.fails.1.ok := by
  obtain ⟨e1, e2, _⟩ := fails_lasts S
  unfold DS.ok
  rw [e1, e2]; exact h
theorem Did.of {B p : Nat} {S' : DS} {F F1 : Nat → Prop} {W W1 W2 : World} (h1 : Only F W W1) (hF : ∀ k, F1 k → F k ∨ W.heap.size ≤ k) (h : Did B p S' F1 W1 W2) : Did B p S' F W W2 := by
  obtain ⟨F2, d, o, f⟩ := h
  exact ⟨F2, d, h1.trans o hF, fun k hk => (f k hk).elim (hF k) (fun e => .inr (Nat.le_trans h1.size e))⟩
theorem DK.opsUp {F : Nat → Prop} (h : DK B p S F W) (o : Int) : DK B p { S with ops := o } F (W.setCell ⟨p, 4, none⟩ (.int .i64 o)) ∧ Only F W (W.setCell ⟨p, 4, none⟩ (.int .i64 o)) := by
  obtain ⟨lb, lc, rb, rc, mb, wv, h1, h2⟩ := h
  exact ⟨⟨lb, lc, rb, rc, mb, wv, h1.setO o, h2⟩, only_set _ _ ((h2 p).2 (.inl rfl))⟩
theorem DK.cell4 {F : Nat → Prop} (h : DK B p S F W) : W.cell? ⟨p, 4, none⟩ = some (.int .i64 S.ops) ∧ W.frozen? ⟨p, 4, none⟩ = false := by
  obtain ⟨lb, lc, rb, rc, mb, wv, h1, h2⟩ := h
  exact ⟨h1.cell 4, h1.frozen 4⟩
set_option maxHeartbeats 1000000 in
theorem sync_calls (h : DK B p S F W) (hok : S.ok) (ha : S.armed ≤ 9223372036854775807) (hn : S.waits.length ≤ 1000000) (ho0 : 0 ≤ S.ops) (ho : S.ops ≤ 4611686018427387904) :
    Calls Try.prog 18 #[.pointer (some ⟨p, 0, none⟩)] W fun e W' => e = .returned (.int .i64 S.sync.2) ∧ Did B p S.sync.1 F W W' := by
  have KF := Aside0.mk (fails_calls h ha)
  cases hf : S.fails.2 with
  | true =>
    have e : S.sync = (S.fails.1, 7) := by unfold DS.sync; rw [if_pos hf]
    rw [e]
    rw [hf] at KF
    clear e hf h hok ha
    go_enter Try.func18, Try.ntmps18
    go_wp2_with fail
    refine KF.out.mono ?_
    rintro e w1 ⟨rfl, h1, h2⟩
    have H1 := Aside0.mk (And.intro h1 h2)
    clear h1 h2
    go_wp2
    go_ret
    exact ⟨rfl, F, H1.out.1, H1.out.2, fun _ e => .inl e⟩
  | false =>
    have e : S.sync = ({ S.fails.1.crash (fun _ => true) with ops := S.ops + 1 }, 0) := by unfold DS.sync; rw [if_neg (by rw [hf]; decide)]
    rw [e]
    rw [hf] at KF
    obtain ⟨fl, fw, fo⟩ := fails_lasts S
    have hok1 := fails_ok hok
    obtain ⟨S1, hS1⟩ : ∃ x, S.fails.1 = x := ⟨_, rfl⟩
    rw [hS1] at KF fl fw fo hok1 ⊢
    rw [← fw] at hn
    rw [← fo] at ho0 ho ⊢
    have HOK := Aside0.mk hok1
    have HN := Aside0.mk hn
    clear e hf h hok ha fl fw fo hS1 hok1 hn
    go_enter Try.func18, Try.ntmps18
    go_wp2_with fail
    refine KF.out.mono ?_
    rintro e W1 ⟨rfl, h1, h2⟩
    have H1 := Aside0.mk (And.intro h1 h2)
    clear h1 h2 KF
    go_wp2_with fail
    refine (settle_sync H1.out.1 HOK.out HN.out (fun _ => true) (fun V _ j _ => sync1_calls j V)).mono ?_
    rintro e W2 ⟨rfl, F2, d, o, f⟩
    have hops : (S1.crash (fun _ => true)).ops = S1.ops := rfl
    obtain ⟨c4, f4⟩ := d.cell4
    rw [hops] at c4
    have HD := Aside0.mk (show Did B p { S1.crash (fun _ => true) with ops := S1.ops + 1 } F W (W2.setCell ⟨p, 4, none⟩ (.int .i64 (S1.ops + 1))) from by
      obtain ⟨u1, u2⟩ := d.opsUp (S1.ops + 1)
      refine Did.of H1.out.2 (fun k e => .inl e) (Did.of o f ⟨F2, u1, u2, fun _ e => .inl e⟩))
    clear d o f hops H1
    obtain ⟨op, hop⟩ : ∃ x, S1.ops = x := ⟨_, rfl⟩
    rw [hop] at c4 ho ho0 HD
    have HOP := Aside0.mk hop
    clear hop
    go_wp2
    go_ret
    exact ⟨rfl, by rw [HOP.out]; exact HD.out⟩
def KeepAt (F : Nat → Prop) (A : Option Addr) (ks : List Bool) (V : World) : Prop := ∀ i (h : i < ks.length), ∃ a b o, A = some ⟨b, o, none⟩ ∧ a = o + i ∧ ¬ F b ∧ V.cell? ⟨b, a, none⟩ = some (.bool (ks[i]'h))
theorem KeepAt.only {F : Nat → Prop} {A : Option Addr} {ks : List Bool} {V V' : World} (h : KeepAt F A ks V) (o : Only F V V') : KeepAt F A ks V' := fun i hi => by
  obtain ⟨a, b, o', e, e2, hn, hc⟩ := h i hi
  refine ⟨a, b, o', e, e2, hn, ?_⟩
  have hlt : b < V.heap.size := World.block_lt_of_cell? V _ hc
  exact (World.cell?_of_block (o.block b hlt hn)).trans hc
theorem crash1_calls (kb : Nat) (A : Option Addr) (c : Nat) (ks : List Bool) (j : Nat) (V : World) (h1 : V.cell? ⟨kb, 0, none⟩ = some (.slice A ks.length c)) (h2 : KeepAt F A ks V) (hl : ks.length ≤ 1000000) :
    Calls Try.prog 30 #[.int .i64 (j : Nat), .pointer (some ⟨kb, 0, none⟩)] V fun e w' => e = .returned (.bool (ks.getD j false)) ∧ V = w' := by
  by_cases hj : j < ks.length
  · obtain ⟨a, b, o, rfl, rfl, _, hc⟩ := h2 j hj
    obtain ⟨n, hn⟩ : ∃ n, ks.length = n := ⟨_, rfl⟩
    have e : ks.getD j false = ks[j]'hj := by rw [List.getD_eq_getElem?_getD, List.getElem?_eq_getElem hj]; rfl
    rw [e]
    obtain ⟨x, hx⟩ : ∃ x, ks[j]'hj = x := ⟨_, rfl⟩
    rw [hx] at hc ⊢
    rw [hn] at h1 hj
    have hj2 : (j : Int) < (n : Int) := by omega
    clear hn e hx h2
    go_enter Try.func30, Try.ntmps30
    go_wp2
    go_ret
    exact ⟨rfl, rfl⟩
  · have e : ks.getD j false = false := by rw [List.getD_eq_getElem?_getD, List.getElem?_eq_none (by omega)]; rfl
    rw [e]
    obtain ⟨n, hn⟩ : ∃ n, ks.length = n := ⟨_, rfl⟩
    rw [hn] at h1 hj
    have hj2 : decide ((j : Int) < (n : Int)) = false := decide_eq_false (by omega)
    clear hn e h2
    go_enter Try.func30, Try.ntmps30
    go_wp2
    go_ret
    exact ⟨rfl, rfl⟩
set_option maxHeartbeats 1000000 in
theorem crash_calls (h : DK B p S F W) (hok : S.ok) (hn : S.waits.length ≤ 1000000) (A : Option Addr) (c : Nat) (ks : List Bool) (hk : KeepAt F A ks W) (hl : ks.length ≤ 1000000) :
    Calls Try.prog 12 #[.pointer (some ⟨p, 0, none⟩), .slice A ks.length c] W fun e W' => e = .returned (.tuple #[]) ∧ Did B p (S.crash (fun j => ks.getD j false)) F W W' := by
  have hba : Below W.heap.size W (W.alloc (.cells #[.slice A ks.length c] 33)) := (Below.refl _ _).alloc (Nat.le_refl _) _
  have hO : Only F W (W.alloc (.cells #[.slice A ks.length c] 33)) := only_below hba
  have hD := h.below hba
  have hK := hk.only hO
  have hcc : (W.alloc (.cells #[.slice A ks.length c] 33)).heap[W.heap.size]? = some (.cells #[.slice A ks.length c] 33 (0, 0)) := heap_alloc_new W _
  have hnF : ¬ F W.heap.size := fun e => by have := (h.lt e).2; omega
  have KS := Aside0.mk (settle_crash (kb := W.heap.size) hD hok hn (fun j => ks.getD j false) (fun V oV j _ => by
    have o1 := oV.small
    have hlt : W.heap.size < (W.alloc (.cells #[.slice A ks.length c] 33)).heap.size := by simp
    have c1 : V.cell? ⟨W.heap.size, 0, none⟩ = some (.slice A ks.length c) := cell_of_row V W.heap.size 0 _ _ _ ((o1.block W.heap.size hlt hnF).trans hcc)
    exact crash1_calls W.heap.size A c ks j V c1 (hK.only o1) hl))
  have HO := Aside0.mk hO
  clear h hok hn hk hl hba hO hD hK hcc hnF
  go_enter Try.func12, Try.ntmps12
  go_wp2_with fail
  refine KS.out.mono ?_
  rintro e W2 ⟨rfl, hd⟩
  have HD := Aside0.mk (Did.of HO.out (fun k e => .inl e) hd)
  clear hd KS HO
  go_wp2
  go_end0
  exact ⟨rfl, HD.out⟩
end Go.Proofs.Ytknbhgodhmcemaa.Dk
namespace Go.Proofs.Ytknbhgodhmcemaa.Dk
set_option linter.unusedSimpArgs false
set_option linter.unusedVariables false
set_option maxRecDepth 100000
open Go.RowKit Go.Proofs.Ytknbhgodhmcemaa.Own Go.Proofs.Ytknbhgodhmcemaa.Cel
def DW (w : World) (p : Nat) (S : DS) (V : World) : Prop := ∃ F, DK w.heap.size p S F V ∧ Below w.heap.size w V
theorem DW.step {w V V' : World} {p : Nat} {S : DS} (h : DW w p S V) (hb : Below V.heap.size V V') : DW w p S V' := by
  obtain ⟨F, d, b⟩ := h
  exact ⟨F, d.below hb, b.trans (hb.mono b.size)⟩
theorem DW.did {w V V' : World} {p : Nat} {S S' : DS} {F : Nat → Prop} (d : DK w.heap.size p S F V) (b : Below w.heap.size w V) (h : Did w.heap.size p S' F V V') : DW w p S' V' := by
  obtain ⟨F', d', o, f⟩ := h
  exact ⟨F', d', b.trans (o.below (fun k hk => (d.lt hk).1) b.size)⟩
theorem DW.new {w V : World} {p : Nat} {S : DS} {F : Nat → Prop} (d : DK w.heap.size p S F V) (b : Below w.heap.size w V) : DW w p S V := ⟨F, d, b⟩
theorem DW.write {w V : World} {p : Nat} {S : DS} (h : DW w p S V) (ha : S.armed ≤ 9223372036854775807) (hn : S.waits.length ≤ 1000000) (ho0 : 0 ≤ S.ops) (ho : S.ops ≤ 4611686018427387904) (i : Int) (s : ByteArray) (hi0 : -9223372036854775808 ≤ i) (hi1 : i ≤ 9223372036854775807) :
    Calls Try.prog 10 #[.pointer (some ⟨p, 0, none⟩), .int .i64 i, .string s] V fun e W' => e = .returned (.int .i64 (S.put i s).2) ∧ DW w p (S.put i s).1 W' := by
  obtain ⟨F, d, b⟩ := h
  exact (write_calls d ha hn ho0 ho i s hi0 hi1).mono fun _ _ ⟨e, h⟩ => ⟨e, DW.did d b h⟩
theorem DW.read {w V : World} {p : Nat} {S : DS} (h : DW w p S V) (i : Int) :
    Calls Try.prog 9 #[.pointer (some ⟨p, 0, none⟩), .int .i64 i] V fun e W' => e = .returned (.tuple #[.string (S.readAt i).1, .int .i64 (S.readAt i).2]) ∧ V = W' := by
  obtain ⟨F, d, b⟩ := h
  exact read_calls d i
theorem DW.size {w V : World} {p : Nat} {S : DS} (h : DW w p S V) :
    Calls Try.prog 14 #[.pointer (some ⟨p, 0, none⟩)] V fun e W' => e = .returned (.int .i64 (S.lasts.length : Nat)) ∧ V = W' := by
  obtain ⟨F, d, b⟩ := h
  exact size_calls d
theorem DW.crash0 {w V : World} {p : Nat} {S : DS} (h : DW w p S V) (hok : S.ok) (hn : S.waits.length ≤ 1000000) :
    Calls Try.prog 12 #[.pointer (some ⟨p, 0, none⟩), .slice none 0 0] V fun e W' => e = .returned (.tuple #[]) ∧ DW w p { S with waits := [] } W' := by
  obtain ⟨F, d, b⟩ := h
  refine (crash_calls d hok hn none 0 [] (fun i h => absurd h (by simp)) (by simp)).mono fun _ _ ⟨e, h⟩ => ⟨e, ?_⟩
  have e2 : S.crash (fun j => [].getD j false) = { S with waits := [] } := by
    unfold DS.crash
    rw [keptW_none _ _ _ (fun j _ _ => by simp)]; rfl
  rw [e2] at h
  exact DW.did d b h
set_option maxHeartbeats 1000000 in
theorem awake12_calls (w : World) : Calls Try.prog 4 #[] w fun e w' => e = .returned (.bool true) ∧ Below w.heap.size w w' := by
  have p1 : DS.put ⟨List.replicate 2 (sect 0), [], 0, 0⟩ 0 (sect 7) = (⟨List.replicate 2 (sect 0), [(0, sect 7)], 0, 1⟩, 0) := put_ok ⟨by decide, by decide⟩ (sect_size 7) rfl
  have r1 : DS.readAt ⟨List.replicate 2 (sect 0), [(0, sect 7)], 0, 1⟩ 0 = (sect 7, 0) := rfl
  have r2 : DS.readAt ⟨List.replicate 2 (sect 0), [], 0, 1⟩ 0 = (sect 0, 0) := rfl
  have ok1 : DS.ok ⟨List.replicate 2 (sect 0), [(0, sect 7)], 0, 1⟩ := fun x hx => by
    simp only [List.mem_singleton] at hx
    subst hx
    show 0 < (List.replicate 2 (sect 0)).length
    simp
  have KN := Aside0.mk (new_good 2 w (by omega) (by omega))
  have KF := Aside0.mk (fun V => fill_calls 7 V)
  rw [show (((7 : UInt8).toNat : Nat) : Int) = 7 by decide] at KF
  rw [show ((2 : Nat) : Int) = 2 by rfl] at KN
  have P1 := Aside0.mk p1
  have R1 := Aside0.mk r1
  have R2 := Aside0.mk r2
  have OK1 := Aside0.mk ok1
  clear p1 r1 r2 ok1
  go_enter Try.func4, Try.ntmps4
  go_wp2_with fail
  refine KN.out.mono ?_
  rintro x w1 ⟨p, F, rfl, d, b⟩
  have HD := Aside0.mk (DW.new d b)
  clear d b KN
  go_wp2_with fail
  refine (KF.out _).mono ?_
  rintro x w2 ⟨rfl, hb⟩
  replace HD := Aside0.mk (HD.out.step hb)
  clear hb
  go_wp2_with fail
  refine (HD.out.write (by decide) (by decide) (by decide) (by decide) 0 (sect 7) (by decide) (by decide)).mono ?_
  rw [P1.out]
  rintro x w3 ⟨rfl, hd⟩
  replace HD := Aside0.mk hd
  clear hd
  go_wp2_with fail
  refine (HD.out.read 0).mono ?_
  rw [R1.out]
  rintro x w4 ⟨rfl, rfl⟩
  go_wp2_with fail
  refine (HD.out.crash0 OK1.out (by decide)).mono ?_
  rintro x w5 ⟨rfl, hd⟩
  replace HD := Aside0.mk hd
  clear hd
  go_wp2_with fail
  refine (HD.out.read 0).mono ?_
  rw [R2.out]
  rintro x w6 ⟨rfl, rfl⟩
  generalize sect 7 = s7 at *
  go_wp2_with fail
  refine (KF.out _).mono ?_
  rintro x w7 ⟨rfl, hb⟩
  replace HD := Aside0.mk (HD.out.step hb)
  clear hb
  go_wp2_with fail
  refine (rblank_calls _).mono ?_
  rintro x w8 ⟨rfl, hb⟩
  replace HD := Aside0.mk (HD.out.step hb)
  clear hb
  generalize sect 0 = s0 at *
  go_wp2_with fail
  refine HD.out.size.mono ?_
  rintro x w9 ⟨rfl, rfl⟩
  go_wp2
  go_ret
  obtain ⟨F', d', b'⟩ := HD.out
  exact ⟨rfl, b'⟩
end Go.Proofs.Ytknbhgodhmcemaa.Dk
namespace Go.Proofs.Ytknbhgodhmcemaa.Dk
set_option linter.unusedSimpArgs false
set_option linter.unusedVariables false
set_option maxRecDepth 100000
open Go.RowKit Go.Proofs.Ytknbhgodhmcemaa.Own Go.Proofs.Ytknbhgodhmcemaa.Cel
def SR (W : World) (b : Nat) (l : List UInt8) : Prop :=
  ∃ (cur : Array Value) (lo hi : Nat), W.heap[b]? = some (.cells cur 5 (lo, hi)) ∧ l.length ≤ lo ∧ cur.toList.take l.length = Lib.byteCells l
theorem SR.cell {W : World} {b : Nat} {l : List UInt8} (h : SR W b l) (j : Nat) (hj : j < l.length) : W.cell? ⟨b, j, none⟩ = some (.int .u8 ((l.getD j 0).toNat : Nat)) := by
  obtain ⟨cur, lo, hi, h1, h2, h3⟩ := h
  have e : W.cell? ⟨b, j, none⟩ = cur[j]? := by simp [World.cell?, h1]
  rw [e]
  have := congrArg (·[j]?) h3
  simp only [List.getElem?_take, hj, if_true] at this
  rw [Array.getElem?_toList] at this
  rw [this, Lib.byteCells, List.getElem?_map, List.getElem?_eq_getElem hj, Option.map_some, List.getD_eq_getElem?_getD, List.getElem?_eq_getElem hj]; rfl
theorem SR.frozen {W : World} {b : Nat} {l : List UInt8} (h : SR W b l) (j : Nat) (hj : j < l.length) : W.frozen? ⟨b, j, none⟩ = false := by
  obtain ⟨cur, lo, hi, h1, h2, h3⟩ := h
  simp [World.frozen?, h1]
  omega
theorem SR.put {W : World} {b : Nat} {l : List UInt8} (h : SR W b l) (j : Nat) (v : UInt8) : SR (W.setCell ⟨b, j, none⟩ (.int .u8 (v.toNat : Nat))) b (l.set j v) := by
  obtain ⟨cur, lo, hi, h1, h2, h3⟩ := h
  refine ⟨cur.setIfInBounds j (.int .u8 (v.toNat : Nat)), lo, hi, ?_, by rw [List.length_set]; exact h2, ?_⟩
  · simp [World.setCell, Array.getElem?_modify, h1]
  · rw [List.length_set, Array.toList_setIfInBounds, List.take_set, h3]
    simp [Lib.byteCells, List.map_set]
theorem SR.string {W : World} {b c : Nat} {l : List UInt8} (h : SR W b l) : (convert 66 9 (.slice (some ⟨b, 0, none⟩) l.length c)).run Try.prog W = .ok (.string ⟨l.toArray⟩) W :=
  run_convert_bytes_back (P := Try.prog) W 66 9 5 ⟨b, 0, none⟩ c l rfl rfl rfl (fun j hj => by
    have := h.cell j hj
    rw [List.getD_eq_getElem?_getD, List.getElem?_eq_getElem hj] at this
    cases j with
    | zero => exact this
    | succ j => simpa [Addr.add] using this)
theorem str_row (s : ByteArray) (w : World) : ∃ W c, (convert 9 66 (.string s)).run Try.prog w = .ok (.slice (some ⟨w.heap.size, 0, none⟩) s.size c) W ∧ Below w.heap.size w W ∧ SR W w.heap.size s.data.toList := by
  refine ⟨_, _, run_bytes_of_string (P := Try.prog) w 9 66 5 s rfl rfl rfl, ((Below.refl _ _).drew).alloc (Nat.le_refl _) _, _, _, _, heap_alloc_new w.drew _, ?_, ?_⟩
  · simp [bytesRow]
  · simp [bytesRow, Lib.byteCells]
def turnS (s : ByteArray) (j x : Nat) : ByteArray := ⟨(s.data.toList.set j (UInt8.ofNat ((s.data.toList.getD j 0).toNat ^^^ x))).toArray⟩
theorem turnS_size (s : ByteArray) (j x : Nat) : (turnS s j x).size = s.size := by
  show (s.data.toList.set j _).toArray.size = s.size
  rw [List.size_toArray, List.length_set, Array.length_toList]; rfl
theorem turned_calls (s : ByteArray) (j x : Nat) (w : World) (hj : j < s.size) (hx : x < 256) :
    Calls Try.prog 39 #[.string s, .int .i64 (j : Nat), .int .u8 (x : Nat)] w fun e w' => e = .returned (.string (turnS s j x)) ∧ Below w.heap.size w w' := by
  obtain ⟨W2, cp, hcv, hb2, hsr⟩ := str_row s w
  have hll : s.data.toList.length = s.size := by rw [Array.length_toList]; rfl
  obtain ⟨q1, hq1⟩ : ∃ q, w.heap.size = q := ⟨_, rfl⟩
  rw [hq1] at hcv hsr hb2 ⊢
  have hcl := hsr.cell j (by rw [hll]; exact hj)
  have hfz := hsr.frozen j (by rw [hll]; exact hj)
  obtain ⟨y, hy⟩ : ∃ y, (s.data.toList.getD j 0).toNat = y := ⟨_, rfl⟩
  have hy8 : y < 256 := by rw [← hy]; exact (s.data.toList.getD j 0).toNat_lt
  have hxor := u8_xor_nat y x hy8 hx
  have hxl : y ^^^ x < 256 := Nat.xor_lt_two_pow (n := 8) hy8 hx
  have hv : (UInt8.ofNat (y ^^^ x)).toNat = y ^^^ x := by rw [UInt8.toNat_ofNat']; exact Nat.mod_eq_of_lt hxl
  have hput := hsr.put j (UInt8.ofNat (y ^^^ x))
  rw [hv] at hput
  have hz : (⟨(s.data.toList.set j (UInt8.ofNat (y ^^^ x))).toArray⟩ : ByteArray) = turnS s j x := by rw [turnS, hy]
  have hstr := hput.string (c := cp)
  rw [hz, List.length_set, hll] at hstr
  have HB := Aside0.mk (hb2.setCell (p := ⟨q1, j, none⟩) (Nat.le_refl _) (.int .u8 ((y ^^^ x : Nat) : Int)))
  rw [hy] at hcl
  obtain ⟨n, hn⟩ : ∃ n, s.size = n := ⟨_, rfl⟩
  rw [hn] at hcv hstr hj
  have hj2 : (j : Int) < (n : Int) := by omega
  obtain ⟨z, hzz⟩ : ∃ z, y ^^^ x = z := ⟨_, rfl⟩
  rw [hzz] at hxor hstr HB
  obtain ⟨T, hT⟩ : ∃ T, turnS s j x = T := ⟨_, rfl⟩
  rw [hT] at hstr ⊢
  clear hsr hb2 hq1 hy hxl hv hput hz hn hzz hT hll
  go_enter Try.func39, Try.ntmps39
  go_wp2_with fail
  try rw [hstr]
  try go_wp2_with fail
  go_ret
  exact ⟨rfl, HB.out⟩
end Go.Proofs.Ytknbhgodhmcemaa.Dk
namespace Go.Proofs.Ytknbhgodhmcemaa.Dk
set_option linter.unusedSimpArgs false
set_option linter.unusedVariables false
set_option maxRecDepth 100000
open Go.RowKit Go.Proofs.Ytknbhgodhmcemaa.Own Go.Proofs.Ytknbhgodhmcemaa.Cel
variable {B p : Nat} {S : DS} {F : Nat → Prop} {W : World}
def DS.rot (S : DS) (i j : Int) (x : Nat) : DS :=
  if (0 ≤ i ∧ i < (S.lasts.length : Int)) ∧ 0 ≤ j ∧ j < 128 then { S with lasts := S.lasts.set i.toNat (turnS (S.lasts.getD i.toNat ByteArray.empty) j.toNat x) } else S
def SC (p lb rb M : Nat) (bc : Array Value) (V : World) : Prop :=
  V.heap[p]? = some (.cells bc 50 (0, 0)) ∧ (∃ cur, V.heap[lb]? = some (.cells cur 9 (0, 0)) ∧ M ≤ cur.size) ∧ ∃ cur, V.heap[rb]? = some (.cells cur 9 (0, 0)) ∧ M ≤ cur.size
set_option maxHeartbeats 2000000 in
theorem rot_calls (h : DK B p S F W) (i j : Int) (x : Nat) (hx : x < 256) (hsz : ∀ s ∈ S.lasts, s.size = 128) (hi1 : i ≤ 9223372036854775807) :
    Calls Try.prog 22 #[.pointer (some ⟨p, 0, none⟩), .int .i64 i, .int .i64 j, .int .u8 (x : Nat)] W fun e W' => e = .returned (.tuple #[]) ∧ Did B p (S.rot i j x) F W W' := by
  have KH := Aside0.mk (has_calls h i)
  have H0 := Aside0.mk h
  by_cases a : 0 ≤ i ∧ i < (S.lasts.length : Int)
  rotate_left
  · rw [show decide (0 ≤ i ∧ i < (S.lasts.length : Int)) = false from decide_eq_false a] at KH
    rw [show S.rot i j x = S by unfold DS.rot; rw [if_neg (fun e => a e.1)]]
    clear a h hi1 hsz
    go_enter Try.func22, Try.ntmps22
    go_wp2_with fail
    refine KH.out.mono ?_
    rintro e w1 ⟨rfl, rfl⟩
    go_wp2
    first | go_end0 | refine bodyPost_ret (results_none rfl _ _ _) rfl ?_
    exact ⟨rfl, F, H0.out, Only.refl _ _, fun _ e => .inl e⟩
  rw [show decide (0 ≤ i ∧ i < (S.lasts.length : Int)) = true from decide_eq_true a] at KH
  by_cases b : 0 ≤ j ∧ j < 128
  rotate_left
  · rw [show S.rot i j x = S by unfold DS.rot; rw [if_neg (fun e => b e.2)]]
    by_cases b1 : j < 0
    · clear a h hi1 hsz b
      go_enter Try.func22, Try.ntmps22
      go_wp2_with fail
      refine KH.out.mono ?_
      rintro e w1 ⟨rfl, rfl⟩
      go_wp2
      first | go_end0 | refine bodyPost_ret (results_none rfl _ _ _) rfl ?_
      exact ⟨rfl, F, H0.out, Only.refl _ _, fun _ e => .inl e⟩
    · have b2 : 128 ≤ j := by omega
      have t1 : decide (j < 0) = false := decide_eq_false b1
      clear a h hi1 hsz b b1
      go_enter Try.func22, Try.ntmps22
      go_wp2_with fail
      refine KH.out.mono ?_
      rintro e w1 ⟨rfl, rfl⟩
      go_wp2
      first | go_end0 | refine bodyPost_ret (results_none rfl _ _ _) rfl ?_
      exact ⟨rfl, F, H0.out, Only.refl _ _, fun _ e => .inl e⟩
  obtain ⟨i, rfl⟩ := Int.eq_ofNat_of_zero_le a.1
  obtain ⟨j, rfl⟩ := Int.eq_ofNat_of_zero_le b.1
  have hil : i < S.lasts.length := by have := a.2; omega
  have hj : j < 128 := by have := b.2; omega
  obtain ⟨y, hy⟩ : ∃ y, S.lasts[i]'hil = y := ⟨_, rfl⟩
  have hy8 : y.size = 128 := by rw [← hy]; exact hsz _ (List.getElem_mem hil)
  have hyd : S.lasts.getD i ByteArray.empty = y := by rw [List.getD_eq_getElem?_getD, List.getElem?_eq_getElem hil, hy]; rfl
  have hrot : S.rot (i : Int) (j : Int) x = { S with lasts := S.lasts.set i (turnS y j x) } := by
    unfold DS.rot
    rw [if_pos ⟨a, b⟩, Int.toNat_natCast, Int.toNat_natCast, hyd]
  rw [hrot]
  have KT := Aside0.mk (fun V => turned_calls y j x V (by rw [hy8]; exact hj) hx)
  obtain ⟨T, hT⟩ : ∃ T, turnS y j x = T := ⟨_, rfl⟩
  rw [hT] at KT ⊢
  obtain ⟨lb, lc, rb, rc, mb, wv, hd, hFP⟩ := h
  have cy : W.cell? ⟨lb, i, none⟩ = some (.string y) := by
    rw [hd.hl.cellAt i (by omega), strs_get _ _ hil, hy]
  obtain ⟨M, hM⟩ : ∃ m, S.lasts.length = m := ⟨_, rfl⟩
  have c0 := hd.box
  rw [hM] at c0 hil
  have hil2 : (i : Int) < (M : Int) := by omega
  have hj2 : (j : Int) < 128 := by omega
  have HD := Aside0.mk hd
  have HFP := Aside0.mk hFP
  have HM := Aside0.mk hM
  have hrows : (∃ cur, W.heap[lb]? = some (.cells cur 9 (0, 0)) ∧ M ≤ cur.size) ∧ ∃ cur, W.heap[rb]? = some (.cells cur 9 (0, 0)) ∧ M ≤ cur.size := by
    constructor
    · rcases hd.hl.2 with ⟨e, _⟩ | ⟨g', cap, cur, e, _, hg, hc1, _, hc3, _⟩
      · cases e
      · simp only [Value.slice.injEq, Option.some.injEq, Addr.mk.injEq] at e
        obtain ⟨⟨rfl, _⟩, _⟩ := e
        exact ⟨cur, hg, by omega⟩
    · rcases hd.hr.2 with ⟨e, _⟩ | ⟨g', cap, cur, e, _, hg, hc1, _, hc3, _⟩
      · cases e
      · simp only [Value.slice.injEq, Option.some.injEq, Addr.mk.injEq] at e
        obtain ⟨⟨rfl, _⟩, _⟩ := e
        exact ⟨cur, hg, by omega⟩
  have HS := Aside0.mk (show SC p lb rb M #[.slice (some ⟨lb, 0, none⟩) M lc, wv, .map (some mb), .int .i64 S.armed, .int .i64 S.ops, .slice (some ⟨rb, 0, none⟩) M rc] W from ⟨c0, hrows⟩)
  have HI1 := Aside0.mk hi1
  clear a b hsz hi1 hy hy8 hyd hrot hT hd hFP hM hrows c0
  go_enter Try.func22, Try.ntmps22
  go_wp2_with fail
  refine KH.out.mono ?_
  rintro e w1 ⟨rfl, rfl⟩
  go_wp2_with fail
  refine wp_region_held_drew (S := fun V => SC p lb rb M #[.slice (some ⟨lb, 0, none⟩) M lc, wv, .map (some mb), .int .i64 S.armed, .int .i64 S.ops, .slice (some ⟨rb, 0, none⟩) M rc] V) (by kernel_rfl) HS.out (fun hH => ?_)
  refine take_at (i := 0) (some 20) (.pointer (some ⟨p, 0, none⟩)) rfl rfl (by kernel_rfl) (by kernel_rfl) (by kernel_rfl) (fun _ _ _ h => h) (Or.inl ⟨by rfl, fun w hSw => by go_simp⟩) hH ?_
  refine take_at (i := 1) (some 21) (.pointer (some ⟨p, 0, none⟩)) rfl rfl (by kernel_rfl) (by kernel_rfl) (by kernel_rfl) (fun _ _ _ h => h) (Or.inl ⟨by rfl, fun w hSw => by go_simp⟩) hH ?_
  try simp only [Act.put, List.setIfInBounds_toArray, List.set_cons_zero, List.set_cons_succ]
  refine take_at (i := 2) (some 22) (.pointer (some ⟨p, 0, none⟩)) rfl rfl (by kernel_rfl) (by kernel_rfl) (by kernel_rfl) (fun _ _ _ h => h) (Or.inl ⟨by rfl, fun w hSw => by go_simp⟩) hH ?_
  refine take_at (i := 3) (some 23) (.slice (some ⟨lb, 0, none⟩) M lc) rfl rfl (by kernel_rfl) (by kernel_rfl) (by kernel_rfl) (fun _ _ _ h => h) (Or.inl ⟨by rfl, fun w hSw => by have e := cell_of_row w p 0 _ _ _ hSw.1; clear hSw; go_simp⟩) hH ?_
  try simp only [Act.put, List.setIfInBounds_toArray, List.set_cons_zero, List.set_cons_succ]
  refine take_at (i := 4) (some 24) (.int .i64 (i : Nat)) rfl rfl (by kernel_rfl) (by kernel_rfl) (by kernel_rfl) (fun _ _ _ h => h) (Or.inl ⟨by rfl, fun w hSw => by go_simp⟩) hH ?_
  refine take_at (i := 5) (some 25) (.pointer (some ⟨p, 0, none⟩)) rfl rfl (by kernel_rfl) (by kernel_rfl) (by kernel_rfl) (fun _ _ _ h => h) (Or.inl ⟨by rfl, fun w hSw => by go_simp⟩) hH ?_
  try simp only [Act.put, List.setIfInBounds_toArray, List.set_cons_zero, List.set_cons_succ]
  refine take_at (i := 6) (some 26) (.pointer (some ⟨p, 0, none⟩)) rfl rfl (by kernel_rfl) (by kernel_rfl) (by kernel_rfl) (fun _ _ _ h => h) (Or.inl ⟨by rfl, fun w hSw => by go_simp⟩) hH ?_
  refine take_at (i := 7) (some 27) (.pointer (some ⟨p, 0, none⟩)) rfl rfl (by kernel_rfl) (by kernel_rfl) (by kernel_rfl) (fun _ _ _ h => h) (Or.inl ⟨by rfl, fun w hSw => by go_simp⟩) hH ?_
  try simp only [Act.put, List.setIfInBounds_toArray, List.set_cons_zero, List.set_cons_succ]
  refine take_at (i := 8) (some 28) (.slice (some ⟨lb, 0, none⟩) M lc) rfl rfl (by kernel_rfl) (by kernel_rfl) (by kernel_rfl) (fun _ _ _ h => h) (Or.inl ⟨by rfl, fun w hSw => by have e := cell_of_row w p 0 _ _ _ hSw.1; clear hSw; go_simp⟩) hH ?_
  refine take_at (i := 9) (some 29) (.int .i64 (i : Nat)) rfl rfl (by kernel_rfl) (by kernel_rfl) (by kernel_rfl) (fun _ _ _ h => h) (Or.inl ⟨by rfl, fun w hSw => by go_simp⟩) hH ?_
  try simp only [Act.put, List.setIfInBounds_toArray, List.set_cons_zero, List.set_cons_succ]
  refine take_at (i := 10) (some 30) (.pointer (some ⟨lb, i, none⟩)) rfl rfl (by kernel_rfl) (by kernel_rfl) (by kernel_rfl) (fun _ _ _ h => h) (Or.inl ⟨by rfl, fun w hSw => by go_simp⟩) hH ?_
  refine take_at (i := 12) (some 32) (.int .i64 (j : Nat)) rfl rfl (by kernel_rfl) (by kernel_rfl) (by kernel_rfl) (fun _ _ _ h => h) (Or.inl ⟨by rfl, fun w hSw => by go_simp⟩) hH ?_
  refine take_at (i := 13) (some 33) (.int .u8 (x : Nat)) rfl rfl (by kernel_rfl) (by kernel_rfl) (by kernel_rfl) (fun _ _ _ h => h) (Or.inl ⟨by rfl, fun w hSw => by go_simp⟩) hH ?_
  try simp only [Act.put, List.setIfInBounds_toArray, List.set_cons_zero, List.set_cons_succ]
  have cy0 : W.drew.cell? ⟨lb, i, none⟩ = some (.string y) := cy
  have HD0 := Aside0.mk (And.intro (HD.out.keep (W' := W.drew) (fun _ _ => rfl)) ((only_below ((Below.refl _ W).drew)) : Only (Big F W) W W.drew))
  clear HD HS cy
  generalize W.drew = V0 at hH cy0 HD0 ⊢
  refine wpAnyH_ready (rs := [11]) (by kernel_rfl) (by simp) (AllReadyH.cons rfl (fun K hK => ?_) AllReadyH.nil)
  go_simp
  refine hK.out _ _ hH (fun hH => ?_)
  clear hK K cy0
  try simp only [Act.put, List.setIfInBounds_toArray, List.set_cons_zero, List.set_cons_succ]
  refine wpAnyH_ready (rs := [14]) (by kernel_rfl) (by simp) (AllReadyH.cons rfl (fun K hK => ?_) AllReadyH.nil)
  go_simp
  refine (KT.out _).mono ?_
  rintro e V1 ⟨rfl, hb⟩
  have HD1 := Aside0.mk (And.intro (HD0.out.1.below hb) (HD0.out.2.big_trans (only_below hb).big))
  have hH1 : SC p lb rb M #[.slice (some ⟨lb, 0, none⟩) M lc, wv, .map (some mb), .int .i64 S.armed, .int .i64 S.ops, .slice (some ⟨rb, 0, none⟩) M rc] V1 := by
    obtain ⟨h1, ⟨c1, h2, h3⟩, c2, h4, h5⟩ := hH
    exact ⟨Own.keep h1 hb, ⟨c1, Own.keep h2 hb, h3⟩, c2, Own.keep h4 hb, h5⟩
  refine hK.out _ _ hH1 (fun hH => ?_)
  clear hK K hb HD0 hH1
  try simp only [Act.put, List.setIfInBounds_toArray, List.set_cons_zero, List.set_cons_succ]
  refine take_at (i := 15) (some 35) (.pointer (some ⟨lb, i, none⟩)) rfl rfl (by kernel_rfl) (by kernel_rfl) (by kernel_rfl) (fun _ _ _ h => h) (Or.inl ⟨by rfl, fun w hSw => by go_simp⟩) hH ?_
  try simp only [Act.put, List.setIfInBounds_toArray, List.set_cons_zero, List.set_cons_succ]
  obtain ⟨hp, ⟨cur, hl, hls⟩, cr, hr, hrs⟩ := hH
  obtain ⟨u, hu⟩ : ∃ u, V1.cell? ⟨lb, i, none⟩ = some u := ⟨_, (cell_of_row V1 lb i _ _ _ hl).trans (Array.getElem?_eq_getElem (by omega))⟩
  have hfz : V1.frozen? ⟨lb, i, none⟩ = false := frozen_of_row V1 lb i _ _ hl
  have hnx := heap_setCell_same V1 lb i cur _ (.string T) hl
  have so : ∀ k, k ≠ lb → (V1.setCell ⟨lb, i, none⟩ (.string T)).heap[k]? = V1.heap[k]? := fun k hk => set_other _ _ _ _ hk
  have hS2 : SC p lb rb M #[.slice (some ⟨lb, 0, none⟩) M lc, wv, .map (some mb), .int .i64 S.armed, .int .i64 S.ops, .slice (some ⟨rb, 0, none⟩) M rc] (V1.setCell ⟨lb, i, none⟩ (.string T)) := ⟨(so p HD1.out.1.p_lb).trans hp, ⟨_, hnx, by simpa using hls⟩, cr, (so rb HD1.out.1.ne.symm).trans hr, hrs⟩
  refine wpAnyH_ready (rs := [16]) (by kernel_rfl) (by simp) (AllReadyH.cons rfl (fun K hK => ?_) AllReadyH.nil)
  clear so hnx hp hl hls hr hrs
  go_simp
  refine hK.out _ _ hS2 (fun hH => ?_)
  clear hK K hu hfz
  refine wpAnyH_done (by kernel_rfl) ?_ _
  try simp only [Act.put, List.setIfInBounds_toArray, List.set_cons_zero, List.set_cons_succ]
  have hd2 := HD1.out.1.setL i T
  have O2 := Aside0.mk (HD1.out.2.big_trans (only_set (F := F) ⟨lb, i, none⟩ (.string T) ((HFP.out lb).2 (.inr (.inr (.inl rfl))))).big)
  have HS2 := Aside0.mk hS2
  clear hS2 hH HD1
  generalize V1.setCell ⟨lb, i, none⟩ (.string T) = V2 at hd2 O2 HS2 ⊢
  have d2 := hd2.cell 2
  obtain ⟨nm, D, hown, hnm, hDD⟩ := hd2.mp
  have HI : (Lit.int .i64 (i : Int)).wf = true := by simp [Lit.wf, IntKind.min, IntKind.max, IntKind.signed, IntKind.bits]; have := HI1.out; omega
  obtain ⟨cc, hlook, hat, _⟩ := hown.lookup_int keyI Try.underlying47 Try.underlying3 (by kernel_rfl) (key := .int .i64 (i : Int)) (kl := .int .i64 (i : Int)) (Go.Maps.keyOf_int_mk Try.underlying3 HI)
  rw [hDD i] at hat
  obtain rfl : ((cnt i S.waits : Nat) : Int) = cc := by injection hat with e; injection e
  have HD2 := Aside0.mk hd2
  clear hat hown hnm hDD hd2 HI
  by_cases hc : cnt i S.waits = 0
  · have hlt2 : HD2.out.hl.1 = HD2.out.hl.1 := rfl
    have cT : V2.cell? ⟨lb, i, none⟩ = some (.string T) := by
      have hl2 : i < (S.lasts.set i T).length := by rw [List.length_set]; have := HM.out; omega
      rw [HD2.out.hl.cellAt i (by omega), strs_get _ _ hl2, List.getElem_set_self]
    have hE := Aside0.mk (show ({ S with lasts := S.lasts.set i T } : DS).read = S.read.set i T by
      show applyW (S.lasts.set i T) S.waits = _
      rw [applyW_set, if_pos hc]; rfl)
    rw [hc] at hlook
    clear hc hlt2
    go_wp2_with fail
    clear hlook d2
    refine wp_region_held_drew (S := fun V => SC p lb rb M #[.slice (some ⟨lb, 0, none⟩) M lc, wv, .map (some mb), .int .i64 S.armed, .int .i64 S.ops, .slice (some ⟨rb, 0, none⟩) M rc] V) (by kernel_rfl) HS2.out (fun hH => ?_)
    refine take_at (i := 0) (some 43) (.pointer (some ⟨p, 0, none⟩)) rfl rfl (by kernel_rfl) (by kernel_rfl) (by kernel_rfl) (fun _ _ _ h => h) (Or.inl ⟨by rfl, fun w hSw => by go_simp⟩) hH ?_
    refine take_at (i := 1) (some 44) (.pointer (some ⟨p, 0, none⟩)) rfl rfl (by kernel_rfl) (by kernel_rfl) (by kernel_rfl) (fun _ _ _ h => h) (Or.inl ⟨by rfl, fun w hSw => by go_simp⟩) hH ?_
    try simp only [Act.put, List.setIfInBounds_toArray, List.set_cons_zero, List.set_cons_succ]
    refine take_at (i := 2) (some 45) (.pointer (some ⟨p, 5, none⟩)) rfl rfl (by kernel_rfl) (by kernel_rfl) (by kernel_rfl) (fun _ _ _ h => h) (Or.inl ⟨by rfl, fun w hSw => by go_simp⟩) hH ?_
    refine take_at (i := 3) (some 46) (.slice (some ⟨rb, 0, none⟩) M rc) rfl rfl (by kernel_rfl) (by kernel_rfl) (by kernel_rfl) (fun _ _ _ h => h) (Or.inl ⟨by rfl, fun w hSw => by have e := cell_of_row w p 5 _ _ _ hSw.1; clear hSw; go_simp⟩) hH ?_
    try simp only [Act.put, List.setIfInBounds_toArray, List.set_cons_zero, List.set_cons_succ]
    refine take_at (i := 4) (some 47) (.int .i64 (i : Nat)) rfl rfl (by kernel_rfl) (by kernel_rfl) (by kernel_rfl) (fun _ _ _ h => h) (Or.inl ⟨by rfl, fun w hSw => by go_simp⟩) hH ?_
    refine take_at (i := 5) (some 48) (.pointer (some ⟨p, 0, none⟩)) rfl rfl (by kernel_rfl) (by kernel_rfl) (by kernel_rfl) (fun _ _ _ h => h) (Or.inl ⟨by rfl, fun w hSw => by go_simp⟩) hH ?_
    try simp only [Act.put, List.setIfInBounds_toArray, List.set_cons_zero, List.set_cons_succ]
    refine take_at (i := 6) (some 49) (.pointer (some ⟨p, 0, none⟩)) rfl rfl (by kernel_rfl) (by kernel_rfl) (by kernel_rfl) (fun _ _ _ h => h) (Or.inl ⟨by rfl, fun w hSw => by go_simp⟩) hH ?_
    refine take_at (i := 7) (some 50) (.pointer (some ⟨p, 0, none⟩)) rfl rfl (by kernel_rfl) (by kernel_rfl) (by kernel_rfl) (fun _ _ _ h => h) (Or.inl ⟨by rfl, fun w hSw => by go_simp⟩) hH ?_
    try simp only [Act.put, List.setIfInBounds_toArray, List.set_cons_zero, List.set_cons_succ]
    refine take_at (i := 8) (some 51) (.slice (some ⟨lb, 0, none⟩) M lc) rfl rfl (by kernel_rfl) (by kernel_rfl) (by kernel_rfl) (fun _ _ _ h => h) (Or.inl ⟨by rfl, fun w hSw => by have e := cell_of_row w p 0 _ _ _ hSw.1; clear hSw; go_simp⟩) hH ?_
    refine take_at (i := 9) (some 52) (.int .i64 (i : Nat)) rfl rfl (by kernel_rfl) (by kernel_rfl) (by kernel_rfl) (fun _ _ _ h => h) (Or.inl ⟨by rfl, fun w hSw => by go_simp⟩) hH ?_
    try simp only [Act.put, List.setIfInBounds_toArray, List.set_cons_zero, List.set_cons_succ]
    refine take_at (i := 10) (some 53) (.pointer (some ⟨lb, i, none⟩)) rfl rfl (by kernel_rfl) (by kernel_rfl) (by kernel_rfl) (fun _ _ _ h => h) (Or.inl ⟨by rfl, fun w hSw => by go_simp⟩) hH ?_
    have cy0 : V2.drew.cell? ⟨lb, i, none⟩ = some (.string T) := cT
    have HD0 := Aside0.mk (And.intro (HD2.out.keep (W' := V2.drew) (fun _ _ => rfl)) (O2.out.big_trans (only_below ((Below.refl _ V2).drew)).big))
    clear HD2 HS2 O2 cT
    generalize V2.drew = V3 at hH cy0 HD0 ⊢
    refine wpAnyH_ready (rs := [11]) (by kernel_rfl) (by simp) (AllReadyH.cons rfl (fun K hK => ?_) AllReadyH.nil)
    go_simp
    refine hK.out _ _ hH (fun hH => ?_)
    clear hK K cy0
    try simp only [Act.put, List.setIfInBounds_toArray, List.set_cons_zero, List.set_cons_succ]
    refine take_at (i := 12) (some 55) (.pointer (some ⟨rb, i, none⟩)) rfl rfl (by kernel_rfl) (by kernel_rfl) (by kernel_rfl) (fun _ _ _ h => h) (Or.inl ⟨by rfl, fun w hSw => by go_simp⟩) hH ?_
    try simp only [Act.put, List.setIfInBounds_toArray, List.set_cons_zero, List.set_cons_succ]
    obtain ⟨hp, ⟨cur, hl, hls⟩, cr, hr, hrs⟩ := hH
    obtain ⟨u, hu⟩ : ∃ u, V3.cell? ⟨rb, i, none⟩ = some u := ⟨_, (cell_of_row V3 rb i _ _ _ hr).trans (Array.getElem?_eq_getElem (by omega))⟩
    have hfz : V3.frozen? ⟨rb, i, none⟩ = false := frozen_of_row V3 rb i _ _ hr
    have hnx := heap_setCell_same V3 rb i cr _ (.string T) hr
    have so : ∀ k, k ≠ rb → (V3.setCell ⟨rb, i, none⟩ (.string T)).heap[k]? = V3.heap[k]? := fun k hk => set_other _ _ _ _ hk
    have hS3 : SC p lb rb M #[.slice (some ⟨lb, 0, none⟩) M lc, wv, .map (some mb), .int .i64 S.armed, .int .i64 S.ops, .slice (some ⟨rb, 0, none⟩) M rc] (V3.setCell ⟨rb, i, none⟩ (.string T)) := ⟨(so p HD0.out.1.p_rb).trans hp, ⟨cur, (so lb HD0.out.1.ne).trans hl, hls⟩, _, hnx, by simpa using hrs⟩
    refine wpAnyH_ready (rs := [13]) (by kernel_rfl) (by simp) (AllReadyH.cons rfl (fun K hK => ?_) AllReadyH.nil)
    clear so hnx hp hl hls hr hrs
    go_simp
    refine hK.out _ _ hS3 (fun hH => ?_)
    clear hK K hu hfz hS3 hH
    refine wpAnyH_done (by kernel_rfl) ?_ _
    try simp only [Act.put, List.setIfInBounds_toArray, List.set_cons_zero, List.set_cons_succ]
    have HN := Aside0.mk (And.intro (HD0.out.1.setR i T) (HD0.out.2.big_trans (only_set (F := F) ⟨rb, i, none⟩ (.string T) ((HFP.out rb).2 (.inr (.inr (.inr (.inl rfl)))))).big))
    clear HD0
    go_wp2
    go_end0
    refine ⟨rfl, F, ⟨lb, lc, rb, rc, mb, wv, ?_, HFP.out⟩, HN.out.2.small, fun _ e => .inl e⟩
    rw [hE.out]
    exact HN.out.1
  · have t1 : (((cnt i S.waits : Nat) : Int) == 0) = false := by simp; omega
    have hE := Aside0.mk (show ({ S with lasts := S.lasts.set i T } : DS).read = S.read by
      show applyW (S.lasts.set i T) S.waits = _
      rw [applyW_set, if_neg hc]; rfl)
    clear hc
    go_wp2
    go_end0
    refine ⟨rfl, F, ⟨lb, lc, rb, rc, mb, wv, ?_, HFP.out⟩, O2.out.small, fun _ e => .inl e⟩
    rw [hE.out]
    exact HD2.out
end Go.Proofs.Ytknbhgodhmcemaa.Dk
namespace Go.Proofs.Ytknbhgodhmcemaa.Dk
set_option linter.unusedSimpArgs false
set_option linter.unusedVariables false
set_option maxRecDepth 100000
open Go.RowKit Go.Proofs.Ytknbhgodhmcemaa.Own Go.Proofs.Ytknbhgodhmcemaa.Cel
def mvV (lv wv : Value) (S : DS) : Array Value := #[lv, wv, .int .i64 S.armed, .int .i64 S.ops]
def RK (G : Nat → Prop) (lv wv : Value) (S : DS) (V : World) : Prop :=
  V.ownsRow 0 9 1 lv S.lasts.length (strs S.lasts) ∧ V.ownsRow 0 81 2 wv S.waits.length (wcells S.waits) ∧ (∀ k, (lv.ownBlock = some k ∨ wv.ownBlock = some k) → G k) ∧ (S.waits = [] → wv = .slice none 0 0)
theorem RK.below {G : Nat → Prop} {lv wv : Value} {S : DS} {V V' : World} (h : RK G lv wv S V) (hb : Below V.heap.size V V') : RK G lv wv S V' :=
  ⟨owns_keep h.1 hb, owns_keep h.2.1 hb, h.2.2⟩
theorem infoM : (Try.prog.info? 31).map (·.size) = some 4 := by kernel_rfl
theorem mvV_one (lv wv : Value) (S : DS) (hl : lv.oneCell' = true) (hw : wv.oneCell' = true) : (mvV lv wv S).all (·.oneCell') = true := by
  rw [Array.all_eq_true_iff_forall_mem]
  intro v hv
  simp only [mvV, List.mem_toArray, List.mem_cons, List.not_mem_nil, or_false] at hv
  rcases hv with rfl | rfl | rfl | rfl
  · exact hl
  · exact hw
  · rfl
  · rfl
theorem count_none (lv wv : Value) (S : DS) (w : World) (h : S.armed ≤ 0) (hl : lv.oneCell' = true) (hw : wv.oneCell' = true) :
    Calls Try.prog 37 #[.agg (mvV lv wv S)] w fun e w' => e = .returned (.tuple #[.agg (mvV lv wv S), .bool false]) ∧ Below w.heap.size w w' := by
  have c2 : ((w.alloc (.cells (mvV lv wv S) 31)).alloc (.cells #[.slice none 0 0, .slice none 0 0, .int .i64 0, .int .i64 0] 31)).cell? ⟨w.heap.size, 2, none⟩ = some (.int .i64 S.armed) :=
    cell_of_row _ _ 2 _ _ _ (Own.keep (heap_alloc_new w _) ((Below.refl _ _).alloc (Nat.le_refl _) _))
  have z1 : ((w.alloc (.cells (mvV lv wv S) 31)).alloc (.cells #[.slice none 0 0, .slice none 0 0, .int .i64 0, .int .i64 0] 31)).heap[w.heap.size]? = some (.cells (mvV lv wv S) 31 (0, 0)) :=
    Own.keep (heap_alloc_new w _) ((Below.refl _ _).alloc (Nat.le_refl _) _)
  have z2 : ((w.alloc (.cells (mvV lv wv S) 31)).alloc (.cells #[.slice none 0 0, .slice none 0 0, .int .i64 0, .int .i64 0] 31)).heap[w.heap.size + 1]? = some (.cells #[.slice none 0 0, .slice none 0 0, .int .i64 0, .int .i64 0] 31 (0, 0)) := by
    have := heap_alloc_new (w.alloc (.cells (mvV lv wv S) 31)) (.cells #[.slice none 0 0, .slice none 0 0, .int .i64 0, .int .i64 0] 31)
    simpa using this
  have hi : (Try.prog.info? 31).map (·.size) = some (mvV lv wv S).size := infoM
  have ho : (mvV lv wv S).all (·.oneCell') = true := by
    rw [Array.all_eq_true_iff_forall_mem]
    intro v hv
    simp only [mvV, List.mem_toArray, List.mem_cons, List.not_mem_nil, or_false] at hv
    rcases hv with rfl | rfl | rfl | rfl
    · exact hl
    · exact hw
    · rfl
    · rfl
  go_enter Try.func37, Try.ntmps37
  go_wp2_with (first | refine wpList_load_row rfl 31 _ rfl w.heap.size rfl 31 _ (0, 0) _ z1 Try.underlying31 rfl hi ?_ | refine wpList_store_row rfl 31 _ _ rfl (w.heap.size + 1) (mvV lv wv S) rfl rfl 31 _ z2 hi rfl ho ?_ | fail)
  exact bodyPost_ret (Cel.end_cell rfl _ _ _ _ _ z2 rfl Try.underlying31 rfl hi) rfl ⟨rfl, below_setRow (((Below.refl _ _).alloc (Nat.le_refl _) _).alloc (by simp) _) (by omega) _⟩
theorem count_some (lv wv : Value) (S : DS) (w : World) (h : 0 < S.armed) (ha : S.armed ≤ 9223372036854775807) (hl : lv.oneCell' = true) (hw : wv.oneCell' = true) :
    Calls Try.prog 37 #[.agg (mvV lv wv S)] w fun e w' => e = .returned (.tuple #[.agg (mvV lv wv { S with armed := S.armed - 1 }), .bool (decide (S.armed - 1 = 0))]) ∧ Below w.heap.size w w' := by
  have z1 : ((w.alloc (.cells (mvV lv wv S) 31)).alloc (.cells #[.slice none 0 0, .slice none 0 0, .int .i64 0, .int .i64 0] 31)).heap[w.heap.size]? = some (.cells (mvV lv wv S) 31 (0, 0)) :=
    Own.keep (heap_alloc_new w _) ((Below.refl _ _).alloc (Nat.le_refl _) _)
  have c2 : ((w.alloc (.cells (mvV lv wv S) 31)).alloc (.cells #[.slice none 0 0, .slice none 0 0, .int .i64 0, .int .i64 0] 31)).cell? ⟨w.heap.size, 2, none⟩ = some (.int .i64 S.armed) := cell_of_row _ _ 2 _ _ _ z1
  have f2 : ((w.alloc (.cells (mvV lv wv S) 31)).alloc (.cells #[.slice none 0 0, .slice none 0 0, .int .i64 0, .int .i64 0] 31)).frozen? ⟨w.heap.size, 2, none⟩ = false := frozen_of_row _ _ 2 _ _ z1
  go_enter Try.func37, Try.ntmps37
  go_wp2_with fail
  have hx1' : ((w.alloc (.cells ((mvV lv wv S).setIfInBounds 2 (.int .i64 (S.armed - 1))) 31)).alloc (.cells #[.slice none 0 0, .slice none 0 0, .int .i64 0, .int .i64 0] 31)).heap[w.heap.size]? = some (.cells (mvV lv wv { S with armed := S.armed - 1 }) 31 (0, 0)) := Own.keep (heap_alloc_new w _) ((Below.refl _ _).alloc (Nat.le_refl _) _)
  have hx2 : ((w.alloc (.cells ((mvV lv wv S).setIfInBounds 2 (.int .i64 (S.armed - 1))) 31)).alloc (.cells #[.slice none 0 0, .slice none 0 0, .int .i64 0, .int .i64 0] 31)).heap[w.heap.size + 1]? = some (.cells #[.slice none 0 0, .slice none 0 0, .int .i64 0, .int .i64 0] 31 (0, 0)) := by
    have := heap_alloc_new (w.alloc (.cells ((mvV lv wv S).setIfInBounds 2 (.int .i64 (S.armed - 1))) 31)) (.cells #[.slice none 0 0, .slice none 0 0, .int .i64 0, .int .i64 0] 31)
    simpa using this
  have hb : Below w.heap.size w ((w.alloc (.cells ((mvV lv wv S).setIfInBounds 2 (.int .i64 (S.armed - 1))) 31)).alloc (.cells #[.slice none 0 0, .slice none 0 0, .int .i64 0, .int .i64 0] 31)) := ((Below.refl w.heap.size w).alloc (Nat.le_refl _) _).alloc (by simp) _
  clear z1 c2 f2
  generalize (w.alloc (.cells ((mvV lv wv S).setIfInBounds 2 (.int .i64 (S.armed - 1))) 31)).alloc (.cells #[.slice none 0 0, .slice none 0 0, .int .i64 0, .int .i64 0] 31) = W3 at hx1' hx2 hb ⊢
  have hi : (Try.prog.info? 31).map (·.size) = some (mvV lv wv { S with armed := S.armed - 1 }).size := infoM
  have ho := mvV_one lv wv { S with armed := S.armed - 1 } hl hw
  refine wp_region_held_drew (S := fun W => W.heap[w.heap.size]? = some (.cells (mvV lv wv { S with armed := S.armed - 1 }) 31 (0, 0)) ∧ Below w.heap.size w W) (by kernel_rfl) ⟨hx1', hb.drew⟩ (fun hH => ?_)
  refine take_at (i := 0) (some 12) (.agg (mvV lv wv { S with armed := S.armed - 1 })) rfl rfl (by kernel_rfl) (by kernel_rfl) (by kernel_rfl) (fun _ _ _ h => h) (yieldsIf_load (by rfl) 31 (.tmp 1) rfl (.pointer (some ⟨w.heap.size, 0, none⟩)) rfl _ (fun w' hw' => load_row hw'.1 Try.underlying31 rfl hi)) hH ?_
  try simp only [Act.put, List.setIfInBounds_toArray, List.set_cons_zero, List.set_cons_succ]
  refine take_at (i := 1) (some 13) (.pointer (some ⟨w.heap.size, 2, none⟩)) rfl rfl (by kernel_rfl) (by kernel_rfl) (by kernel_rfl) (fun _ _ _ h => h) (Or.inl ⟨by rfl, fun w hSw => by go_simp⟩) hH ?_
  try simp only [Act.put, List.setIfInBounds_toArray, List.set_cons_zero, List.set_cons_succ]
  refine take_at (i := 2) (some 14) (.int .i64 (S.armed - 1)) rfl rfl (by kernel_rfl) (by kernel_rfl) (by kernel_rfl) (fun _ _ _ h => h) (Or.inl ⟨by rfl, fun w' hSw => by have e2 : w'.cell? ⟨w.heap.size, 2, none⟩ = some (.int .i64 (S.armed - 1)) := cell_of_row w' w.heap.size 2 _ _ _ hSw.1; go_simp⟩) hH ?_
  try simp only [Act.put, List.setIfInBounds_toArray, List.set_cons_zero, List.set_cons_succ]
  refine take_at (i := 3) (some 15) (.bool (S.armed - 1 == 0)) rfl rfl (by kernel_rfl) (by kernel_rfl) (by kernel_rfl) (fun _ _ _ h => h) (Or.inl ⟨by rfl, fun w' hSw => by go_simp⟩) hH ?_
  try simp only [Act.put, List.setIfInBounds_toArray, List.set_cons_zero, List.set_cons_succ]
  refine wpAnyH_ready (rs := [4]) (by kernel_rfl) (by simp) (AllReadyH.cons rfl (fun K hK => ?_) AllReadyH.nil)
  refine Cel.wp_store_none rfl 31 _ _ rfl (w.heap.size + 1) (mvV lv wv { S with armed := S.armed - 1 }) rfl rfl 31 _ hx2 hi rfl ho ?_
  refine hK.out _ _ ⟨(setRow_other _ _ _ _ (by omega)).trans hH.1, below_setRow hH.2 (by omega) _⟩ (fun hH => ?_)
  clear hK K
  try simp only [Act.put, List.setIfInBounds_toArray, List.set_cons_zero, List.set_cons_succ]
  refine take_at (i := 5) (some 3) (.bool (S.armed - 1 == 0)) rfl rfl (by kernel_rfl) (by kernel_rfl) (by kernel_rfl) (fun _ _ _ h => h) (Or.inl ⟨by rfl, fun w' hSw => by go_simp⟩) hH ?_
  try simp only [Act.put, List.setIfInBounds_toArray, List.set_cons_zero, List.set_cons_succ]
  refine wpAnyH_done (by kernel_rfl) ?_ _
  try simp only [Act.put, List.setIfInBounds_toArray, List.set_cons_zero, List.set_cons_succ]
  go_wp2_with fail
  exact bodyPost_ret (Cel.end_cell rfl _ _ _ _ _ (show W3.drew.heap[w.heap.size + 1]? = _ from hx2) rfl Try.underlying31 rfl hi) rfl ⟨rfl, hH.2⟩
theorem count_calls (lv wv : Value) (S : DS) (w : World) (ha : S.armed ≤ 9223372036854775807) (hl : lv.oneCell' = true) (hw : wv.oneCell' = true) :
    Calls Try.prog 37 #[.agg (mvV lv wv S)] w fun e w' => e = .returned (.tuple #[.agg (mvV lv wv S.fails.1), .bool S.fails.2]) ∧ Below w.heap.size w w' := by
  by_cases h : S.armed ≤ 0
  · have e : S.fails = (S, false) := by unfold DS.fails; rw [if_pos h]
    rw [e]
    exact count_none lv wv S w h hl hw
  · have e : S.fails = ({ S with armed := S.armed - 1 }, decide (S.armed - 1 = 0)) := by unfold DS.fails; rw [if_neg h]
    rw [e]
    exact count_some lv wv S w (by omega) ha hl hw
end Go.Proofs.Ytknbhgodhmcemaa.Dk
namespace Go.Proofs.Ytknbhgodhmcemaa.Dk
set_option linter.unusedSimpArgs false
set_option linter.unusedVariables false
set_option maxRecDepth 100000
open Go.RowKit Go.Proofs.Ytknbhgodhmcemaa.Own Go.Proofs.Ytknbhgodhmcemaa.Cel
structure Asd (p : Prop) : Prop where mk :: (out : p)
theorem applyW_snoc_get (l : List ByteArray) (a : List Wt) (x : Wt) (b : List Wt) (hx : x.1 < l.length) (hb : cnt x.1 b = 0) : (applyW l (a ++ x :: b)).getD x.1 ByteArray.empty = x.2 := by
  rw [applyW_append, applyW, List.getD_eq_getElem?_getD, applyW_other b _ hb, List.getElem?_set_self (by rw [applyW_len]; exact hx)]
  rfl
theorem wcells_get : ∀ (l : List Wt) (j : Nat) (h : j < l.length), (wcells l)[j * 2]? = some (.int .i64 ((l[j]'h).1 : Nat)) ∧ (wcells l)[j * 2 + 1]? = some (.string (l[j]'h).2)
  | x :: r, 0, _ => ⟨rfl, rfl⟩
  | x :: r, j + 1, h => by
    obtain ⟨h1, h2⟩ := wcells_get r j (by simpa using h)
    rw [wcells, show (j + 1) * 2 = j * 2 + 1 + 1 by omega]
    exact ⟨by simpa using h1, by simpa using h2⟩
theorem RK.lcell {G : Nat → Prop} {lv wv : Value} {S : DS} {V : World} (h : RK G lv wv S V) : ∃ A c, lv = .slice A S.lasts.length c ∧ ∀ j (hj : j < S.lasts.length), ∃ b, A = some ⟨b, 0, none⟩ ∧ V.cell? ⟨b, j, none⟩ = some (.string (S.lasts[j]'hj)) := by
  rcases h.1.2 with ⟨e, h0⟩ | ⟨g, cap, cur, e, _⟩
  · exact ⟨none, 0, by rw [e, h0], fun j hj => by omega⟩
  · refine ⟨some ⟨g, 0, none⟩, cap, e, fun j hj => ⟨g, rfl, ?_⟩⟩
    have hc := h.1.cells (g := g) (by rw [e]; rfl) j _ (strs_get S.lasts j hj)
    rwa [Seg.addr_add, Nat.zero_add] at hc
theorem RK.wcell {G : Nat → Prop} {lv wv : Value} {S : DS} {V : World} (h : RK G lv wv S V) : ∃ A c, wv = .slice A S.waits.length c ∧ ∀ j (hj : j < S.waits.length), ∃ b, A = some ⟨b, 0, none⟩ ∧ V.cell? ⟨b, j * 2, none⟩ = some (.int .i64 ((S.waits[j]'hj).1 : Nat)) ∧ V.cell? ⟨b, j * 2 + 1, none⟩ = some (.string (S.waits[j]'hj).2) := by
  rcases h.2.1.2 with ⟨e, h0⟩ | ⟨g, cap, cur, e, _⟩
  · exact ⟨none, 0, by rw [e, h0], fun j hj => by omega⟩
  · refine ⟨some ⟨g, 0, none⟩, cap, e, fun j hj => ⟨g, rfl, ?_, ?_⟩⟩
    · have hc := h.2.1.cells (g := g) (by rw [e]; rfl) (j * 2) _ (wcells_get S.waits j hj).1
      rwa [Seg.addr_add, Nat.zero_add] at hc
    · have hc := h.2.1.cells (g := g) (by rw [e]; rfl) (j * 2 + 1) _ (wcells_get S.waits j hj).2
      rwa [Seg.addr_add, Nat.zero_add] at hc
def noneBehind (i k : Nat) (ws : List Wt) : Prop := cnt i (ws.drop k) = 0
theorem none_step {i k : Nat} {ws : List Wt} (h : noneBehind i (k + 1) ws) (hk : k < ws.length) (hne : (ws[k]'hk).1 ≠ i) : noneBehind i k ws := by
  unfold noneBehind at h ⊢
  rw [List.drop_eq_getElem_cons hk, cnt, if_neg hne, h]
theorem found {l : List ByteArray} {i k : Nat} {ws : List Wt} (h : noneBehind i (k + 1) ws) (hk : k < ws.length) (he : (ws[k]'hk).1 = i) (hi : i < l.length) : (applyW l ws).getD i ByteArray.empty = (ws[k]'hk).2 := by
  have e : ws = ws.take k ++ ws[k] :: ws.drop (k + 1) := by rw [List.getElem_cons_drop, List.take_append_drop]
  have := applyW_snoc_get l (ws.take k) ws[k] (ws.drop (k + 1)) (by rw [he]; exact hi) (by rw [he]; exact h)
  rw [← e, he] at this
  exact this
set_option maxHeartbeats 4000000 in
theorem rread_calls {G : Nat → Prop} {lv wv : Value} {S : DS} {V : World} (h : RK G lv wv S V) (i : Int) (hl : S.lasts.length ≤ 100000) (hw : S.waits.length ≤ 1000000) :
    Calls Try.prog 26 #[.agg (mvV lv wv S), .int .i64 i] V fun e V' => e = .returned (.tuple #[.string (S.readAt i).1, .int .i64 (S.readAt i).2]) ∧ Below V.heap.size V V' := by
  obtain ⟨Al, cl, rfl, hlc⟩ := h.lcell
  obtain ⟨Aw, cw, rfl, hwc⟩ := h.wcell
  obtain ⟨nl, hnl⟩ : ∃ n, S.lasts.length = n := ⟨_, rfl⟩
  obtain ⟨nw, hnw⟩ : ∃ n, S.waits.length = n := ⟨_, rfl⟩
  have hb := (Below.refl V.heap.size V).alloc (Nat.le_refl _) (.cells (mvV (.slice Al nl cl) (.slice Aw nw cw) S) 31)
  have z := heap_alloc_new V (.cells (mvV (.slice Al nl cl) (.slice Aw nw cw) S) 31)
  have k0 : (V.alloc (.cells (mvV (.slice Al nl cl) (.slice Aw nw cw) S) 31)).cell? ⟨V.heap.size, 0, none⟩ = some (.slice Al nl cl) := cell_of_row _ _ 0 _ _ _ z
  have k1 : (V.alloc (.cells (mvV (.slice Al nl cl) (.slice Aw nw cw) S) 31)).cell? ⟨V.heap.size, 1, none⟩ = some (.slice Aw nw cw) := cell_of_row _ _ 1 _ _ _ z
  have HB := Asd.mk hb
  have HLC := Asd.mk hlc
  have HWC := Asd.mk hwc
  rw [hnl] at hl ⊢
  rw [hnw] at hw ⊢
  have NL := Asd.mk hnl
  have NW := Asd.mk hnw
  clear h hlc hwc hnl hnw hb z
  by_cases a : 0 ≤ i ∧ i < (nl : Int)
  rotate_left
  · have e : S.readAt i = (⟨#[]⟩, 5) := by unfold DS.readAt; rw [NL.out, if_neg a]
    rw [e]
    by_cases a0 : i < 0
    · have t0 : decide (i < 0) = true := decide_eq_true a0
      clear a
      go_enter Try.func26, Try.ntmps26
      go_wp2
      go_ret2
      exact ⟨rfl, HB.out⟩
    · have t0 : decide (i < 0) = false := decide_eq_false a0
      have t1 : decide ((nl : Int) ≤ i) = true := decide_eq_true (by omega)
      clear a a0
      go_enter Try.func26, Try.ntmps26
      go_wp2
      go_ret2
      exact ⟨rfl, HB.out⟩
  obtain ⟨q, rfl⟩ := Int.eq_ofNat_of_zero_le a.1
  have hq : q < nl := by omega
  have e : S.readAt (q : Int) = (S.read.getD q ByteArray.empty, 0) := by unfold DS.readAt; rw [NL.out, if_pos a, Int.toNat_natCast]
  obtain ⟨R, hR⟩ : ∃ R, S.read.getD q ByteArray.empty = R := ⟨_, rfl⟩
  rw [e, hR]
  have HR := Asd.mk hR
  have t0 : decide ((q : Int) < 0) = false := decide_eq_false (by omega)
  have t1 : decide ((nl : Int) ≤ (q : Int)) = false := decide_eq_false (by omega)
  have H0 := Asd.mk (show noneBehind q nw S.waits from by unfold noneBehind; rw [← NW.out, List.drop_length]; rfl)
  clear e a hR
  go_enter Try.func26, Try.ntmps26
  go_wp2
  go_loopw [6] (fun iv W => ∃ (m : Nat), iv = .int .i64 ((m : Int) - 1) ∧ m ≤ nw ∧ W = V.alloc (.cells (mvV (.slice Al nl cl) (.slice Aw nw cw) S) 31) ∧ Asd (noneBehind q m S.waits)) (fun iv _ => (intOf iv + 1).toNat)
  case atStart => exact ⟨nw, rfl, by omega, rfl, H0⟩
  case round =>
    obtain ⟨m, rfl, hm, rfl, HM⟩ := hrel
    clear H0
    have far : ∀ (b o : Nat) (u : Value), V.cell? ⟨b, o, none⟩ = some u → (V.alloc (.cells (mvV (.slice Al nl cl) (.slice Aw nw cw) S) 31)).cell? ⟨b, o, none⟩ = some u := fun b o u hc => (World.cell?_of_block (HB.out.block b (World.block_lt_of_cell? V _ hc))).trans hc
    have FAR := Asd.mk far
    clear far
    by_cases h0 : m = 0
    · subst h0
      obtain ⟨b, rfl, hc⟩ := HLC.out q (by rw [NL.out]; exact hq)
      have hc2 := FAR.out b q _ hc
      have hres : S.lasts[q]'(by rw [NL.out]; exact hq) = R := by
        rw [← HR.out]
        have h1 : (applyW S.lasts S.waits)[q]? = S.lasts[q]? := applyW_other _ _ HM.out
        show _ = (applyW S.lasts S.waits).getD q ByteArray.empty
        rw [List.getD_eq_getElem?_getD, h1, List.getElem?_eq_getElem (by rw [NL.out]; exact hq)]; rfl
      rw [hres] at hc2
      have hq1 : (q : Int) < (nl : Int) := by omega
      clear hc hres HM FAR
      go_wp2
      go_ret2
      exact ⟨rfl, HB.out⟩
    · obtain ⟨k, rfl⟩ : ∃ k, m = k + 1 := ⟨m - 1, by omega⟩
      have hk : k < S.waits.length := by rw [NW.out]; omega
      obtain ⟨b, rfl, hc, hd⟩ := HWC.out k hk
      have hc2 := FAR.out b _ _ hc
      have hd2 := FAR.out b _ _ hd
      have ek : ((k + 1 : Nat) : Int) - 1 = (k : Int) := by omega
      have hk1 : (k : Int) < (nw : Int) := by omega
      rw [ek]
      obtain ⟨x, hx⟩ : ∃ x, S.waits[k]'hk = x := ⟨_, rfl⟩
      rw [hx] at hc2 hd2
      by_cases he : x.1 = q
      · have hres : x.2 = R := by
          rw [← HR.out, ← hx]
          exact (found HM.out hk (by rw [hx]; exact he) (by rw [NL.out]; exact hq)).symm
        rw [hres] at hd2
        rw [he] at hc2
        clear hc hd hres HM FAR hx ek
        go_wp2
        go_ret2
        exact ⟨rfl, HB.out⟩
      · have e2 : ((x.1 : Int) == (q : Int)) = false := by simp; omega
        have HN := Asd.mk (none_step HM.out hk (by rw [hx]; exact he))
        clear hc hd HM FAR hx ek he
        go_wp2
        go_roundw
        case rel => exact ⟨k, by go_num, by omega, trivial, HN⟩
        case measure => simp [intOf]
end Go.Proofs.Ytknbhgodhmcemaa.Dk
namespace Go.Proofs.Ytknbhgodhmcemaa.Dk
set_option linter.unusedSimpArgs false
set_option linter.unusedVariables false
set_option maxRecDepth 100000
open Go.RowKit Go.Proofs.Ytknbhgodhmcemaa.Own Go.Proofs.Ytknbhgodhmcemaa.Cel
theorem infoWr : (Try.prog.info? 81).map (fun i => (i.zero, i.size, i.bytes)) = some (some (.agg #[.int .i64 0, .string ⟨#[]⟩]), 2, 24) := by kernel_rfl
theorem append_far {P : Program} (w : World) (base : Nat) (t ty e : TypeId) (i : TypeInfo) (z : Value) (size bytes : Nat) (ht : P.underlying t = some (.slice e)) (hi : P.info? e = some i) (hz : i.zero = some z)
    (hsize : i.size = size) (hby : i.bytes = bytes) (hzs : z.cells.size = size) (v : Value) (n : Nat) (xs : List Value) (hown : w.ownsRow base e size v n xs)
    (a : Addr) (m c : Nat) (news : List Value) (hl : news.length = m * size) (hnews : ∀ j u, news[j]? = some u → w.cell? (a.add j) = some u) (h1 : ∀ u ∈ news, u.oneCell' = true) (hm : 0 < m)
    (h63 : n + m ≤ maxLen) (hbytes : (n + m) * bytes ≤ 140737488355328) {v' : Value} {w' : World} (hrun : (Builtin.append_ #[t, t] ty #[v, .slice (some a) m c]).run P w = .ok v' w') :
    ∀ q, v'.ownBlock = some q → v.ownBlock = some q ∨ w.heap.size ≤ q := by
  subst hsize
  subst hby
  have hsmall : n + m ≤ 9223372036854775807 := by simp only [maxLen] at h63; omega
  intro q hq
  have of : ∀ {x : Value} {W : World}, (Builtin.append_ #[t, t] ty #[v, .slice (some a) m c]).run P w = .ok x W → v' = x := fun h => by
    rw [hrun] at h
    injection h
  rcases hown.2 with ⟨rfl, rfl⟩ | ⟨g, cap, cur, rfl, hbg, hg, hnc, hcm, hcs, htake⟩
  · have hr := of (run_append_nil (P := P) w t ty e i z ht hi hz a m c news hl hnews (by omega) (by omega) (by have hb := hbytes; simp only [Nat.zero_add] at hb; omega))
    subst hr
    simp [Value.ownBlock] at hq
    exact .inr (by omega)
  · by_cases hroom : n + m ≤ cap
    · have hfit : n * i.size + news.length ≤ cur.size := by rw [hl, hcs, ← Nat.add_mul]; exact Nat.mul_le_mul_right _ hroom
      have hr := of (run_append_room (P := P) w t ty e i ht hi g n cap cur hg a m c news hl hnews h1 hroom hfit)
      subst hr
      exact .inl hq
    · have hr := of (run_append_grow (P := P) w t ty e i z ht hi hz ⟨g, 0, none⟩ n cap xs hown.1 (hown.cells (g := g) rfl) a m c news hl hnews (by omega) (by omega) (growslice_fits (by omega) hbytes))
      subst hr
      simp [Value.ownBlock] at hq
      exact .inr (by omega)
theorem wapp (V : World) (B : Nat) (v : Value) (n : Nat) (xs : List Value) (hown : V.ownsRow B 81 2 v n xs) (hB : B ≤ V.heap.size) (wv : Value) (ws : List Wt) (hw : V.ownsRow 0 81 2 wv ws.length (wcells ws)) (h0 : ws = [] → wv = .slice none 0 0) (hn : n + ws.length ≤ 2000000) :
    ∃ v' V', (Builtin.append_ #[29, 29] 29 #[v, wv]).run Try.prog V = .ok v' V' ∧ V'.ownsRow B 81 2 v' (n + ws.length) (xs ++ wcells ws) ∧ V.grownBy V' v.ownBlock ∧ ∀ q, v'.ownBlock = some q → v.ownBlock = some q ∨ V.heap.size ≤ q := by
  obtain ⟨i0, hi0, hz0, hz1, hz2⟩ := info_parts infoWr
  by_cases e : ws = []
  · subst e
    rw [h0 rfl]
    refine ⟨v, V, run_append_owned_none (P := Try.prog) V B 29 29 81 i0 2 Try.underlying29 hi0 v n xs hown, ?_, ⟨rfl, rfl, rfl, Nat.le_refl _, fun _ _ _ => rfl⟩, fun q hq => .inl hq⟩
    rw [show wcells [] = [] from rfl, List.append_nil]; exact hown
  · have hpos : 0 < ws.length := List.length_pos_iff.2 e
    rcases hw.2 with ⟨_, hz⟩ | ⟨g, cap, cur, rfl, _⟩
    · omega
    have hc : ∀ (j : Nat) (u : Value), (wcells ws)[j]? = some u → V.cell? ((⟨g, 0, none⟩ : Addr).add j) = some u := fun j u hj => hw.cells (g := g) rfl j u hj
    obtain ⟨v', V', hr, ho, hg, _⟩ := run_append_own (P := Try.prog) V B 29 29 81 i0 _ 2 _ Try.underlying29 hi0 hz0 hz1 hz2 rfl (by decide) v n xs hown ⟨g, 0, none⟩ ws.length cap (wcells ws) (wcells_len ws) hc (wcells_one ws) (by unfold maxLen; omega) (by omega) hB
    exact ⟨v', V', hr, ho, hg, append_far (P := Try.prog) V B 29 29 81 i0 _ 2 _ Try.underlying29 hi0 hz0 hz1 hz2 rfl v n xs hown ⟨g, 0, none⟩ ws.length cap (wcells ws) (wcells_len ws) hc (wcells_one ws) hpos (by unfold maxLen; omega) (by omega) hr⟩
theorem append_known {P : Program} {ops : Array Oper} {rest : List Oper} {o : Oper} {a : Act} {w : World} {Q : Exit → Act → World → Prop} (hgd : o.guard = none) (s x : Operand) (t : TypeId) (ho : o.op = .call { callee := .builtin .append, args := #[s, x], argTypes := #[t, t] })
    (v y : Value) (hs : a.eval s = v) (hx : a.eval x = y) {v' : Value} {w' : World} (hr : (Builtin.append_ #[t, t] o.type #[v, y]).run P w = .ok v' w') (h : wpList P ops Q rest (a.put o.dst v') w') : wpList P ops Q (o :: rest) a w :=
  wpList_plain hgd fun K hK => by
    unfold Oper.wp execOp
    simp only [ho, resolve, invoke, builtin, Sem.run_bind, Sem.run_pure, Result.andThen_ok, List.map_toArray, List.map_cons, List.map_nil, hs, hx, hr]
    exact hK _ _ h
theorem owns_cell1 {V : World} {B n : Nat} {e : TypeId} {sz : Nat} {v : Value} {xs : List Value} (h : V.ownsRow B e sz v n xs) : v.oneCell' = true := by
  rcases h.2 with ⟨rfl, _⟩ | ⟨_, _, _, rfl, _⟩ <;> rfl
abbrev zM : Array Value := #[.slice none 0 0, .slice none 0 0, .int .i64 0, .int .i64 0]
theorem infoMS (lv wv : Value) (S : DS) : (Try.prog.info? 31).map (·.size) = some (mvV lv wv S).size := infoM
def RD (G : Nat → Prop) (mv : Array Value) (S : DS) (V : World) : Prop := ∃ lv wv, mv = mvV lv wv S ∧ RK G lv wv S V
def Rid (G : Nat → Prop) (mv' : Array Value) (S' : DS) (V V' : World) : Prop := ∃ G', RD G' mv' S' V' ∧ Below V.heap.size V V' ∧ ∀ k, G' k → G k ∨ V.heap.size ≤ k
theorem RK.failed {G : Nat → Prop} {lv wv : Value} {S : DS} {V : World} (h : RK G lv wv S V) : RK G lv wv S.fails.1 V := by
  unfold DS.fails; split
  · exact h
  · exact h
set_option maxHeartbeats 8000000 in
theorem rput_calls {G : Nat → Prop} {lv wv : Value} {S : DS} {V : World} (h : RK G lv wv S V) (i : Int) (s : ByteArray) (hl : S.lasts.length ≤ 100000) (hw : S.waits.length ≤ 1000000) (ha : S.armed ≤ 9223372036854775807) (ho0 : 0 ≤ S.ops) (ho : S.ops ≤ 4611686018427387904) :
    Calls Try.prog 17 #[.agg (mvV lv wv S), .int .i64 i, .string s] V fun e V' => ∃ mv', e = .returned (.tuple #[.agg mv', .int .i64 (S.put i s).2]) ∧ Rid G mv' (S.put i s).1 V V' := by
  obtain ⟨Al, cl, rfl, hlc⟩ := h.lcell
  obtain ⟨nl, hnl⟩ : ∃ n, S.lasts.length = n := ⟨_, rfl⟩
  have hwo := owns_cell1 h.2.1
  have hb := ((Below.refl V.heap.size V).alloc (Nat.le_refl _) (.cells (mvV (.slice Al S.lasts.length cl) wv S) 31)).alloc (by simp) (.cells zM 31)
  have z3 : ((V.alloc (.cells (mvV (.slice Al S.lasts.length cl) wv S) 31)).alloc (.cells zM 31)).heap[V.heap.size]? = some (.cells (mvV (.slice Al S.lasts.length cl) wv S) 31 (0, 0)) := Own.keep (heap_alloc_new V _) ((Below.refl _ _).alloc (Nat.le_refl _) _)
  have z6 : ((V.alloc (.cells (mvV (.slice Al S.lasts.length cl) wv S) 31)).alloc (.cells zM 31)).heap[V.heap.size + 1]? = some (.cells zM 31 (0, 0)) := by
    have := heap_alloc_new (V.alloc (.cells (mvV (.slice Al S.lasts.length cl) wv S) 31)) (.cells zM 31)
    simpa using this
  have k0 : ((V.alloc (.cells (mvV (.slice Al S.lasts.length cl) wv S) 31)).alloc (.cells zM 31)).cell? ⟨V.heap.size, 0, none⟩ = some (.slice Al S.lasts.length cl) := cell_of_row _ _ 0 _ _ _ z3
  have iM := infoMS (.slice Al S.lasts.length cl) wv S
  have oM := mvV_one (.slice Al S.lasts.length cl) wv S rfl hwo
  have HB := Asd.mk hb
  have HR := Asd.mk h
  -- an answer that leaves the disk
  have HWO := Asd.mk hwo
  have QUIT := Asd.mk (show ∀ (cs : Array Value), Rid G (mvV (.slice Al S.lasts.length cl) wv S) S V (((V.alloc (.cells (mvV (.slice Al S.lasts.length cl) wv S) 31)).alloc (.cells zM 31)).setRow (V.heap.size + 1) cs) from fun cs =>
    ⟨G, ⟨_, _, rfl, h.below (below_setRow hb (by omega) cs)⟩, below_setRow hb (by omega) cs, fun k hk => .inl hk⟩)
  rw [hnl] at hl iM oM z3 z6 k0 QUIT HB ⊢
  have NL := Asd.mk hnl
  clear h hlc hb
  by_cases a : 0 ≤ i ∧ i < (nl : Int)
  rotate_left
  · have e : S.put i s = (S, 5) := put_no (by rw [NL.out]; exact a)
    rw [e]
    by_cases a0 : i < 0
    · have t0 : decide (i < 0) = true := decide_eq_true a0
      clear a
      go_enter Try.func17, Try.ntmps17
      go_wp2_with (first | refine wpList_load_row rfl 31 _ rfl V.heap.size rfl 31 _ (0, 0) _ z3 Try.underlying31 rfl iM ?_ | refine wpList_store_row rfl 31 _ _ rfl (V.heap.size + 1) (mvV (.slice Al nl cl) wv S) rfl rfl 31 _ z6 iM rfl oM ?_ | fail)
      exact bodyPost_ret (Cel.end_cell rfl _ _ _ _ _ z6 rfl Try.underlying31 rfl iM) rfl ⟨_, rfl, QUIT.out _⟩
    · have t0 : decide (i < 0) = false := decide_eq_false a0
      have t1 : decide ((nl : Int) ≤ i) = true := decide_eq_true (by omega)
      clear a a0
      go_enter Try.func17, Try.ntmps17
      go_wp2_with (first | refine wpList_load_row rfl 31 _ rfl V.heap.size rfl 31 _ (0, 0) _ z3 Try.underlying31 rfl iM ?_ | refine wpList_store_row rfl 31 _ _ rfl (V.heap.size + 1) (mvV (.slice Al nl cl) wv S) rfl rfl 31 _ z6 iM rfl oM ?_ | fail)
      exact bodyPost_ret (Cel.end_cell rfl _ _ _ _ _ z6 rfl Try.underlying31 rfl iM) rfl ⟨_, rfl, QUIT.out _⟩
  obtain ⟨q, rfl⟩ := Int.eq_ofNat_of_zero_le a.1
  have t0 : decide ((q : Int) < 0) = false := decide_eq_false (by omega)
  have hq : q < nl := by omega
  have t1 : decide ((nl : Int) ≤ (q : Int)) = false := decide_eq_false (by omega)
  have t1' : decide (nl ≤ q) = false := decide_eq_false (by omega)
  by_cases hs : s.size = 128
  rotate_left
  · have e : S.put (q : Int) s = (S, 4) := put_form (by rw [NL.out]; exact a) hs
    rw [e]
    have t2 : ((s.size : Int) != 128) = true := by simp; omega
    clear a hs
    go_enter Try.func17, Try.ntmps17
    go_wp2_with (first | refine wpList_load_row rfl 31 _ rfl V.heap.size rfl 31 _ (0, 0) _ z3 Try.underlying31 rfl iM ?_ | refine wpList_store_row rfl 31 _ _ rfl (V.heap.size + 1) (mvV (.slice Al nl cl) wv S) rfl rfl 31 _ z6 iM rfl oM ?_ | fail)
    exact bodyPost_ret (Cel.end_cell rfl _ _ _ _ _ z6 rfl Try.underlying31 rfl iM) rfl ⟨_, rfl, QUIT.out _⟩
  have t2 : ((s.size : Int) != 128) = false := by simp; omega
  have KC := Asd.mk (count_calls (.slice Al nl cl) wv S ((V.alloc (.cells (mvV (.slice Al nl cl) wv S) 31)).alloc (.cells zM 31)) ha rfl hwo)
  obtain ⟨P2, hP2⟩ : ∃ P2, S.put (q : Int) s = P2 := ⟨_, rfl⟩
  rw [hP2]
  have HP := Asd.mk hP2
  obtain ⟨S1, hS1⟩ : ∃ S1, S.fails.1 = S1 := ⟨_, rfl⟩
  obtain ⟨bad, hbad⟩ : ∃ b, S.fails.2 = b := ⟨_, rfl⟩
  have HS1 := Asd.mk hS1
  have HBD := Asd.mk hbad
  rw [hS1, hbad] at KC
  have HA := Asd.mk a
  have HSZ := Asd.mk hs
  have Z := Asd.mk (And.intro z3 z6)
  have i1 := infoMS (.slice Al nl cl) wv S1
  have o1 := mvV_one (.slice Al nl cl) wv S1 rfl hwo
  clear hP2 hS1 hbad a hs QUIT oM hwo
  go_enter Try.func17, Try.ntmps17
  go_wp2_with (first | refine wpList_load_row rfl 31 _ rfl V.heap.size rfl 31 _ (0, 0) _ z3 Try.underlying31 rfl iM ?_ | fail)
  refine KC.out.mono ?_
  rintro e W1 ⟨rfl, hb1⟩
  have z3 := Own.keep Z.out.1 hb1
  have z6 := Own.keep Z.out.2 hb1
  have HB1 := Asd.mk (HB.out.trans (hb1.mono HB.out.size))
  have hsz1 : V.heap.size + 1 < W1.heap.size := (Array.getElem?_eq_some_iff.1 z6).1
  have z3b := setRow_heap W1 V.heap.size _ (mvV (.slice Al nl cl) wv S1) 31 (0, 0) z3
  have z6b : (W1.setRow V.heap.size (mvV (.slice Al nl cl) wv S1)).heap[V.heap.size + 1]? = some (.cells zM 31 (0, 0)) := (setRow_other W1 V.heap.size (V.heap.size + 1) _ (by omega)).trans z6
  have HB2 := Asd.mk (below_setRow HB1.out (g := V.heap.size) (Nat.le_refl _) (mvV (.slice Al nl cl) wv S1))
  clear KC hb1 Z k0
  cases bad with
  | true =>
    have e : P2 = (S1, 7) := HP.out.symm.trans ((put_fails (by rw [NL.out]; exact HA.out) HSZ.out HBD.out).trans (by rw [HS1.out]))
    subst e
    have HRK := Asd.mk (HR.out.failed)
    rw [HS1.out] at HRK
    go_wp2_with (first | refine wpList_store_row rfl 31 _ _ rfl V.heap.size (mvV (.slice Al nl cl) wv S1) rfl rfl 31 _ z3 i1 rfl o1 ?_ | refine wpList_load_row rfl 31 _ rfl V.heap.size rfl 31 _ (0, 0) _ z3b Try.underlying31 rfl i1 ?_ | refine wpList_store_row rfl 31 _ _ rfl (V.heap.size + 1) (mvV (.slice Al nl cl) wv S1) rfl rfl 31 _ z6b i1 rfl o1 ?_ | fail)
    refine bodyPost_ret (Cel.end_cell rfl _ _ _ _ _ z6b rfl Try.underlying31 rfl i1) rfl ⟨_, rfl, G, ⟨_, _, by rw [← NL.out], ?_⟩, ?_, fun k hk => .inl hk⟩
    · exact HRK.out.below (below_setRow HB2.out (by omega) _)
    · exact below_setRow HB2.out (by omega) _
  | false =>
    have e : P2 = ({ S1 with waits := S.waits ++ [(q, s)], ops := S.ops + 1 }, 0) := HP.out.symm.trans ((put_ok (by rw [NL.out]; exact HA.out) HSZ.out HBD.out).trans (by rw [HS1.out, Int.toNat_natCast]))
    subst e
    have HRK := Asd.mk (HR.out.failed)
    rw [HS1.out] at HRK
    have ew : S1.waits = S.waits := by rw [← HS1.out]; exact (fails_lasts S).2.1
    have eo : S1.ops = S.ops := by rw [← HS1.out]; exact (fails_lasts S).2.2
    have hsz2 : V.heap.size + 1 < (W1.setRow V.heap.size (mvV (.slice Al nl cl) wv S1)).heap.size := (Array.getElem?_eq_some_iff.1 z6b).1
    obtain ⟨W2, hW2⟩ : ∃ W2, (W1.setRow V.heap.size (mvV (.slice Al nl cl) wv S1)) = W2 := ⟨_, rfl⟩
    rw [hW2] at z3b z6b HB2 hsz2
    have bA := (Below.refl W2.heap.size W2).alloc (Nat.le_refl _) (.cells #[] 81)
    have own8 : (W2.alloc (.cells #[] 81)).ownsRow V.heap.size 81 2 (.slice (some ⟨W2.heap.size, 0, none⟩) 0 0) 0 [] :=
      ⟨rfl, .inr ⟨W2.heap.size, 0, #[], rfl, by omega, heap_alloc_new W2 _, Nat.le_refl _, by decide, rfl, rfl⟩⟩
    obtain ⟨v1, V1, hr1, ho1, hg1, hf1⟩ := wapp (W2.alloc (.cells #[] 81)) V.heap.size _ 0 [] own8 (by have := bA.size; omega) wv S.waits (owns_keep HR.out.2.1 ((HB2.out.trans (bA.mono HB2.out.size)))) HR.out.2.2.2 (by omega)
    have bB := bA.grown hg1 (by have := bA.size; omega) (fun p e => by simp [Value.ownBlock] at e; omega)
    have bC := bB.alloc bB.size (.cells #[.int .i64 (q : Nat), .string s] 81)
    obtain ⟨v2, V2, hr2, ho2, hg2, hf2⟩ := wapp (V1.alloc (.cells #[.int .i64 (q : Nat), .string s] 81)) V.heap.size v1 _ _ (owns_keep ho1 ((Below.refl _ _).alloc (Nat.le_refl _) _)) (by have := bC.size; omega) (.slice (some ⟨V1.heap.size, 0, none⟩) 1 1) [(q, s)] ⟨rfl, .inr ⟨V1.heap.size, 1, _, rfl, Nat.zero_le _, heap_alloc_new V1 _, Nat.le_refl _, by decide, rfl, rfl⟩⟩ (fun e => by cases e) (by simp; omega)
    have hown1 : ∀ p, v1.ownBlock = some p → W2.heap.size ≤ p := fun p e => by
      rcases hf1 p e with h | h
      · simp [Value.ownBlock] at h; omega
      · have := bA.size; omega
    have bD := bC.grown hg2 bC.size hown1
    have hown2 : ∀ p, v2.ownBlock = some p → W2.heap.size ≤ p := fun p e => by
      rcases hf2 p e with h | h
      · exact hown1 p h
      · have := bC.size; omega
    obtain ⟨nn, hnn⟩ : ∃ nn, 0 + S.waits.length + [(q, s)].length = nn := ⟨_, rfl⟩
    rw [hnn] at ho2
    have HNN := Asd.mk hnn
    clear hnn
    obtain ⟨Av, cv, rfl⟩ := owns_slice ho2
    have z3c := (bD.block V.heap.size (by omega)).trans z3b
    have z6c := (bD.block (V.heap.size + 1) (by omega)).trans z6b
    have k31 : V2.cell? ⟨V.heap.size, 1, none⟩ = some wv := cell_of_row _ _ 1 _ _ _ z3c
    have fz31 : V2.frozen? ⟨V.heap.size, 1, none⟩ = false := frozen_of_row _ _ 1 _ _ z3c
    have z3d := heap_setCell_same V2 V.heap.size 1 _ _ (.slice Av nn cv) z3c
    have k33 : (V2.setCell ⟨V.heap.size, 1, none⟩ (.slice Av nn cv)).cell? ⟨V.heap.size, 3, none⟩ = some (.int .i64 S1.ops) := cell_of_row _ _ 3 _ _ _ z3d
    have fz33 : (V2.setCell ⟨V.heap.size, 1, none⟩ (.slice Av nn cv)).frozen? ⟨V.heap.size, 3, none⟩ = false := frozen_of_row _ _ 3 _ _ z3d
    rw [eo] at k33
    have z3e : ((V2.setCell ⟨V.heap.size, 1, none⟩ (.slice Av nn cv)).setCell ⟨V.heap.size, 3, none⟩ (.int .i64 (S.ops + 1))).heap[V.heap.size]? = some (.cells (mvV (.slice Al nl cl) (.slice Av nn cv) { S1 with waits := S.waits ++ [(q, s)], ops := S.ops + 1 }) 31 (0, 0)) := heap_setCell_same _ V.heap.size 3 _ _ (.int .i64 (S.ops + 1)) z3d
    have z6e : ((V2.setCell ⟨V.heap.size, 1, none⟩ (.slice Av nn cv)).setCell ⟨V.heap.size, 3, none⟩ (.int .i64 (S.ops + 1))).heap[V.heap.size + 1]? = some (.cells zM 31 (0, 0)) := by
      rw [set_other _ _ _ _ (by show V.heap.size + 1 ≠ V.heap.size; omega), set_other _ _ _ _ (by show V.heap.size + 1 ≠ V.heap.size; omega)]
      exact z6c
    have i2 := infoMS (.slice Al nl cl) (.slice Av nn cv) { S1 with waits := S.waits ++ [(q, s)], ops := S.ops + 1 }
    have o2 := mvV_one (.slice Al nl cl) (.slice Av nn cv) { S1 with waits := S.waits ++ [(q, s)], ops := S.ops + 1 } rfl (owns_cell1 ho2)
    have bE := Asd.mk ((((HB2.out.trans (bD.mono HB2.out.size)).setCell (p := ⟨V.heap.size, 1, none⟩) (Nat.le_refl _) (.slice Av nn cv)).setCell (p := ⟨V.heap.size, 3, none⟩) (Nat.le_refl _) (.int .i64 (S.ops + 1))))
    have hbnd : S.ops + 1 ≤ 9223372036854775807 := by omega
    have kA : (W2.alloc (.cells #[] 81)).cell? ⟨V.heap.size, 1, none⟩ = some wv := cell_of_row _ _ 1 _ _ _ (Own.keep z3b ((Below.refl _ _).alloc (Nat.le_refl _) _))
    subst hW2
    have esz : (W1.setRow V.heap.size (mvV (.slice Al nl cl) wv S1)).heap.size = W1.heap.size := by simp [World.setRow]
    rw [esz] at hr1
    clear esz
    have R1 := Asd.mk hr1
    have R2 := Asd.mk hr2
    have HO2 := Asd.mk (And.intro ho2 hown2)
    clear hr1 hr2 ho1 hg1 hf1 ho2 hg2 hf2 bA bB bC bD own8 hown1 hown2 z3c z6c z3d z3b z6b
    go_wp2_with (first | refine wpList_store_row rfl 31 _ _ rfl V.heap.size (mvV (.slice Al nl cl) wv S1) rfl rfl 31 _ z3 i1 rfl o1 ?_ | refine append_known rfl _ _ 29 rfl _ _ rfl rfl R1.out ?_ | refine append_known rfl _ _ 29 rfl _ _ rfl rfl R2.out ?_ | refine wpList_load_row rfl 31 _ rfl V.heap.size rfl 31 _ (0, 0) _ z3e Try.underlying31 rfl i2 ?_ | refine wpList_store_row rfl 31 _ _ rfl (V.heap.size + 1) (mvV (.slice Al nl cl) (.slice Av nn cv) { S1 with waits := S.waits ++ [(q, s)], ops := S.ops + 1 }) rfl rfl 31 _ z6e i2 rfl o2 ?_ | fail)
    have hown := HO2.out.2
    have HBB := below_setRow bE.out (g := V.heap.size + 1) (by omega) (mvV (.slice Al nl cl) (.slice Av nn cv) { S1 with waits := S.waits ++ [(q, s)], ops := S.ops + 1 })
    have hlen : nn = (S.waits ++ [(q, s)]).length := by rw [← HNN.out, List.length_append, Nat.zero_add]
    have hcl : [] ++ wcells S.waits ++ wcells [(q, s)] = wcells (S.waits ++ [(q, s)]) := by rw [List.nil_append, wcells_append]
    have hrk := HRK.out
    rw [NL.out] at hrk
    refine bodyPost_ret (Cel.end_cell rfl _ _ _ _ _ z6e rfl Try.underlying31 rfl i2) rfl ⟨_, rfl, (fun k => G k ∨ (Value.slice Av nn cv).ownBlock = some k), ⟨_, _, rfl, owns_keep hrk.1 HBB, ?_, fun k hk => hk.imp (fun e => hrk.2.2.1 k (.inl e)) id, fun e => absurd e (by simp)⟩, HBB, fun k hk => hk.imp id (fun e => by have := hown k e; omega)⟩
    show World.ownsRow _ 0 81 2 (.slice Av nn cv) (S.waits ++ [(q, s)]).length (wcells (S.waits ++ [(q, s)]))
    rw [← hcl, ← hlen]
    refine owns_mono (owns_block HO2.out.1 (fun k e => ?_)) (Nat.zero_le _)
    have h1 := hown k e
    rw [setRow_other _ _ _ _ (by omega), set_other _ _ _ _ (by show k ≠ V.heap.size; omega), set_other _ _ _ _ (by show k ≠ V.heap.size; omega)]
end Go.Proofs.Ytknbhgodhmcemaa.Dk
namespace Go.Proofs.Ytknbhgodhmcemaa.Dk
set_option linter.unusedSimpArgs false
set_option linter.unusedVariables false
set_option maxRecDepth 100000
open Go.RowKit Go.Proofs.Ytknbhgodhmcemaa.Own Go.Proofs.Ytknbhgodhmcemaa.Cel
theorem txt_self (x : ByteArray) : (x.toList != x.toList) = false := by simp
set_option maxHeartbeats 8000000 in
theorem same_calls {B p : Nat} {F G : Nat → Prop} {lv wv : Value} {S : DS} {V : World} (d : DK B p S F V) (h : RK G lv wv S V) (hl : S.lasts.length ≤ 100000) (hw : S.waits.length ≤ 1000000) :
    Calls Try.prog 8 #[.pointer (some ⟨p, 0, none⟩), .agg (mvV lv wv S)] V fun e V' => e = .returned (.bool true) ∧ Below V.heap.size V V' := by
  have hwo := owns_cell1 h.2.1
  have hlo := owns_cell1 h.1
  have HD := Asd.mk d
  have HK := Asd.mk h
  obtain ⟨Al, cl, rfl, _⟩ := h.lcell
  obtain ⟨Aw, cw, rfl, _⟩ := h.wcell
  obtain ⟨nl, hnl⟩ : ∃ n, S.lasts.length = n := ⟨_, rfl⟩
  obtain ⟨nw, hnw⟩ : ∃ n, S.waits.length = n := ⟨_, rfl⟩
  have hb := (Below.refl V.heap.size V).alloc (Nat.le_refl _) (.cells (mvV (.slice Al S.lasts.length cl) (.slice Aw S.waits.length cw) S) 31)
  have hD := d.below hb
  have KS := Asd.mk (fun n => size_calls (hD.keep (W' := (V.alloc (.cells (mvV (.slice Al S.lasts.length cl) (.slice Aw S.waits.length cw) S) 31)).drewN n) (fun _ _ => rfl)))
  have KW := Asd.mk (fun n => waiting_calls (hD.keep (W' := (V.alloc (.cells (mvV (.slice Al S.lasts.length cl) (.slice Aw S.waits.length cw) S) 31)).drewN n) (fun _ _ => rfl)))
  have KO := Asd.mk (fun n => ops_calls (hD.keep (W' := (V.alloc (.cells (mvV (.slice Al S.lasts.length cl) (.slice Aw S.waits.length cw) S) 31)).drewN n) (fun _ _ => rfl)))
  have z := heap_alloc_new V (.cells (mvV (.slice Al S.lasts.length cl) (.slice Aw S.waits.length cw) S) 31)
  have HB := Asd.mk hb
  have HL := Asd.mk hl
  have HW := Asd.mk hw
  rw [hnl, hnw] at z HB
  rw [hnl, hnw] at KS KW KO
  rw [hnl] at hl
  rw [hnl, hnw]
  have NL := Asd.mk hnl
  have NW := Asd.mk hnw
  have k0 : (V.alloc (.cells (mvV (.slice Al nl cl) (.slice Aw nw cw) S) 31)).cell? ⟨V.heap.size, 0, none⟩ = some (.slice Al nl cl) := cell_of_row _ _ 0 _ _ _ z
  have k1 : (V.alloc (.cells (mvV (.slice Al nl cl) (.slice Aw nw cw) S) 31)).cell? ⟨V.heap.size, 1, none⟩ = some (.slice Aw nw cw) := cell_of_row _ _ 1 _ _ _ z
  have k3 : (V.alloc (.cells (mvV (.slice Al nl cl) (.slice Aw nw cw) S) 31)).cell? ⟨V.heap.size, 3, none⟩ = some (.int .i64 S.ops) := cell_of_row _ _ 3 _ _ _ z
  have Z := Asd.mk z
  clear h d hb hD hnl hnw hw hwo hlo z
  go_enter Try.func8, Try.ntmps8
  go_wp2_with fail
  go_quiet (first | (go_at_call 14; refine Calls.quiet_of_same ((KS.out _).mono fun e w' x => ⟨x.1, x.2.symm⟩)) | (go_at_call 24; refine Calls.quiet_of_same ((KW.out _).mono fun e w' x => ⟨x.1, x.2.symm⟩)) | (go_at_call 25; refine Calls.quiet_of_same ((KO.out _).mono fun e w' x => ⟨x.1, x.2.symm⟩)) | fail)
  go_wp2
  have H0 := Asd.mk (show Below V.heap.size V ((V.alloc (.cells (mvV (.slice Al nl cl) (.slice Aw nw cw) S) 31)).drewN nq) ∧ ((V.alloc (.cells (mvV (.slice Al nl cl) (.slice Aw nw cw) S) 31)).drewN nq).heap[V.heap.size]? = some (.cells (mvV (.slice Al nl cl) (.slice Aw nw cw) S) 31 (0, 0)) from ⟨HB.out.trans ⟨rfl, rfl, rfl, Nat.le_refl _, fun _ _ => rfl⟩, Z.out⟩)
  clear KS KW KO k0 k1 k3 Z HB
  go_loopw [34] (fun iv W => ∃ (j : Nat), iv = .int .i64 j ∧ j ≤ nl ∧ Asd (Below V.heap.size V W ∧ W.heap[V.heap.size]? = some (.cells (mvV (.slice Al nl cl) (.slice Aw nw cw) S) 31 (0, 0)))) (fun iv _ => nl - (intOf iv).toNat)
  case atStart => exact ⟨0, rfl, by omega, H0⟩
  case round =>
    obtain ⟨j, rfl, hj, HI⟩ := hrel
    clear H0
    by_cases hlt : j < nl
    · have hj1 : (j : Int) < (nl : Int) := by omega
      have K1 := read_calls (HD.out.below HI.out.1) (j : Int)
      have K2 := fun (W : World) (hb : Below V.heap.size V W) => rread_calls (HK.out.below hb) (j : Int) HL.out HW.out
      rw [NL.out, NW.out] at K2
      have er : S.readAt (j : Int) = (S.read.getD j ByteArray.empty, 0) := by
        unfold DS.readAt
        rw [if_pos ⟨by omega, by rw [NL.out]; exact hj1⟩, Int.toNat_natCast]
      rw [er] at K1 K2
      obtain ⟨x, hx⟩ : ∃ x, S.read.getD j ByteArray.empty = x := ⟨_, rfl⟩
      rw [hx] at K1 K2
      have KA := Asd.mk K1
      have KB := Asd.mk K2
      have z := HI.out.2
      have iM := infoMS (.slice Al nl cl) (.slice Aw nw cw) S
      have txt := txt_self x
      clear K1 K2 er hx
      go_wp2_with fail
      refine KA.out.mono ?_
      rintro e W2 ⟨rfl, rfl⟩
      go_wp2_with (first | refine wpList_load_row rfl 31 _ rfl V.heap.size rfl 31 _ (0, 0) _ z Try.underlying31 rfl iM ?_ | fail)
      refine (KB.out _ HI.out.1).mono ?_
      rintro e W3 ⟨rfl, hb3⟩
      have HN := Asd.mk (show Below V.heap.size V W3 ∧ W3.heap[V.heap.size]? = some (.cells (mvV (.slice Al nl cl) (.slice Aw nw cw) S) 31 (0, 0)) from ⟨HI.out.1.trans (hb3.mono HI.out.1.size), Own.keep HI.out.2 hb3⟩)
      clear KA KB z hb3 HI
      go_wp2
      go_roundw
      case rel => exact ⟨j + 1, by go_num, by omega, HN⟩
      case measure => simp [intOf]; omega
    · obtain rfl : j = nl := by omega
      go_wp2
      go_ret
      exact ⟨rfl, HI.out.1⟩
end Go.Proofs.Ytknbhgodhmcemaa.Dk
namespace Go.Proofs.Ytknbhgodhmcemaa.Dk
set_option linter.unusedSimpArgs false
set_option linter.unusedVariables false
set_option maxRecDepth 100000
open Go.RowKit Go.Proofs.Ytknbhgodhmcemaa.Own Go.Proofs.Ytknbhgodhmcemaa.Cel
theorem sapp (V : World) (B : Nat) (v : Value) (n : Nat) (xs : List Value) (hown : V.ownsRow B 9 1 v n xs) (hB : B ≤ V.heap.size) (lv : Value) (ls : List ByteArray) (hw : V.ownsRow 0 9 1 lv ls.length (strs ls)) (hpos : 0 < ls.length) (hn : n + ls.length ≤ 2000000) :
    ∃ g cap V', (Builtin.append_ #[28, 28] 28 #[v, lv]).run Try.prog V = .ok (.slice (some ⟨g, 0, none⟩) (n + ls.length) cap) V' ∧ V'.ownsRow B 9 1 (.slice (some ⟨g, 0, none⟩) (n + ls.length) cap) (n + ls.length) (xs ++ strs ls) ∧ V.grownBy V' v.ownBlock ∧ (v.ownBlock = some g ∨ V.heap.size ≤ g) := by
  obtain ⟨i0, hi0, hz0, hz1, hz2⟩ := info_parts infoS
  rcases hw.2 with ⟨_, hz⟩ | ⟨g, cap, cur, rfl, _⟩
  · omega
  have hc : ∀ (j : Nat) (u : Value), (strs ls)[j]? = some u → V.cell? ((⟨g, 0, none⟩ : Addr).add j) = some u := fun j u hj => hw.cells (g := g) rfl j u hj
  obtain ⟨v', V', hr, ho, hg, _⟩ := run_append_own (P := Try.prog) V B 28 28 9 i0 _ 1 _ Try.underlying28 hi0 hz0 hz1 hz2 rfl (by decide) v n xs hown ⟨g, 0, none⟩ ls.length cap (strs ls) (by rw [strs_len, Nat.mul_one]) hc (strs_one ls) (by unfold maxLen; omega) (by omega) hB
  have hf := append_far (P := Try.prog) V B 28 28 9 i0 _ 1 _ Try.underlying28 hi0 hz0 hz1 hz2 rfl v n xs hown ⟨g, 0, none⟩ ls.length cap (strs ls) (by rw [strs_len, Nat.mul_one]) hc (strs_one ls) hpos (by unfold maxLen; omega) (by omega) hr
  rcases ho.2 with ⟨_, e⟩ | ⟨g', cap', cur', rfl, _⟩
  · omega
  exact ⟨g', cap', V', hr, ho, hg, hf g' rfl⟩
theorem keptW_take (kp : Nat → Bool) (ws : List Wt) (k : Nat) (hk : k < ws.length) : keptW kp 0 (ws.take (k + 1)) = keptW kp 0 (ws.take k) ++ (if kp k then [ws[k]'hk] else []) := by
  rw [List.take_succ_eq_append_getElem hk, keptW_snoc, List.length_take, Nat.min_eq_left (Nat.le_of_lt hk), Nat.zero_add]
theorem results_cell0 {fn : Func} {q : Tmp} {ty : TypeId} (h : fn.results = #[.cell q ty]) (tmps : Array Value) (P : Program) (w : World) :
    (results fn tmps).run P w = ((asAddr (tmps.getD q undef)).run P w).andThen fun a w₁ => (loadVar ty a).run P w₁ := by
  simp only [results, h]
  simp [Sem.run_bind, Result.andThen]
theorem end_cell0 {P : Program} {fn : Func} {q : Tmp} {ty : TypeId} {d : TypeDesc} (h : fn.results = #[.cell q ty]) (tmps : Array Value) (U : World) (b : Nat) (cells old : Array Value) (hZ : U.heap[b]? = some (.cells old ty (0, 0)))
    (hp : tmps.getD q undef = .pointer (some ⟨b, 0, none⟩)) (hu : P.underlying ty = some d) (hd : (match d with | .struct _ | .array _ _ => true | _ => false) = true) (hi : (P.info? ty).map (·.size) = some cells.size) :
    (results fn tmps).run P (U.setRow b cells) = .ok (.agg cells) (U.setRow b cells) := by
  have hR := setRow_heap U b old cells ty (0, 0) hZ
  rw [results_cell0 h, hp]
  simp [asAddr, run_loadVar_row _ _ ty ty _ (0, 0) _ hR hu hd hi]
def KArg (A : Option Addr) (ks : List Bool) (V : World) : Prop := ∀ i (h : i < ks.length), ∃ b o, A = some ⟨b, o, none⟩ ∧ V.cell? ⟨b, o + i, none⟩ = some (.bool (ks[i]'h))
def CR (V : World) (S : DS) (g cap nl : Nat) (wv : Value) (kp : Nat → Bool) (k : Nat) (W : World) : Prop :=
  Below V.heap.size V W ∧ W.heap[V.heap.size]? = some (.cells (mvV (.slice (some ⟨g, 0, none⟩) nl cap) wv S) 31 (0, 0)) ∧ W.heap[V.heap.size + 1]? = some (.cells zM 31 (0, 0)) ∧
    W.ownsRow V.heap.size 9 1 (.slice (some ⟨g, 0, none⟩) nl cap) nl (strs (applyW S.lasts (keptW kp 0 (S.waits.take k))))
set_option maxHeartbeats 8000000 in
theorem rcrash_calls {G : Nat → Prop} {lv wv : Value} {S : DS} {V : World} (h : RK G lv wv S V) (hok : S.ok) (hl0 : 0 < S.lasts.length) (hl : S.lasts.length ≤ 100000) (hw : S.waits.length ≤ 1000000) (A : Option Addr) (c : Nat) (ks : List Bool) (hk : KArg A ks V) (hkl : ks.length ≤ 1000000) :
    Calls Try.prog 20 #[.agg (mvV lv wv S), .slice A ks.length c] V fun e V' => ∃ mv', e = .returned (.agg mv') ∧ Rid G mv' (S.crash (fun j => ks.getD j false)) V V' := by
  obtain ⟨nk, hnk⟩ : ∃ n, ks.length = n := ⟨_, rfl⟩
  obtain ⟨nl, hnl⟩ : ∃ n, S.lasts.length = n := ⟨_, rfl⟩
  obtain ⟨nw, hnw⟩ : ∃ n, S.waits.length = n := ⟨_, rfl⟩
  obtain ⟨Aw, cw, rfl, hwc⟩ := h.wcell
  have hlo := owns_cell1 h.1
  have hb := ((Below.refl V.heap.size V).alloc (Nat.le_refl _) (.cells (mvV lv (.slice Aw S.waits.length cw) S) 31)).alloc (by simp) (.cells zM 31)
  have z2 : ((V.alloc (.cells (mvV lv (.slice Aw S.waits.length cw) S) 31)).alloc (.cells zM 31)).heap[V.heap.size]? = some (.cells (mvV lv (.slice Aw S.waits.length cw) S) 31 (0, 0)) := Own.keep (heap_alloc_new V _) ((Below.refl _ _).alloc (Nat.le_refl _) _)
  have z4 : ((V.alloc (.cells (mvV lv (.slice Aw S.waits.length cw) S) 31)).alloc (.cells zM 31)).heap[V.heap.size + 1]? = some (.cells zM 31 (0, 0)) := by
    have := heap_alloc_new (V.alloc (.cells (mvV lv (.slice Aw S.waits.length cw) S) 31)) (.cells zM 31)
    simpa using this
  obtain ⟨W0, hW0⟩ : ∃ W0, (V.alloc (.cells (mvV lv (.slice Aw S.waits.length cw) S) 31)).alloc (.cells zM 31) = W0 := ⟨_, rfl⟩
  rw [hW0] at hb z2 z4
  have hs0 : W0.heap.size = V.heap.size + 1 + 1 := by rw [← hW0]; simp
  have bA := (Below.refl W0.heap.size W0).alloc (Nat.le_refl _) (.cells #[] 9)
  have own6 : (W0.alloc (.cells #[] 9)).ownsRow V.heap.size 9 1 (.slice (some ⟨W0.heap.size, 0, none⟩) 0 0) 0 [] :=
    ⟨rfl, .inr ⟨W0.heap.size, 0, #[], rfl, by omega, heap_alloc_new W0 _, Nat.le_refl _, by decide, rfl, rfl⟩⟩
  obtain ⟨g, cap, V1, hr, ho, hg, hf⟩ := sapp (W0.alloc (.cells #[] 9)) V.heap.size _ 0 [] own6 (by have := bA.size; omega) lv S.lasts (owns_keep h.1 (hb.trans (bA.mono hb.size))) hl0 (by omega)
  have bB := bA.grown hg (by have := bA.size; omega) (fun p e => by simp [Value.ownBlock] at e; omega)
  have hgV : V.heap.size + 1 < g := by
    rcases hf with e | e
    · simp [Value.ownBlock] at e; omega
    · have := bA.size; omega
  rw [Nat.zero_add, List.nil_append] at ho
  rw [Nat.zero_add] at hr
  have z2b := (bB.block V.heap.size (by omega)).trans z2
  have z4b := (bB.block (V.heap.size + 1) (by omega)).trans z4
  have kA : (W0.alloc (.cells #[] 9)).cell? ⟨V.heap.size, 0, none⟩ = some lv := cell_of_row _ _ 0 _ _ _ (Own.keep z2 ((Below.refl _ _).alloc (Nat.le_refl _) _))
  have kB : V1.cell? ⟨V.heap.size, 0, none⟩ = some lv := cell_of_row _ _ 0 _ _ _ z2b
  have fB : V1.frozen? ⟨V.heap.size, 0, none⟩ = false := frozen_of_row _ _ 0 _ _ z2b
  have H0 := Asd.mk (show CR V S g cap S.lasts.length (.slice Aw S.waits.length cw) (fun j => ks.getD j false) 0 (V1.setCell ⟨V.heap.size, 0, none⟩ (.slice (some ⟨g, 0, none⟩) S.lasts.length cap)) from
    ⟨(hb.trans (bB.mono hb.size)).setCell (p := ⟨V.heap.size, 0, none⟩) (Nat.le_refl _) _, heap_setCell_same V1 V.heap.size 0 _ _ _ z2b, by rw [set_other _ _ _ _ (by show V.heap.size + 1 ≠ V.heap.size; omega)]; exact z4b,
      owns_block ho (fun k e => set_other _ _ _ _ (by simp [Value.ownBlock] at e; show k ≠ V.heap.size; omega))⟩)
  have HG := Asd.mk (And.intro h (And.intro hok hgV))
  have HWC := Asd.mk hwc
  have HKA := Asd.mk hk
  rw [hnl, hnw] at H0
  rw [hnw] at hW0
  rw [hnl] at hr hl
  rw [hnw] at hw ⊢
  rw [hnk] at hkl ⊢
  have NL := Asd.mk hnl
  have NW := Asd.mk hnw
  have NK := Asd.mk hnk
  subst hW0
  rw [hs0] at hr
  have R1 := Asd.mk hr
  clear h hwc hlo hb z2 z4 hs0 bA own6 hr ho hg hf bB hgV z2b z4b hk hok hnl hnw hnk hl0
  go_enter Try.func20, Try.ntmps20
  go_wp2_with (first | refine append_known rfl _ _ 28 rfl _ _ rfl rfl R1.out ?_ | fail)
  go_loopw [5] (fun iv W => ∃ (k : Nat), iv = .int .i64 k ∧ k ≤ nw ∧ Asd (CR V S g cap nl (.slice Aw nw cw) (fun j => ks.getD j false) k W)) (fun iv _ => nw - (intOf iv).toNat)
  case atStart => exact ⟨0, rfl, by omega, H0⟩
  case round =>
    obtain ⟨k, rfl, hk, HI⟩ := hrel
    clear H0 kA kB fB R1
    have z2 := HI.out.2.1
    have z4 := HI.out.2.2.1
    have k1 : wr.cell? ⟨V.heap.size, 1, none⟩ = some (.slice Aw nw cw) := cell_of_row _ _ 1 _ _ _ z2
    have f1 : wr.frozen? ⟨V.heap.size, 1, none⟩ = false := frozen_of_row _ _ 1 _ _ z2
    by_cases hlt : k < nw
    rotate_left
    · obtain rfl : k = nw := by omega
      have z2b := heap_setCell_same wr V.heap.size 1 _ _ (.slice none 0 0) z2
      have z4b : (wr.setCell ⟨V.heap.size, 1, none⟩ (.slice none 0 0)).heap[V.heap.size + 1]? = some (.cells zM 31 (0, 0)) := by
        rw [set_other _ _ _ _ (by show V.heap.size + 1 ≠ V.heap.size; omega)]; exact z4
      have i2 := infoMS (.slice (some ⟨g, 0, none⟩) nl cap) (.slice none 0 0) S
      have o2 := mvV_one (.slice (some ⟨g, 0, none⟩) nl cap) (.slice none 0 0) S rfl rfl
      have z2c : (wr.setCell ⟨V.heap.size, 1, none⟩ (.slice none 0 0)).heap[V.heap.size]? = some (.cells (mvV (.slice (some ⟨g, 0, none⟩) nl cap) (.slice none 0 0) S) 31 (0, 0)) := z2b
      clear z2 z4 hlt z2b
      go_wp2_with (first | refine wpList_load_row rfl 31 _ rfl V.heap.size rfl 31 _ (0, 0) _ z2c Try.underlying31 rfl i2 ?_ | refine wpList_store_row rfl 31 _ _ rfl (V.heap.size + 1) (mvV (.slice (some ⟨g, 0, none⟩) nl cap) (.slice none 0 0) S) rfl rfl 31 _ z4b i2 rfl o2 ?_ | fail)
      have bE := below_setRow (HI.out.1.setCell (p := ⟨V.heap.size, 1, none⟩) (Nat.le_refl _) (.slice none 0 0)) (g := V.heap.size + 1) (by omega) (mvV (.slice (some ⟨g, 0, none⟩) nl cap) (.slice none 0 0) S)
      have hgV := HG.out.2.2
      have hrow : ((wr.setCell ⟨V.heap.size, 1, none⟩ (.slice none 0 0)).setRow (V.heap.size + 1) (mvV (.slice (some ⟨g, 0, none⟩) nl cap) (.slice none 0 0) S)).ownsRow 0 9 1 (.slice (some ⟨g, 0, none⟩) nl cap) nl (strs (applyW S.lasts (keptW (fun j => ks.getD j false) 0 S.waits))) := by
        have h0 := HI.out.2.2.2
        rw [List.take_of_length_le (by rw [NW.out]; exact Nat.le_refl _)] at h0
        refine owns_mono (owns_block h0 (fun q e => ?_)) (Nat.zero_le _)
        simp [Value.ownBlock] at e
        rw [setRow_other _ _ _ _ (by omega), set_other _ _ _ _ (by show q ≠ V.heap.size; omega)]
      refine bodyPost_ret (end_cell0 rfl _ _ _ _ _ z4b rfl Try.underlying31 rfl i2) rfl ⟨_, rfl, (fun q => q = g), ⟨.slice (some ⟨g, 0, none⟩) nl cap, .slice none 0 0, rfl, ?_, World.ownsRow_nil _ _ _ _, fun q hq => ?_, fun _ => rfl⟩, bE, fun q hq => .inr (by omega)⟩
      · show World.ownsRow _ 0 9 1 (.slice (some ⟨g, 0, none⟩) nl cap) (applyW S.lasts (keptW (fun j => ks.getD j false) 0 S.waits)).length (strs (applyW S.lasts (keptW (fun j => ks.getD j false) 0 S.waits)))
        rw [applyW_len, NL.out]; exact hrow
      · rcases hq with e | e
        · simp [Value.ownBlock] at e; exact e.symm
        · simp [Value.ownBlock] at e
    have hk1 : (k : Int) < (nw : Int) := by omega
    have hkl2 : k < S.waits.length := by rw [NW.out]; exact hlt
    obtain ⟨gw, rfl, e1, e2⟩ := HWC.out k hkl2
    obtain ⟨x, hx⟩ : ∃ x, S.waits[k]'hkl2 = x := ⟨_, rfl⟩
    rw [hx] at e1 e2
    have hgw : gw < V.heap.size := World.block_lt_of_cell? V _ e1
    have e1' : wr.cell? ⟨gw, k * 2, none⟩ = some (.int .i64 (x.1 : Nat)) := (World.cell?_of_block (HI.out.1.block gw hgw)).trans e1
    have e2' : wr.cell? ⟨gw, k * 2 + 1, none⟩ = some (.string x.2) := (World.cell?_of_block (HI.out.1.block gw hgw)).trans e2
    have hkt := keptW_take (fun j => ks.getD j false) S.waits k hkl2
    by_cases hkn : k < nk
    rotate_left
    · have d1 : decide ((k : Int) < (nk : Int)) = false := decide_eq_false (by omega)
      have d1' : decide (k < nk) = false := decide_eq_false hkn
      have hf : ks.getD k false = false := by rw [List.getD_eq_getElem?_getD, List.getElem?_eq_none (by rw [NK.out]; omega)]; rfl
      have HN := Asd.mk (show CR V S g cap nl (.slice (some ⟨gw, 0, none⟩) nw cw) (fun j => ks.getD j false) (k + 1) wr from ⟨HI.out.1, HI.out.2.1, HI.out.2.2.1, by rw [hkt]; simp only [hf, Bool.false_eq_true, if_false, List.append_nil]; exact HI.out.2.2.2⟩)
      clear hkt hf e1 e2 e1' e2' hx HI z2 z4 hkn
      go_wp2
      go_roundw
      case rel => exact ⟨k + 1, by go_num, by omega, HN⟩
      case measure => simp [intOf]; omega
    have d1 : decide ((k : Int) < (nk : Int)) = true := decide_eq_true (by omega)
    have d1' : decide (k < nk) = true := decide_eq_true hkn
    have hkk : k < ks.length := by rw [NK.out]; exact hkn
    obtain ⟨ka, ko, rfl, ek⟩ := HKA.out k hkk
    have hka : ka < V.heap.size := World.block_lt_of_cell? V _ ek
    have ek' : wr.cell? ⟨ka, ko + k, none⟩ = some (.bool (ks[k]'hkk)) := (World.cell?_of_block (HI.out.1.block ka hka)).trans ek
    have hgd : ks.getD k false = ks[k]'hkk := by rw [List.getD_eq_getElem?_getD, List.getElem?_eq_getElem hkk]; rfl
    obtain ⟨bb, hbb⟩ : ∃ b, ks[k]'hkk = b := ⟨_, rfl⟩
    rw [hbb] at ek' hgd
    have hkn1 : (k : Int) < (nk : Int) := by omega
    cases bb with
    | false =>
      have HN := Asd.mk (show CR V S g cap nl (.slice (some ⟨gw, 0, none⟩) nw cw) (fun j => ks.getD j false) (k + 1) wr from ⟨HI.out.1, HI.out.2.1, HI.out.2.2.1, by rw [hkt]; simp only [hgd, Bool.false_eq_true, if_false, List.append_nil]; exact HI.out.2.2.2⟩)
      clear hkt hgd hbb e1 e2 e1' e2' hx HI z2 z4 ek
      go_wp2
      go_roundw
      case rel => exact ⟨k + 1, by go_num, by omega, HN⟩
      case measure => simp [intOf]; omega
    | true =>
      have hx1 : x.1 < nl := by rw [← NL.out]; exact HG.out.2.1 x (by rw [← hx]; exact List.getElem_mem _)
      have hx2 : (x.1 : Int) < (nl : Int) := by omega
      have hgV := HG.out.2.2
      have hst := HI.out.2.2.2.stored x.1 (.string x.2)
      have HN := Asd.mk (show CR V S g cap nl (.slice (some ⟨gw, 0, none⟩) nw cw) (fun j => ks.getD j false) (k + 1) ((wr.drew).setCell ⟨g, x.1, none⟩ (.string x.2)) from
        ⟨(HI.out.1.drew).setCell (p := ⟨g, x.1, none⟩) (by show V.heap.size ≤ g; omega) _, (set_other _ _ _ _ (by show V.heap.size ≠ g; omega)).trans HI.out.2.1, (set_other _ _ _ _ (by show V.heap.size + 1 ≠ g; omega)).trans HI.out.2.2.1, by
          rw [hkt]
          simp only [hgd, if_true]
          rw [hx, applyW_snoc, ← strs_set]
          exact (show (wr.drew).ownsRow V.heap.size 9 1 (.slice (some ⟨g, 0, none⟩) nl cap) nl (strs (applyW S.lasts (keptW (fun j => ks.getD j false) 0 (S.waits.take k)))) from HI.out.2.2.2).stored x.1 (.string x.2) |>.1⟩)
      have hlen : (applyW S.lasts (keptW (fun j => ks.getD j false) 0 (S.waits.take k))).length = nl := by rw [applyW_len]; exact NL.out
      have cg : wr.cell? ⟨g, x.1, none⟩ = some (.string ((applyW S.lasts (keptW (fun j => ks.getD j false) 0 (S.waits.take k)))[x.1]'(by rw [hlen]; exact hx1))) := by
        have hc := HI.out.2.2.2.cells (g := g) rfl x.1 _ (strs_get _ x.1 (by rw [hlen]; exact hx1))
        rwa [Seg.addr_add, Nat.zero_add] at hc
      obtain ⟨oldv, hov⟩ : ∃ v, (applyW S.lasts (keptW (fun j => ks.getD j false) 0 (S.waits.take k)))[x.1]'(by rw [hlen]; exact hx1) = v := ⟨_, rfl⟩
      rw [hov] at cg
      have fg : wr.frozen? ⟨g, x.1, none⟩ = false := HI.out.2.2.2.frozenAt x.1
      have Z2 := Asd.mk z2
      have hne1 : gw ≠ g := by omega
      clear hkt hgd hbb e1 e2 hx z4 ek hst hlen hov
      go_wp2_with fail
      refine wp_region_held_drew (S := fun w' => w'.heap[V.heap.size]? = some (.cells (mvV (.slice (some ⟨g, 0, none⟩) nl cap) (.slice (some ⟨gw, 0, none⟩) nw cw) S) 31 (0, 0)) ∧ w'.cell? ⟨gw, k * 2, none⟩ = some (.int .i64 (x.1 : Nat)) ∧ w'.cell? ⟨gw, k * 2 + 1, none⟩ = some (.string x.2)) (by kernel_rfl) ⟨Z2.out, e1', e2'⟩ (fun hH => ?_)
      refine take_at (i := 0) (some 28) (.pointer (some ⟨V.heap.size, 0, none⟩)) rfl rfl (by kernel_rfl) (by kernel_rfl) (by kernel_rfl) (fun _ _ _ h => h) (Or.inl ⟨by rfl, fun w' hSw => by go_simp⟩) hH ?_
      try simp only [Act.put, List.setIfInBounds_toArray, List.set_cons_zero, List.set_cons_succ]
      refine take_at (i := 1) (some 29) (.slice (some ⟨g, 0, none⟩) nl cap) rfl rfl (by kernel_rfl) (by kernel_rfl) (by kernel_rfl) (fun _ _ _ h => h) (Or.inl ⟨by rfl, fun w' hSw => by have e2 := (show w'.cell? ⟨V.heap.size, 0, none⟩ = some (.slice (some ⟨g, 0, none⟩) nl cap) from cell_of_row w' V.heap.size 0 _ _ _ hSw.1); go_simp⟩) hH ?_
      try simp only [Act.put, List.setIfInBounds_toArray, List.set_cons_zero, List.set_cons_succ]
      refine take_at (i := 2) (some 30) (.pointer (some ⟨V.heap.size, 1, none⟩)) rfl rfl (by kernel_rfl) (by kernel_rfl) (by kernel_rfl) (fun _ _ _ h => h) (Or.inl ⟨by rfl, fun w' hSw => by go_simp⟩) hH ?_
      try simp only [Act.put, List.setIfInBounds_toArray, List.set_cons_zero, List.set_cons_succ]
      refine take_at (i := 3) (some 31) (.slice (some ⟨gw, 0, none⟩) nw cw) rfl rfl (by kernel_rfl) (by kernel_rfl) (by kernel_rfl) (fun _ _ _ h => h) (Or.inl ⟨by rfl, fun w' hSw => by have e2 := (show w'.cell? ⟨V.heap.size, 1, none⟩ = some (.slice (some ⟨gw, 0, none⟩) nw cw) from cell_of_row w' V.heap.size 1 _ _ _ hSw.1); go_simp⟩) hH ?_
      try simp only [Act.put, List.setIfInBounds_toArray, List.set_cons_zero, List.set_cons_succ]
      refine take_at (i := 4) (some 32) (.int .i64 (k : Nat)) rfl rfl (by kernel_rfl) (by kernel_rfl) (by kernel_rfl) (fun _ _ _ h => h) (Or.inl ⟨by rfl, fun w' hSw => by go_simp⟩) hH ?_
      try simp only [Act.put, List.setIfInBounds_toArray, List.set_cons_zero, List.set_cons_succ]
      refine take_at (i := 5) (some 33) (.pointer (some ⟨gw, k * 2, none⟩)) rfl rfl (by kernel_rfl) (by kernel_rfl) (by kernel_rfl) (fun _ _ _ h => h) (Or.inl ⟨by rfl, fun w' hSw => by go_simp⟩) hH ?_
      try simp only [Act.put, List.setIfInBounds_toArray, List.set_cons_zero, List.set_cons_succ]
      refine take_at (i := 6) (some 34) (.pointer (some ⟨gw, k * 2, none⟩)) rfl rfl (by kernel_rfl) (by kernel_rfl) (by kernel_rfl) (fun _ _ _ h => h) (Or.inl ⟨by rfl, fun w' hSw => by go_simp⟩) hH ?_
      try simp only [Act.put, List.setIfInBounds_toArray, List.set_cons_zero, List.set_cons_succ]
      refine take_at (i := 7) (some 35) (.int .i64 (x.1 : Nat)) rfl rfl (by kernel_rfl) (by kernel_rfl) (by kernel_rfl) (fun _ _ _ h => h) (Or.inl ⟨by rfl, fun w' hSw => by have e2 := hSw.2.1; go_simp⟩) hH ?_
      try simp only [Act.put, List.setIfInBounds_toArray, List.set_cons_zero, List.set_cons_succ]
      refine take_at (i := 8) (some 36) (.pointer (some ⟨V.heap.size, 1, none⟩)) rfl rfl (by kernel_rfl) (by kernel_rfl) (by kernel_rfl) (fun _ _ _ h => h) (Or.inl ⟨by rfl, fun w' hSw => by go_simp⟩) hH ?_
      try simp only [Act.put, List.setIfInBounds_toArray, List.set_cons_zero, List.set_cons_succ]
      refine take_at (i := 9) (some 37) (.slice (some ⟨gw, 0, none⟩) nw cw) rfl rfl (by kernel_rfl) (by kernel_rfl) (by kernel_rfl) (fun _ _ _ h => h) (Or.inl ⟨by rfl, fun w' hSw => by have e2 := (show w'.cell? ⟨V.heap.size, 1, none⟩ = some (.slice (some ⟨gw, 0, none⟩) nw cw) from cell_of_row w' V.heap.size 1 _ _ _ hSw.1); go_simp⟩) hH ?_
      try simp only [Act.put, List.setIfInBounds_toArray, List.set_cons_zero, List.set_cons_succ]
      refine take_at (i := 10) (some 38) (.int .i64 (k : Nat)) rfl rfl (by kernel_rfl) (by kernel_rfl) (by kernel_rfl) (fun _ _ _ h => h) (Or.inl ⟨by rfl, fun w' hSw => by go_simp⟩) hH ?_
      try simp only [Act.put, List.setIfInBounds_toArray, List.set_cons_zero, List.set_cons_succ]
      refine take_at (i := 11) (some 39) (.pointer (some ⟨gw, k * 2, none⟩)) rfl rfl (by kernel_rfl) (by kernel_rfl) (by kernel_rfl) (fun _ _ _ h => h) (Or.inl ⟨by rfl, fun w' hSw => by go_simp⟩) hH ?_
      try simp only [Act.put, List.setIfInBounds_toArray, List.set_cons_zero, List.set_cons_succ]
      refine take_at (i := 12) (some 40) (.pointer (some ⟨gw, k * 2 + 1, none⟩)) rfl rfl (by kernel_rfl) (by kernel_rfl) (by kernel_rfl) (fun _ _ _ h => h) (Or.inl ⟨by rfl, fun w' hSw => by go_simp⟩) hH ?_
      try simp only [Act.put, List.setIfInBounds_toArray, List.set_cons_zero, List.set_cons_succ]
      refine take_at (i := 13) (some 41) (.string x.2) rfl rfl (by kernel_rfl) (by kernel_rfl) (by kernel_rfl) (fun _ _ _ h => h) (Or.inl ⟨by rfl, fun w' hSw => by have e2 := hSw.2.2; go_simp⟩) hH ?_
      try simp only [Act.put, List.setIfInBounds_toArray, List.set_cons_zero, List.set_cons_succ]
      refine take_at (i := 14) (some 42) (.pointer (some ⟨g, x.1, none⟩)) rfl rfl (by kernel_rfl) (by kernel_rfl) (by kernel_rfl) (fun _ _ _ h => h) (Or.inl ⟨by rfl, fun w' hSw => by go_simp⟩) hH ?_
      try simp only [Act.put, List.setIfInBounds_toArray, List.set_cons_zero, List.set_cons_succ]
      refine wpAnyH_ready (rs := [15]) (by kernel_rfl) (by simp) (AllReadyH.cons rfl (fun K hK => ?_) AllReadyH.nil)
      go_simp
      refine hK.out _ _ ⟨(set_other _ _ _ _ (by show V.heap.size ≠ g; omega)).trans hH.1, (World.cell?_of_block (set_other _ _ _ _ (by show gw ≠ g; omega))).trans hH.2.1, (World.cell?_of_block (set_other _ _ _ _ (by show gw ≠ g; omega))).trans hH.2.2⟩ (fun hH => ?_)
      clear hK K hH
      refine wpAnyH_done (by kernel_rfl) ?_ _
      try simp only [Act.put, List.setIfInBounds_toArray, List.set_cons_zero, List.set_cons_succ]
      go_wp2
      go_roundw
      case rel => exact ⟨k + 1, by go_num, by omega, HN⟩
      case measure => simp [intOf]; omega
end Go.Proofs.Ytknbhgodhmcemaa.Dk
namespace Go.Proofs.Ytknbhgodhmcemaa.Dk
set_option linter.unusedSimpArgs false
set_option linter.unusedVariables false
set_option maxRecDepth 100000
open Go.RowKit Go.Proofs.Ytknbhgodhmcemaa.Own Go.Proofs.Ytknbhgodhmcemaa.Cel
set_option maxHeartbeats 8000000 in
theorem rrot_no {G : Nat → Prop} {lv wv : Value} {S : DS} {V : World} (h : RK G lv wv S V) (i j : Int) (x : Nat) (hl : S.lasts.length ≤ 100000) (hno : ¬ ((0 ≤ i ∧ i < (S.lasts.length : Int)) ∧ 0 ≤ j ∧ j < 128)) :
    Calls Try.prog 23 #[.agg (mvV lv wv S), .int .i64 i, .int .i64 j, .int .u8 (x : Nat)] V fun e V' => ∃ mv', e = .returned (.agg mv') ∧ Rid G mv' S V V' := by
  obtain ⟨Al, cl, rfl, hlc⟩ := h.lcell
  obtain ⟨nl, hnl⟩ : ∃ n, S.lasts.length = n := ⟨_, rfl⟩
  have hwo := owns_cell1 h.2.1
  have hb := ((Below.refl V.heap.size V).alloc (Nat.le_refl _) (.cells (mvV (.slice Al S.lasts.length cl) wv S) 31)).alloc (by simp) (.cells zM 31)
  have z3 : ((V.alloc (.cells (mvV (.slice Al S.lasts.length cl) wv S) 31)).alloc (.cells zM 31)).heap[V.heap.size]? = some (.cells (mvV (.slice Al S.lasts.length cl) wv S) 31 (0, 0)) := Own.keep (heap_alloc_new V _) ((Below.refl _ _).alloc (Nat.le_refl _) _)
  have z6 : ((V.alloc (.cells (mvV (.slice Al S.lasts.length cl) wv S) 31)).alloc (.cells zM 31)).heap[V.heap.size + 1]? = some (.cells zM 31 (0, 0)) := by
    have := heap_alloc_new (V.alloc (.cells (mvV (.slice Al S.lasts.length cl) wv S) 31)) (.cells zM 31)
    simpa using this
  have k0 : ((V.alloc (.cells (mvV (.slice Al S.lasts.length cl) wv S) 31)).alloc (.cells zM 31)).cell? ⟨V.heap.size, 0, none⟩ = some (.slice Al S.lasts.length cl) := cell_of_row _ _ 0 _ _ _ z3
  have iM := infoMS (.slice Al S.lasts.length cl) wv S
  have oM := mvV_one (.slice Al S.lasts.length cl) wv S rfl hwo
  have QUIT := Asd.mk (show ∀ (cs : Array Value), Rid G (mvV (.slice Al S.lasts.length cl) wv S) S V (((V.alloc (.cells (mvV (.slice Al S.lasts.length cl) wv S) 31)).alloc (.cells zM 31)).setRow (V.heap.size + 1) cs) from fun cs =>
    ⟨G, ⟨_, _, rfl, h.below (below_setRow hb (by omega) cs)⟩, below_setRow hb (by omega) cs, fun k hk => .inl hk⟩)
  rw [hnl] at hl iM oM z3 z6 k0 QUIT hno ⊢
  clear h hlc hb hnl hwo
  by_cases a1 : i < 0
  · have t0 : decide (i < 0) = true := decide_eq_true a1
    clear hno a1
    go_enter Try.func23, Try.ntmps23
    go_wp2_with (first | refine wpList_load_row rfl 31 _ rfl V.heap.size rfl 31 _ (0, 0) _ z3 Try.underlying31 rfl iM ?_ | refine wpList_store_row rfl 31 _ _ rfl (V.heap.size + 1) (mvV (.slice Al nl cl) wv S) rfl rfl 31 _ z6 iM rfl oM ?_ | fail)
    exact bodyPost_ret (end_cell0 rfl _ _ _ _ _ z6 rfl Try.underlying31 rfl iM) rfl ⟨_, rfl, QUIT.out _⟩
  have t0 : decide (i < 0) = false := decide_eq_false a1
  by_cases a2 : (nl : Int) ≤ i
  · have t1 : decide ((nl : Int) ≤ i) = true := decide_eq_true a2
    clear hno a1 a2
    go_enter Try.func23, Try.ntmps23
    go_wp2_with (first | refine wpList_load_row rfl 31 _ rfl V.heap.size rfl 31 _ (0, 0) _ z3 Try.underlying31 rfl iM ?_ | refine wpList_store_row rfl 31 _ _ rfl (V.heap.size + 1) (mvV (.slice Al nl cl) wv S) rfl rfl 31 _ z6 iM rfl oM ?_ | fail)
    exact bodyPost_ret (end_cell0 rfl _ _ _ _ _ z6 rfl Try.underlying31 rfl iM) rfl ⟨_, rfl, QUIT.out _⟩
  have t1 : decide ((nl : Int) ≤ i) = false := decide_eq_false a2
  by_cases a3 : j < 0
  · have t2 : decide (j < 0) = true := decide_eq_true a3
    clear hno a1 a2 a3
    go_enter Try.func23, Try.ntmps23
    go_wp2_with (first | refine wpList_load_row rfl 31 _ rfl V.heap.size rfl 31 _ (0, 0) _ z3 Try.underlying31 rfl iM ?_ | refine wpList_store_row rfl 31 _ _ rfl (V.heap.size + 1) (mvV (.slice Al nl cl) wv S) rfl rfl 31 _ z6 iM rfl oM ?_ | fail)
    exact bodyPost_ret (end_cell0 rfl _ _ _ _ _ z6 rfl Try.underlying31 rfl iM) rfl ⟨_, rfl, QUIT.out _⟩
  have t2 : decide (j < 0) = false := decide_eq_false a3
  have t3 : decide (128 ≤ j) = true := decide_eq_true (by omega)
  clear hno a1 a2 a3
  go_enter Try.func23, Try.ntmps23
  go_wp2_with (first | refine wpList_load_row rfl 31 _ rfl V.heap.size rfl 31 _ (0, 0) _ z3 Try.underlying31 rfl iM ?_ | refine wpList_store_row rfl 31 _ _ rfl (V.heap.size + 1) (mvV (.slice Al nl cl) wv S) rfl rfl 31 _ z6 iM rfl oM ?_ | fail)
  exact bodyPost_ret (end_cell0 rfl _ _ _ _ _ z6 rfl Try.underlying31 rfl iM) rfl ⟨_, rfl, QUIT.out _⟩
theorem SR.keep {W W' : World} {b : Nat} {l : List UInt8} (h : SR W b l) (e : W'.heap[b]? = W.heap[b]?) : SR W' b l := by
  obtain ⟨cur, lo, hi, h1, h2, h3⟩ := h
  exact ⟨cur, lo, hi, e.trans h1, h2, h3⟩
set_option maxHeartbeats 8000000 in
theorem rrot_yes {G : Nat → Prop} {lv wv : Value} {S : DS} {V : World} (h : RK G lv wv S V) (q a x : Nat) (hl : S.lasts.length ≤ 100000) (hq : q < S.lasts.length) (ha : a < 128) (hx : x < 256) (hsz : ∀ s ∈ S.lasts, s.size = 128) :
    Calls Try.prog 23 #[.agg (mvV lv wv S), .int .i64 (q : Nat), .int .i64 (a : Nat), .int .u8 (x : Nat)] V fun e V' => ∃ mv', e = .returned (.agg mv') ∧ Rid G mv' { S with lasts := S.lasts.set q (turnS (S.lasts.getD q ByteArray.empty) a x) } V V' := by
  obtain ⟨Al, cl, rfl, hlc⟩ := h.lcell
  obtain ⟨nl, hnl⟩ : ∃ n, S.lasts.length = n := ⟨_, rfl⟩
  have hwo := owns_cell1 h.2.1
  obtain ⟨gl, rfl, hc0⟩ := hlc q hq
  obtain ⟨s, hs⟩ : ∃ s, S.lasts[q]'hq = s := ⟨_, rfl⟩
  have hgd : S.lasts.getD q ByteArray.empty = s := by rw [List.getD_eq_getElem?_getD, List.getElem?_eq_getElem hq, hs]; rfl
  have hs128 : s.size = 128 := hsz s (by rw [← hs]; exact List.getElem_mem _)
  rw [hs] at hc0
  rw [hgd]
  have hb := ((Below.refl V.heap.size V).alloc (Nat.le_refl _) (.cells (mvV (.slice (some ⟨gl, 0, none⟩) S.lasts.length cl) wv S) 31)).alloc (by simp) (.cells zM 31)
  have z4 : ((V.alloc (.cells (mvV (.slice (some ⟨gl, 0, none⟩) S.lasts.length cl) wv S) 31)).alloc (.cells zM 31)).heap[V.heap.size]? = some (.cells (mvV (.slice (some ⟨gl, 0, none⟩) S.lasts.length cl) wv S) 31 (0, 0)) := Own.keep (heap_alloc_new V _) ((Below.refl _ _).alloc (Nat.le_refl _) _)
  have z8 : ((V.alloc (.cells (mvV (.slice (some ⟨gl, 0, none⟩) S.lasts.length cl) wv S) 31)).alloc (.cells zM 31)).heap[V.heap.size + 1]? = some (.cells zM 31 (0, 0)) := by
    have := heap_alloc_new (V.alloc (.cells (mvV (.slice (some ⟨gl, 0, none⟩) S.lasts.length cl) wv S) 31)) (.cells zM 31)
    simpa using this
  obtain ⟨W0, hW0⟩ : ∃ W0, (V.alloc (.cells (mvV (.slice (some ⟨gl, 0, none⟩) S.lasts.length cl) wv S) 31)).alloc (.cells zM 31) = W0 := ⟨_, rfl⟩
  rw [hW0] at hb z4 z8
  have hs0 : W0.heap.size = V.heap.size + 1 + 1 := by rw [← hW0]; simp
  have kq : W0.cell? ⟨gl, q, none⟩ = some (.string s) := (World.cell?_of_block (hb.block gl (World.block_lt_of_cell? V _ hc0))).trans hc0
  have k40 : W0.cell? ⟨V.heap.size, 0, none⟩ = some (.slice (some ⟨gl, 0, none⟩) S.lasts.length cl) := cell_of_row _ _ 0 _ _ _ z4
  obtain ⟨W1, cp, hcv, hb1, hsr⟩ := str_row s W0
  have hll : s.data.toList.length = s.size := by rw [Array.length_toList]; rfl
  have hcl := hsr.cell a (by rw [hll, hs128]; exact ha)
  have hfz := hsr.frozen a (by rw [hll, hs128]; exact ha)
  obtain ⟨y, hy⟩ : ∃ y, (s.data.toList.getD a 0).toNat = y := ⟨_, rfl⟩
  have hy8 : y < 256 := by rw [← hy]; exact (s.data.toList.getD a 0).toNat_lt
  have hxor := u8_xor_nat y x hy8 hx
  have hxl : y ^^^ x < 256 := Nat.xor_lt_two_pow (n := 8) hy8 hx
  have hv : (UInt8.ofNat (y ^^^ x)).toNat = y ^^^ x := by rw [UInt8.toNat_ofNat']; exact Nat.mod_eq_of_lt hxl
  have hput := hsr.put a (UInt8.ofNat (y ^^^ x))
  rw [hv] at hput
  have hz : (⟨(s.data.toList.set a (UInt8.ofNat (y ^^^ x))).toArray⟩ : ByteArray) = turnS s a x := by rw [turnS, hy]
  rw [hy] at hcl
  obtain ⟨zz, hzz⟩ : ∃ z, y ^^^ x = z := ⟨_, rfl⟩
  rw [hzz] at hxor hput hz
  rw [hs0] at hcv hcl hfz hput
  have bS := hb1.setCell (p := ⟨V.heap.size + 1 + 1, a, none⟩) (by show W0.heap.size ≤ V.heap.size + 1 + 1; omega) (.int .u8 (zz : Nat))
  obtain ⟨W2, hW2⟩ : ∃ W2, W1.setCell ⟨V.heap.size + 1 + 1, a, none⟩ (.int .u8 (zz : Nat)) = W2 := ⟨_, rfl⟩
  rw [hW2] at bS hput
  have bA := bS.alloc bS.size (.cells #[] 9)
  have own6 : (W2.alloc (.cells #[] 9)).ownsRow V.heap.size 9 1 (.slice (some ⟨W2.heap.size, 0, none⟩) 0 0) 0 [] :=
    ⟨rfl, .inr ⟨W2.heap.size, 0, #[], rfl, by have := bS.size; omega, heap_alloc_new W2 _, Nat.le_refl _, by decide, rfl, rfl⟩⟩
  obtain ⟨g, cap, V1, hr, ho, hg, hf⟩ := sapp (W2.alloc (.cells #[] 9)) V.heap.size _ 0 [] own6 (by have := bA.size; omega) _ S.lasts (owns_keep h.1 (hb.trans (bA.mono hb.size))) (by omega) (by omega)
  have hsr2 : W2.heap.size < (W2.alloc (.cells #[] 9)).heap.size := by simp
  have hb9 : V.heap.size + 1 + 1 < W2.heap.size := by
    obtain ⟨cur, lo, hi, e, _⟩ := hput
    exact (Array.getElem?_eq_some_iff.1 e).1
  have bB := bA.grown hg (by have := bA.size; omega) (fun p e => by simp [Value.ownBlock] at e; omega)
  have hgV : W2.heap.size ≤ g := by
    rcases hf with e | e
    · simp [Value.ownBlock] at e; omega
    · omega
  rw [Nat.zero_add, List.nil_append] at ho
  rw [Nat.zero_add] at hr
  have z4b := (bB.block V.heap.size (by omega)).trans z4
  have z8b := (bB.block (V.heap.size + 1) (by omega)).trans z8
  have kA : (W2.alloc (.cells #[] 9)).cell? ⟨V.heap.size, 0, none⟩ = some (.slice (some ⟨gl, 0, none⟩) S.lasts.length cl) := cell_of_row _ _ 0 _ _ _ ((bA.block V.heap.size (by omega)).trans z4)
  have kB : V1.cell? ⟨V.heap.size, 0, none⟩ = some (.slice (some ⟨gl, 0, none⟩) S.lasts.length cl) := cell_of_row _ _ 0 _ _ _ z4b
  have fB : V1.frozen? ⟨V.heap.size, 0, none⟩ = false := frozen_of_row _ _ 0 _ _ z4b
  have z4c := heap_setCell_same V1 V.heap.size 0 _ _ (.slice (some ⟨g, 0, none⟩) S.lasts.length cap) z4b
  have srV : SR V1 (V.heap.size + 1 + 1) (s.data.toList.set a (UInt8.ofNat zz)) := by
    refine hput.keep ((hg.block (V.heap.size + 1 + 1) (by omega) (fun e => ?_)).trans (Below.heap_alloc W2 _ _ hb9))
    simp [Value.ownBlock] at e; omega
  have hstr := (srV.keep (W' := V1.setCell ⟨V.heap.size, 0, none⟩ (.slice (some ⟨g, 0, none⟩) S.lasts.length cap)) (set_other _ _ _ _ (by show V.heap.size + 1 + 1 ≠ V.heap.size; omega))).string (c := cp)
  rw [hz, List.length_set, hll, hs128] at hstr
  have hoW : (V1.setCell ⟨V.heap.size, 0, none⟩ (.slice (some ⟨g, 0, none⟩) S.lasts.length cap)).ownsRow V.heap.size 9 1 (.slice (some ⟨g, 0, none⟩) S.lasts.length cap) S.lasts.length (strs S.lasts) :=
    owns_block ho (fun k e => set_other _ _ _ _ (by simp [Value.ownBlock] at e; show k ≠ V.heap.size; omega))
  have kC : (V1.setCell ⟨V.heap.size, 0, none⟩ (.slice (some ⟨g, 0, none⟩) S.lasts.length cap)).cell? ⟨V.heap.size, 0, none⟩ = some (.slice (some ⟨g, 0, none⟩) S.lasts.length cap) := cell_of_row _ _ 0 _ _ _ z4c
  have cg : (V1.setCell ⟨V.heap.size, 0, none⟩ (.slice (some ⟨g, 0, none⟩) S.lasts.length cap)).cell? ⟨g, q, none⟩ = some (.string s) := by
    have hc := hoW.cells (g := g) rfl q _ (strs_get S.lasts q hq)
    rw [Seg.addr_add, Nat.zero_add, hs] at hc; exact hc
  have fg : (V1.setCell ⟨V.heap.size, 0, none⟩ (.slice (some ⟨g, 0, none⟩) S.lasts.length cap)).frozen? ⟨g, q, none⟩ = false := hoW.frozenAt q
  have ho5 := hoW.stored q (.string (turnS s a x))
  rw [strs_set] at ho5
  have hb9w : W1.heap.size = W2.heap.size := by rw [← hW2]; simp
  have z4d : ((V1.setCell ⟨V.heap.size, 0, none⟩ (.slice (some ⟨g, 0, none⟩) S.lasts.length cap)).setCell ⟨g, q, none⟩ (.string (turnS s a x))).heap[V.heap.size]? = some (.cells (mvV (.slice (some ⟨g, 0, none⟩) S.lasts.length cap) wv S) 31 (0, 0)) := (set_other _ _ _ _ (by show V.heap.size ≠ g; omega)).trans z4c
  have z8d : ((V1.setCell ⟨V.heap.size, 0, none⟩ (.slice (some ⟨g, 0, none⟩) S.lasts.length cap)).setCell ⟨g, q, none⟩ (.string (turnS s a x))).heap[V.heap.size + 1]? = some (.cells zM 31 (0, 0)) := (set_other _ _ _ _ (by show V.heap.size + 1 ≠ g; omega)).trans ((set_other _ _ _ _ (by show V.heap.size + 1 ≠ V.heap.size; omega)).trans z8b)
  have i2 := infoMS (.slice (some ⟨g, 0, none⟩) S.lasts.length cap) wv S
  have o2 := mvV_one (.slice (some ⟨g, 0, none⟩) S.lasts.length cap) wv S rfl hwo
  have HBE := Asd.mk (((hb.trans (bB.mono hb.size)).setCell (p := ⟨V.heap.size, 0, none⟩) (Nat.le_refl _) (.slice (some ⟨g, 0, none⟩) S.lasts.length cap)).setCell (p := ⟨g, q, none⟩) (by show V.heap.size ≤ g; omega) (.string (turnS s a x)))
  have HO5 := Asd.mk (And.intro ho5.1 (show V.heap.size + 1 < g by omega))
  have HRK := Asd.mk h
  obtain ⟨T, hT⟩ : ∃ T, turnS s a x = T := ⟨_, rfl⟩
  rw [hT] at HBE HO5 z4d z8d hstr ⊢
  subst hW2
  subst hW0
  rw [hs128] at hcv
  rw [← hb9w] at hr
  have R1 := Asd.mk hr
  rw [hnl] at hl hq z4 kq k40 kA kB z4d z8d i2 o2 kC cg fg hstr HBE HO5 R1 hcv ⊢
  have NL := Asd.mk hnl
  have hq1 : (q : Int) < (nl : Int) := by omega
  have ha1 : (a : Int) < 128 := by omega
  have q0 : decide ((q : Int) < 0) = false := decide_eq_false (by omega)
  have q1 : decide ((nl : Int) ≤ (q : Int)) = false := decide_eq_false (by omega)
  have q1' : decide (nl ≤ q) = false := decide_eq_false (by omega)
  have q2 : decide ((a : Int) < 0) = false := decide_eq_false (by omega)
  have q3 : decide (128 ≤ (a : Int)) = false := decide_eq_false (by omega)
  have q3' : decide (128 ≤ a) = false := decide_eq_false (by omega)
  clear h hwo hc0 hs hgd hs128 hb z8 hs0 hb1 hsr hll hy hy8 hxl hv hput hz hzz bS bA own6 hr ho hg hf hsr2 hb9 bB hgV z4b z8b z4c srV hoW ho5 hT hnl hlc hsz hb9w
  go_enter Try.func23, Try.ntmps23
  go_wp2_with (first | refine append_known rfl _ _ 28 rfl _ _ rfl rfl R1.out ?_ | refine wpList_load_row rfl 31 _ rfl V.heap.size rfl 31 _ (0, 0) _ z4d Try.underlying31 rfl i2 ?_ | refine wpList_store_row rfl 31 _ _ rfl (V.heap.size + 1) (mvV (.slice (some ⟨g, 0, none⟩) nl cap) wv S) rfl rfl 31 _ z8d i2 rfl o2 ?_ | fail)
  have hgV := HO5.out.2
  have bE := below_setRow HBE.out (g := V.heap.size + 1) (by omega) (mvV (.slice (some ⟨g, 0, none⟩) nl cap) wv S)
  refine bodyPost_ret (end_cell0 rfl _ _ _ _ _ z8d rfl Try.underlying31 rfl i2) rfl ⟨_, rfl, (fun k => k = g ∨ G k), ⟨.slice (some ⟨g, 0, none⟩) nl cap, wv, rfl, ?_, owns_keep HRK.out.2.1 bE, fun k hk => ?_, HRK.out.2.2.2⟩, bE, fun k hk => hk.elim (fun e => .inr (by omega)) .inl⟩
  · show World.ownsRow _ 0 9 1 (.slice (some ⟨g, 0, none⟩) nl cap) (S.lasts.set q T).length (strs (S.lasts.set q T))
    rw [List.length_set, NL.out]
    refine owns_mono (owns_block HO5.out.1 (fun k e => ?_)) (Nat.zero_le _)
    simp [Value.ownBlock] at e
    rw [setRow_other _ _ _ _ (by omega)]
  · rcases hk with e | e
    · simp [Value.ownBlock] at e; exact .inl e.symm
    · exact .inr (HRK.out.2.2.1 k (.inr e))
theorem rrot_calls {G : Nat → Prop} {lv wv : Value} {S : DS} {V : World} (h : RK G lv wv S V) (i j : Int) (x : Nat) (hl : S.lasts.length ≤ 100000) (hx : x < 256) (hsz : ∀ s ∈ S.lasts, s.size = 128) :
    Calls Try.prog 23 #[.agg (mvV lv wv S), .int .i64 i, .int .i64 j, .int .u8 (x : Nat)] V fun e V' => ∃ mv', e = .returned (.agg mv') ∧ Rid G mv' (S.rot i j x) V V' := by
  by_cases c : (0 ≤ i ∧ i < (S.lasts.length : Int)) ∧ 0 ≤ j ∧ j < 128
  · obtain ⟨q, rfl⟩ := Int.eq_ofNat_of_zero_le c.1.1
    obtain ⟨a, rfl⟩ := Int.eq_ofNat_of_zero_le c.2.1
    have e : S.rot (q : Int) (a : Int) x = { S with lasts := S.lasts.set q (turnS (S.lasts.getD q ByteArray.empty) a x) } := by unfold DS.rot; rw [if_pos c, Int.toNat_natCast, Int.toNat_natCast]
    rw [e]
    exact rrot_yes h q a x hl (by omega) (by omega) hx hsz
  · have e : S.rot i j x = S := by unfold DS.rot; rw [if_neg c]
    rw [e]
    exact rrot_no h i j x hl c
end Go.Proofs.Ytknbhgodhmcemaa.Dk
namespace Go.Proofs.Ytknbhgodhmcemaa.Dk
set_option linter.unusedSimpArgs false
set_option linter.unusedVariables false
set_option maxRecDepth 100000
open Go.RowKit Go.Proofs.Ytknbhgodhmcemaa.Own Go.Proofs.Ytknbhgodhmcemaa.Cel
theorem infoBl : (Try.prog.info? 4).map (fun i => (i.zero, i.size, i.bytes)) = some (some (.bool false), 1, 1) := by kernel_rfl
def bls (l : List Bool) : List Value := l.map .bool
theorem makeBl (V : World) (n : Nat) (hn : n ≤ 1000000) : ∃ V', (Instr.makeSlice 33 (.int .i64 (n : Nat)) (.int .i64 (n : Nat))).run Try.prog V = .ok (.slice (some ⟨V.heap.size, 0, none⟩) n n) V' ∧ Below V.heap.size V V' ∧ V'.ownsRow V.heap.size 4 1 (.slice (some ⟨V.heap.size, 0, none⟩) n n) n (bls (List.replicate n false)) := by
  obtain ⟨i0, hi, hz0, hz1, hz2⟩ := info_parts infoBl
  obtain ⟨w1, hm, ho, hg⟩ := run_makeSlice_full (P := Try.prog) V V.heap.size 33 4 i0 (.bool false) 1 Try.underlying33 hi hz0 hz1 .i64 .i64 n (by omega) (by rw [hz2]; omega) (by unfold maxLen; omega) (Nat.le_refl _)
  refine ⟨w1, hm, (Below.refl _ _).grown hg (Nat.le_refl _) (fun k h => by cases h), ?_⟩
  have e : (madeCells (Value.bool false).cells (n * 1)).toList = bls (List.replicate n false) := by
    rw [show (madeCells (Value.bool false).cells (n * 1)).toList = List.replicate (n * 1) (.bool false) from toList_madeCells_one _ _, Nat.mul_one, bls, List.map_replicate]
  rw [← e]; exact ho
theorem bls_set (l : List Bool) (j : Nat) (b : Bool) : (bls l).set j (.bool b) = bls (l.set j b) := by rw [bls, bls, List.map_set]
theorem half_set (n j : Nat) (hj : j < n) : (List.replicate j true ++ List.replicate (n - j) false).set j true = List.replicate (j + 1) true ++ List.replicate (n - (j + 1)) false := by
  rw [List.set_append_right _ _ (by simp), List.length_replicate, Nat.sub_self]
  obtain ⟨m, hm⟩ : ∃ m, n - j = m + 1 := ⟨n - j - 1, by omega⟩
  rw [hm, List.replicate_succ, List.set_cons_zero, List.replicate_succ', List.append_assoc, show n - (j + 1) = m by omega]
  rfl
theorem crash_all (S : DS) : S.crash (fun j => (List.replicate S.waits.length true).getD j false) = S.crash (fun _ => true) := by
  unfold DS.crash
  rw [keptW_all _ _ _ (fun j _ h2 => by rw [List.getD_eq_getElem?_getD, List.getElem?_replicate, if_pos (by omega)]; rfl), keptW_all _ _ _ (fun _ _ _ => rfl)]
end Go.Proofs.Ytknbhgodhmcemaa.Dk
namespace Go.Proofs.Ytknbhgodhmcemaa.Dk
set_option linter.unusedSimpArgs false
set_option linter.unusedVariables false
set_option maxRecDepth 100000
open Go.RowKit Go.Proofs.Ytknbhgodhmcemaa.Own Go.Proofs.Ytknbhgodhmcemaa.Cel
theorem sync_bad {S : DS} (h : S.fails.2 = true) : S.sync = (S.fails.1, 7) := by unfold DS.sync; rw [if_pos h]
theorem sync_ok {S : DS} (h : S.fails.2 = false) : S.sync = ({ S.fails.1.crash (fun _ => true) with ops := S.ops + 1 }, 0) := by unfold DS.sync; rw [if_neg (by rw [h]; decide)]
set_option maxHeartbeats 8000000 in
theorem rsync_bad {G : Nat → Prop} {lv wv : Value} {S : DS} {V : World} (h : RK G lv wv S V) (hw : S.waits.length ≤ 1000000) (ha : S.armed ≤ 9223372036854775807) (hbad : S.fails.2 = true) :
    Calls Try.prog 19 #[.agg (mvV lv wv S)] V fun e V' => ∃ mv', e = .returned (.tuple #[.agg mv', .int .i64 (S.sync).2]) ∧ Rid G mv' (S.sync).1 V V' := by
  have hlo := owns_cell1 h.1
  have hwo := owns_cell1 h.2.1
  rw [sync_bad hbad]
  have hb := ((Below.refl V.heap.size V).alloc (Nat.le_refl _) (.cells (mvV lv wv S) 31)).alloc (by simp) (.cells zM 31)
  have z3 : ((V.alloc (.cells (mvV lv wv S) 31)).alloc (.cells zM 31)).heap[V.heap.size]? = some (.cells (mvV lv wv S) 31 (0, 0)) := Own.keep (heap_alloc_new V _) ((Below.refl _ _).alloc (Nat.le_refl _) _)
  have z6 : ((V.alloc (.cells (mvV lv wv S) 31)).alloc (.cells zM 31)).heap[V.heap.size + 1]? = some (.cells zM 31 (0, 0)) := by
    have := heap_alloc_new (V.alloc (.cells (mvV lv wv S) 31)) (.cells zM 31)
    simpa using this
  have KC := Asd.mk (count_calls lv wv S ((V.alloc (.cells (mvV lv wv S) 31)).alloc (.cells zM 31)) ha hlo hwo)
  have iM := infoMS lv wv S
  have HB := Asd.mk hb
  have HRK := Asd.mk h.failed
  rw [hbad] at KC
  obtain ⟨S1, hS1⟩ : ∃ S1, S.fails.1 = S1 := ⟨_, rfl⟩
  rw [hS1] at KC HRK ⊢
  have Z := Asd.mk (And.intro z3 z6)
  have i1 := infoMS lv wv S1
  have o1 := mvV_one lv wv S1 hlo hwo
  clear hS1 hbad hlo hwo h hb ha hw
  go_enter Try.func19, Try.ntmps19
  go_wp2_with (first | refine wpList_load_row rfl 31 _ rfl V.heap.size rfl 31 _ (0, 0) _ z3 Try.underlying31 rfl iM ?_ | fail)
  refine KC.out.mono ?_
  rintro e W1 ⟨rfl, hb1⟩
  have z3 := Own.keep Z.out.1 hb1
  have z6 := Own.keep Z.out.2 hb1
  have HB1 := Asd.mk (HB.out.trans (hb1.mono HB.out.size))
  have z3b := setRow_heap W1 V.heap.size _ (mvV lv wv S1) 31 (0, 0) z3
  have z6b : (W1.setRow V.heap.size (mvV lv wv S1)).heap[V.heap.size + 1]? = some (.cells zM 31 (0, 0)) := (setRow_other W1 V.heap.size (V.heap.size + 1) _ (by omega)).trans z6
  have HB2 := Asd.mk (below_setRow HB1.out (g := V.heap.size) (Nat.le_refl _) (mvV lv wv S1))
  clear KC hb1 Z
  go_wp2_with (first | refine wpList_store_row rfl 31 _ _ rfl V.heap.size (mvV lv wv S1) rfl rfl 31 _ z3 i1 rfl o1 ?_ | refine wpList_load_row rfl 31 _ rfl V.heap.size rfl 31 _ (0, 0) _ z3b Try.underlying31 rfl i1 ?_ | refine wpList_store_row rfl 31 _ _ rfl (V.heap.size + 1) (mvV lv wv S1) rfl rfl 31 _ z6b i1 rfl o1 ?_ | fail)
  refine bodyPost_ret (Cel.end_cell rfl _ _ _ _ _ z6b rfl Try.underlying31 rfl i1) rfl ⟨_, rfl, G, ⟨_, _, rfl, ?_⟩, ?_, fun k hk => .inl hk⟩
  · exact HRK.out.below (below_setRow HB2.out (by omega) _)
  · exact below_setRow HB2.out (by omega) _
theorem owns_lt {V : World} {B n : Nat} {e : TypeId} {sz : Nat} {v : Value} {xs : List Value} (h : V.ownsRow B e sz v n xs) (q : Nat) (hq : v.ownBlock = some q) : q < V.heap.size := by
  rcases h.2 with ⟨rfl, _⟩ | ⟨g, _, _, rfl, _, hg, _⟩
  · simp [Value.ownBlock] at hq
  · simp [Value.ownBlock] at hq
    subst hq
    exact (Array.getElem?_eq_some_iff.1 hg).1
theorem RK.tight {G : Nat → Prop} {lv wv : Value} {S : DS} {V : World} (h : RK G lv wv S V) : RK (fun q => G q ∧ q < V.heap.size) lv wv S V :=
  ⟨h.1, h.2.1, fun k hk => ⟨h.2.2.1 k hk, hk.elim (owns_lt h.1 k) (owns_lt h.2.1 k)⟩, h.2.2.2⟩
theorem RK.keep {G : Nat → Prop} {lv wv : Value} {S : DS} {V V' : World} (h : RK G lv wv S V) (hk : ∀ k, G k → V'.heap[k]? = V.heap[k]?) : RK G lv wv S V' :=
  ⟨owns_block h.1 (fun k e => hk k (h.2.2.1 k (.inl e))), owns_block h.2.1 (fun k e => hk k (h.2.2.1 k (.inr e))), h.2.2.1, h.2.2.2⟩
def SY (W2 : World) (nw k : Nat) (W : World) : Prop :=
  Below W2.heap.size W2 W ∧ W.ownsRow W2.heap.size 4 1 (.slice (some ⟨W2.heap.size, 0, none⟩) nw nw) nw (bls (List.replicate k true ++ List.replicate (nw - k) false))
set_option maxHeartbeats 8000000 in
theorem rsync_ok {G : Nat → Prop} {lv wv : Value} {S : DS} {V : World} (h : RK G lv wv S V) (hok : S.ok) (hl0 : 0 < S.lasts.length) (hl : S.lasts.length ≤ 100000) (hw : S.waits.length ≤ 1000000) (ha : S.armed ≤ 9223372036854775807) (ho0 : 0 ≤ S.ops) (ho : S.ops ≤ 4611686018427387904) (hbad : S.fails.2 = false) :
    Calls Try.prog 19 #[.agg (mvV lv wv S)] V fun e V' => ∃ mv', e = .returned (.tuple #[.agg mv', .int .i64 (S.sync).2]) ∧ Rid G mv' (S.sync).1 V V' := by
  have hlo := owns_cell1 h.1
  have hwo := owns_cell1 h.2.1
  obtain ⟨Aw, cw, rfl, hwc⟩ := h.wcell
  rw [sync_ok hbad]
  have hb := ((Below.refl V.heap.size V).alloc (Nat.le_refl _) (.cells (mvV lv (.slice Aw S.waits.length cw) S) 31)).alloc (by simp) (.cells zM 31)
  have z3 : ((V.alloc (.cells (mvV lv (.slice Aw S.waits.length cw) S) 31)).alloc (.cells zM 31)).heap[V.heap.size]? = some (.cells (mvV lv (.slice Aw S.waits.length cw) S) 31 (0, 0)) := Own.keep (heap_alloc_new V _) ((Below.refl _ _).alloc (Nat.le_refl _) _)
  have z6 : ((V.alloc (.cells (mvV lv (.slice Aw S.waits.length cw) S) 31)).alloc (.cells zM 31)).heap[V.heap.size + 1]? = some (.cells zM 31 (0, 0)) := by
    have := heap_alloc_new (V.alloc (.cells (mvV lv (.slice Aw S.waits.length cw) S) 31)) (.cells zM 31)
    simpa using this
  have KC := Asd.mk (count_calls lv (.slice Aw S.waits.length cw) S ((V.alloc (.cells (mvV lv (.slice Aw S.waits.length cw) S) 31)).alloc (.cells zM 31)) ha hlo hwo)
  have iM := infoMS lv (.slice Aw S.waits.length cw) S
  have HB := Asd.mk hb
  have HRK := Asd.mk h.failed.tight
  rw [hbad] at KC
  obtain ⟨S1, hS1⟩ : ∃ S1, S.fails.1 = S1 := ⟨_, rfl⟩
  have ew : S1.waits = S.waits := by rw [← hS1]; exact (fails_lasts S).2.1
  have el : S1.lasts = S.lasts := by rw [← hS1]; exact (fails_lasts S).1
  have eo : S1.ops = S.ops := by rw [← hS1]; exact (fails_lasts S).2.2
  rw [hS1] at KC HRK ⊢
  obtain ⟨nw, hnw⟩ : ∃ n, S.waits.length = n := ⟨_, rfl⟩
  have HOK := Asd.mk (show S1.ok from fun x hx => by rw [el]; exact hok x (by rw [← ew]; exact hx))
  have HL := Asd.mk (show 0 < S1.lasts.length ∧ S1.lasts.length ≤ 100000 ∧ S1.waits.length = nw from ⟨by rw [el]; exact hl0, by rw [el]; exact hl, by rw [ew]; exact hnw⟩)
  rw [hnw] at hw z3 z6 KC iM HB HRK ⊢
  have Z := Asd.mk (And.intro z3 z6)
  have i1 := infoMS lv (.slice Aw nw cw) S1
  have o1 := mvV_one lv (.slice Aw nw cw) S1 hlo rfl
  clear hS1 hbad hlo hwo h hb ha hnw hwc hok hl0 hl ew el
  have EO := Asd.mk eo
  clear eo
  go_enter Try.func19, Try.ntmps19
  go_wp2_with (first | refine wpList_load_row rfl 31 _ rfl V.heap.size rfl 31 _ (0, 0) _ z3 Try.underlying31 rfl iM ?_ | fail)
  refine KC.out.mono ?_
  rintro e W1 ⟨rfl, hb1⟩
  have z3 := Own.keep Z.out.1 hb1
  have z6 := Own.keep Z.out.2 hb1
  have HB1 := Asd.mk (HB.out.trans (hb1.mono HB.out.size))
  have z3b := setRow_heap W1 V.heap.size _ (mvV lv (.slice Aw nw cw) S1) 31 (0, 0) z3
  have z6b : (W1.setRow V.heap.size (mvV lv (.slice Aw nw cw) S1)).heap[V.heap.size + 1]? = some (.cells zM 31 (0, 0)) := (setRow_other W1 V.heap.size (V.heap.size + 1) _ (by omega)).trans z6
  have HB2 := Asd.mk (below_setRow HB1.out (g := V.heap.size) (Nat.le_refl _) (mvV lv (.slice Aw nw cw) S1))
  have hsz1 : V.heap.size + 1 < W1.heap.size := (Array.getElem?_eq_some_iff.1 z6).1
  have kw : (W1.setRow V.heap.size (mvV lv (.slice Aw nw cw) S1)).cell? ⟨V.heap.size, 1, none⟩ = some (.slice Aw nw cw) := cell_of_row _ _ 1 _ _ _ z3b
  clear KC hb1 Z
  have esz : (W1.setRow V.heap.size (mvV lv (.slice Aw nw cw) S1)).heap.size = W1.heap.size := by simp [World.setRow]
  obtain ⟨V2, hmk, hbm, hom⟩ := makeBl (W1.setRow V.heap.size (mvV lv (.slice Aw nw cw) S1)) nw hw
  have H0 := Asd.mk (show SY (W1.setRow V.heap.size (mvV lv (.slice Aw nw cw) S1)) nw 0 V2 from ⟨hbm, hom⟩)
  rw [esz] at hmk
  clear hbm hom
  go_wp2_with (first | refine wpList_store_row rfl 31 _ _ rfl V.heap.size (mvV lv (.slice Aw nw cw) S1) rfl rfl 31 _ z3 i1 rfl o1 ?_ | fail)
  go_loopw [6] (fun iv W => ∃ (k : Nat), iv = .int .i64 k ∧ k ≤ nw ∧ Asd (SY (W1.setRow V.heap.size (mvV lv (.slice Aw nw cw) S1)) nw k W)) (fun iv _ => nw - (intOf iv).toNat)
  case atStart => exact ⟨0, rfl, by omega, H0⟩
  case round =>
    obtain ⟨k, rfl, hk, HI⟩ := hrel
    clear H0 hmk kw
    by_cases hlt : k < nw
    · have hk1 : (k : Int) < (nw : Int) := by omega
      have hst := HI.out.2.stored k (.bool true)
      rw [bls_set, half_set nw k hlt] at hst
      have HN := Asd.mk (show SY (W1.setRow V.heap.size (mvV lv (.slice Aw nw cw) S1)) nw (k + 1) (wr.setCell ⟨(W1.setRow V.heap.size (mvV lv (.slice Aw nw cw) S1)).heap.size, k, none⟩ (.bool true)) from
        ⟨HI.out.1.setCell (p := ⟨(W1.setRow V.heap.size (mvV lv (.slice Aw nw cw) S1)).heap.size, k, none⟩) (Nat.le_refl _) _, hst.1⟩)
      have cg := HI.out.2.cells (g := (W1.setRow V.heap.size (mvV lv (.slice Aw nw cw) S1)).heap.size) rfl k (.bool false) (by rw [bls, List.getElem?_map, List.getElem?_append_right (by simp), List.length_replicate, Nat.sub_self, List.getElem?_replicate, if_pos (by omega)]; rfl)
      rw [Seg.addr_add, Nat.zero_add] at cg
      have fg := HI.out.2.frozenAt k
      rw [esz] at HN cg fg
      clear hst z3 z6 z3b z6b
      go_wp2
      go_roundw
      case rel => exact ⟨k + 1, by go_num, by omega, HN⟩
      case measure => simp [intOf]; omega
    · obtain rfl : k = nw := by omega
      have z3c := (HI.out.1.block V.heap.size (by rw [esz]; omega)).trans z3b
      have z6c := (HI.out.1.block (V.heap.size + 1) (by rw [esz]; omega)).trans z6b
      have hBW := Asd.mk (HB2.out.trans (HI.out.1.mono HB2.out.size))
      have hrk := HRK.out.below hBW.out
      have hkA : KArg (some ⟨W1.heap.size, 0, none⟩) (List.replicate k true) wr := fun j hj => ⟨W1.heap.size, 0, rfl, by
        have hj' : j < k := by simpa using hj
        have cg := HI.out.2.cells (g := (W1.setRow V.heap.size (mvV lv (.slice Aw k cw) S1)).heap.size) rfl j (.bool true) (by rw [bls, List.getElem?_map, List.getElem?_append_left (by simpa using hj), List.getElem?_replicate, if_pos hj']; rfl)
        rw [Seg.addr_add, Nat.zero_add, esz] at cg
        rw [Nat.zero_add, cg, List.getElem_replicate]⟩
      have KR := Asd.mk (rcrash_calls hrk HOK.out HL.out.1 HL.out.2.1 (by rw [HL.out.2.2]; exact hw) (some ⟨W1.heap.size, 0, none⟩) k (List.replicate k true) hkA (by simpa using hw))
      rw [List.length_replicate] at KR
      clear hrk hkA z3 z6 z3b z6b i1 o1
      have i1 := infoMS lv (.slice Aw k cw) S1
      have hlt' : ¬ ((k : Int) < (k : Int)) := by omega
      go_wp2_with (first | refine wpList_load_row rfl 31 _ rfl V.heap.size rfl 31 _ (0, 0) _ z3c Try.underlying31 rfl i1 ?_ | fail)
      refine KR.out.mono ?_
      rintro e W3 ⟨mv', rfl, G1, ⟨lv', wv', rfl, hr1⟩, hb3, hG1⟩
      have hca : S1.crash (fun j => (List.replicate k true).getD j false) = S1.crash (fun _ => true) := by
        have := crash_all S1
        rwa [HL.out.2.2] at this
      rw [hca] at hr1 ⊢
      have ec : (S1.crash (fun _ => true)).ops = S.ops := EO.out
      obtain ⟨S2, hS2⟩ : ∃ s, S1.crash (fun _ => true) = s := ⟨_, rfl⟩
      rw [hS2] at hr1 ec ⊢
      have HS2 := Asd.mk hS2
      have z3d := Own.keep z3c hb3
      have z6d := Own.keep z6c hb3
      have lo' := owns_cell1 hr1.1
      have wo' := owns_cell1 hr1.2.1
      have i2 := infoMS lv' wv' S2
      have o2 := mvV_one lv' wv' S2 lo' wo'
      have i3 := infoMS lv' wv' { S2 with ops := S.ops + 1 }
      have o3 := mvV_one lv' wv' { S2 with ops := S.ops + 1 } lo' wo'
      have z3e := setRow_heap W3 V.heap.size _ (mvV lv' wv' S2) 31 (0, 0) z3d
      have z6e : (W3.setRow V.heap.size (mvV lv' wv' S2)).heap[V.heap.size + 1]? = some (.cells zM 31 (0, 0)) := (setRow_other W3 V.heap.size (V.heap.size + 1) _ (by omega)).trans z6d
      have k33 : (W3.setRow V.heap.size (mvV lv' wv' S2)).cell? ⟨V.heap.size, 3, none⟩ = some (.int .i64 S2.ops) := cell_of_row _ _ 3 _ _ _ z3e
      rw [ec] at k33
      have fz33 : (W3.setRow V.heap.size (mvV lv' wv' S2)).frozen? ⟨V.heap.size, 3, none⟩ = false := frozen_of_row _ _ 3 _ _ z3e
      have z3f : ((W3.setRow V.heap.size (mvV lv' wv' S2)).setCell ⟨V.heap.size, 3, none⟩ (.int .i64 (S.ops + 1))).heap[V.heap.size]? = some (.cells (mvV lv' wv' { S2 with ops := S.ops + 1 }) 31 (0, 0)) := heap_setCell_same _ V.heap.size 3 _ _ (.int .i64 (S.ops + 1)) z3e
      have z6f : ((W3.setRow V.heap.size (mvV lv' wv' S2)).setCell ⟨V.heap.size, 3, none⟩ (.int .i64 (S.ops + 1))).heap[V.heap.size + 1]? = some (.cells zM 31 (0, 0)) := by
        rw [set_other _ _ _ _ (by show V.heap.size + 1 ≠ V.heap.size; omega)]; exact z6e
      have BE := Asd.mk (below_setRow ((below_setRow (hBW.out.trans (hb3.mono hBW.out.size)) (g := V.heap.size) (Nat.le_refl _) (mvV lv' wv' S2)).setCell (p := ⟨V.heap.size, 3, none⟩) (Nat.le_refl _) (.int .i64 (S.ops + 1))) (g := V.heap.size + 1) (by omega) (mvV lv' wv' { S2 with ops := S.ops + 1 }))
      have hwr := HI.out.1.size
      rw [esz] at hwr
      have HG := Asd.mk (show ∀ q, G1 q → (G q ∧ q < V.heap.size) ∨ V.heap.size + 1 < q from fun q hq => (hG1 q hq).imp id (fun e => by omega))
      have RKE := Asd.mk (show RK G1 lv' wv' { S2 with ops := S.ops + 1 } (((W3.setRow V.heap.size (mvV lv' wv' S2)).setCell ⟨V.heap.size, 3, none⟩ (.int .i64 (S.ops + 1))).setRow (V.heap.size + 1) (mvV lv' wv' { S2 with ops := S.ops + 1 })) from
        RK.keep (S := { S2 with ops := S.ops + 1 }) (V := W3) hr1 (fun q hq => by
          have hne : q ≠ V.heap.size ∧ q ≠ V.heap.size + 1 := by rcases HG.out q hq with e | e <;> omega
          rw [setRow_other _ _ _ _ hne.2, set_other _ _ _ _ (by show q ≠ V.heap.size; exact hne.1), setRow_other _ _ _ _ hne.1]))
      have hbnd : S.ops + 1 ≤ 9223372036854775807 := by omega
      clear KR hr1 hb3 hG1 hca EO lo' wo' hwr z3c z6c i1 ec hS2 z6d hBW HI
      go_wp2_with (first | refine wpList_store_row rfl 31 _ _ rfl V.heap.size (mvV lv' wv' S2) rfl rfl 31 _ z3d i2 rfl o2 ?_ | refine wpList_load_row rfl 31 _ rfl V.heap.size rfl 31 _ (0, 0) _ z3f Try.underlying31 rfl i3 ?_ | refine wpList_store_row rfl 31 _ _ rfl (V.heap.size + 1) (mvV lv' wv' { S2 with ops := S.ops + 1 }) rfl rfl 31 _ z6f i3 rfl o3 ?_ | fail)
      have hs2 := HS2.out
      subst hs2
      exact bodyPost_ret (Cel.end_cell rfl _ _ _ _ _ z6f rfl Try.underlying31 rfl i3) rfl ⟨_, rfl, G1, ⟨_, _, rfl, RKE.out⟩, BE.out, fun q hq => (HG.out q hq).imp (fun e => e.1) (fun e => by omega)⟩
theorem rsync_calls {G : Nat → Prop} {lv wv : Value} {S : DS} {V : World} (h : RK G lv wv S V) (hok : S.ok) (hl0 : 0 < S.lasts.length) (hl : S.lasts.length ≤ 100000) (hw : S.waits.length ≤ 1000000) (ha : S.armed ≤ 9223372036854775807) (ho0 : 0 ≤ S.ops) (ho : S.ops ≤ 4611686018427387904) :
    Calls Try.prog 19 #[.agg (mvV lv wv S)] V fun e V' => ∃ mv', e = .returned (.tuple #[.agg mv', .int .i64 (S.sync).2]) ∧ Rid G mv' (S.sync).1 V V' := by
  cases hbad : S.fails.2 with
  | true => exact rsync_bad h hw ha hbad
  | false => exact rsync_ok h hok hl0 hl hw ha ho0 ho hbad
end Go.Proofs.Ytknbhgodhmcemaa.Dk
