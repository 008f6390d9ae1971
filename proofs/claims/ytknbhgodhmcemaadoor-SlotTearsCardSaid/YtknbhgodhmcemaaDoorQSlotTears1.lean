/- Texts of the seat, as far as the row needs them. -/
import Derived.Below
import Derived.BigQuiet
import Derived.Deep.CutBlock
import Derived.Deep.DeepCutAuto
import Derived.Deep.DeepFit
import Derived.Deep.Light
import Derived.Deep.LoopGhost
import Derived.Deep.QuietTactic
import Derived.Deep.RegionHeld3
import Derived.Ground.Names2Prog
import Derived.Laws.AppendOwn
import Derived.Laws.BitsAllLaws
import Derived.Laws.BitsLemmas
import Derived.Laws.CopyOwn
import Derived.Laws.Externs
import Derived.Laws.IdiomCopy
import Derived.Laws.IdiomStrings
import Derived.Laws.OwnMore
import Derived.Laws.ResultCell
import Derived.Laws.Rows
import Derived.Laws.StructEq
import Derived.Laws.Tables
import Derived.Lib.AppendStr
import Derived.Lib.FrozenHead2
import Derived.Lib.OthersKept
import Derived.Lib.RepeatB
import Derived.Lib.TrimByte
import Derived.Lib.UnsafeStr
import Derived.Maps.Own
import Derived.Maps.OwnOps
import Derived.Maps.OwnSet
import Derived.Maps.Views
import Derived.OrdersHeld
import Derived.Outline
import Derived.OwnWalk
import Derived.Shelf.Bits.Mul64
import Derived.Shelf.Slices.Clone
import Derived.Shelf.Small.Strs
import Derived.Shelf.Small.Utf8
import Derived.Shelf.Strings.AsciiSet
import Derived.Shelf.Strings.Builder1
import Derived.Shelf.Strings.Builder2
import Derived.Shelf.Strings.Builder2Cap
import Derived.Shelf.Strings.BuilderCap
import Derived.Shelf.Strings.BuilderF
import Derived.Shelf.Strings.BuilderK
import Derived.Shelf.Strings.Prefix
import Derived.Shelf.Strings.Repeat
import Derived.Shelf.Strings.Runes
import Derived.Shelf.Strings.Search1
import Derived.Shelf.Strings.Trim
import Derived.Shelf.Unicode.DecodeSlow
import Derived.StillTailTactics
import Derived.Test.YtknbhgodhmcemaaDoorProg
import Derived.WalkKit
import Derived.WalkMore
import Derived.Test.YtknbhgodhmcemaaDoorQSlotTears0
set_option linter.unusedVariables false
set_option linter.unusedSimpArgs false
namespace Go.Proofs.YtknbhgodhmcemaaDoor.Dk
set_option linter.unusedSimpArgs false
set_option linter.unusedVariables false
set_option maxRecDepth 100000
open Go.RowKit Go.Proofs.YtknbhgodhmcemaaDoor.Own Go.Proofs.YtknbhgodhmcemaaDoor.Cel
variable {B p : Nat} {S : DS} {F : Nat → Prop} {W : World}
theorem sync1_calls (j : Int) (W : World) : Calls Tryd.prog 53 #[.int .i64 j] W fun e w' => e = .returned (.bool true) ∧ W = w' := by
  go_enter Tryd.func53, Tryd.ntmps53
  go_wp2
  go_ret
  exact ⟨rfl, rfl⟩
theorem fails_ok (h : S.ok) : S.fails.1.ok := by
  obtain ⟨e1, e2, _⟩ := fails_lasts S
  unfold DS.ok
  rw [e1, e2]; exact h
theorem Did.of {B p : Nat} {S' : DS} {F F1 : Nat → Prop} {W W1 W2 : World} (h1 : Only F W W1) (hF : ∀ k, F1 k → F k ∨ W.heap.size ≤ k) (h : Did B p S' F1 W1 W2) : Did B p S' F W W2 := by
  obtain ⟨F2, d, o, f⟩ := h
  exact ⟨F2, d, h1.trans o hF, fun k hk => (f k hk).elim (hF k) (fun e => .inr (Nat.le_trans h1.size e))⟩
theorem DK.opsUp {F : Nat → Prop} (h : DK B p S F W) (o : Int) : DK B p { S with ops := o } F (W.setCell ⟨p, 4, none⟩ (.int .i64 o)) ∧ Only F W (W.setCell ⟨p, 4, none⟩ (.int .i64 o)) := by
  obtain ⟨lb, lc, rb, rc, mb, wv, h1, h2⟩ := h
  exact ⟨⟨lb, lc, rb, rc, mb, wv, h1.setO o, h2⟩, only_set _ _ ((h2 p).2 (.inl rfl))⟩
theorem DK.cell4 {F : Nat → Prop} (h : DK B p S F W) : W.cell? ⟨p, 4, none⟩ = some (.int .i64 S.ops) ∧ W.frozen? ⟨p, 4, none⟩ = false := by
  obtain ⟨lb, lc, rb, rc, mb, wv, h1, h2⟩ := h
  exact ⟨h1.cell 4, h1.frozen 4⟩
set_option maxHeartbeats 1000000 in
theorem sync_calls (h : DK B p S F W) (hok : S.ok) (ha : S.armed ≤ 9223372036854775807) (hn : S.waits.length ≤ 1000000) (ho0 : 0 ≤ S.ops) (ho : S.ops ≤ 4611686018427387904) :
    Calls Tryd.prog 18 #[.pointer (some ⟨p, 0, none⟩)] W fun e W' => e = .returned (.int .i64 S.sync.2) ∧ Did B p S.sync.1 F W W' := by
  have KF := Aside0.mk (fails_calls h ha)
  cases hf : S.fails.2 with
  | true =>
    have e : S.sync = (S.fails.1, 7) := by unfold DS.sync; rw [if_pos hf]
    rw [e]
    rw [hf] at KF
    clear e hf h hok ha
    go_enter Tryd.func18, Tryd.ntmps18
    go_wp2_with fail
    refine KF.out.mono ?_
    rintro e w1 ⟨rfl, h1, h2⟩
    have H1 := Aside0.mk (And.intro h1 h2)
    clear h1 h2
    go_wp2
    go_ret
    exact ⟨rfl, F, H1.out.1, H1.out.2, fun _ e => .inl e⟩
  | false =>
    have e : S.sync = ({ S.fails.1.crash (fun _ => true) with ops := S.ops + 1 }, 0) := by unfold DS.sync; rw [if_neg (by rw [hf]; decide)]
    rw [e]
    rw [hf] at KF
    obtain ⟨fl, fw, fo⟩ := fails_lasts S
    have hok1 := fails_ok hok
    obtain ⟨S1, hS1⟩ : ∃ x, S.fails.1 = x := ⟨_, rfl⟩
    rw [hS1] at KF fl fw fo hok1 ⊢
    rw [← fw] at hn
    rw [← fo] at ho0 ho ⊢
    have HOK := Aside0.mk hok1
    have HN := Aside0.mk hn
    clear e hf h hok ha fl fw fo hS1 hok1 hn
    go_enter Tryd.func18, Tryd.ntmps18
    go_wp2_with fail
    refine KF.out.mono ?_
    rintro e W1 ⟨rfl, h1, h2⟩
    have H1 := Aside0.mk (And.intro h1 h2)
    clear h1 h2 KF
    go_wp2_with fail
    refine (settle_sync H1.out.1 HOK.out HN.out (fun _ => true) (fun V _ j _ => sync1_calls j V)).mono ?_
    rintro e W2 ⟨rfl, F2, d, o, f⟩
    have hops : (S1.crash (fun _ => true)).ops = S1.ops := rfl
    obtain ⟨c4, f4⟩ := d.cell4
    rw [hops] at c4
    have HD := Aside0.mk (show Did B p { S1.crash (fun _ => true) with ops := S1.ops + 1 } F W (W2.setCell ⟨p, 4, none⟩ (.int .i64 (S1.ops + 1))) from by
      obtain ⟨u1, u2⟩ := d.opsUp (S1.ops + 1)
      refine Did.of H1.out.2 (fun k e => .inl e) (Did.of o f ⟨F2, u1, u2, fun _ e => .inl e⟩))
    clear d o f hops H1
    obtain ⟨op, hop⟩ : ∃ x, S1.ops = x := ⟨_, rfl⟩
    rw [hop] at c4 ho ho0 HD
    have HOP := Aside0.mk hop
    clear hop
    go_wp2
    go_ret
    exact ⟨rfl, by rw [HOP.out]; exact HD.out⟩
def KeepAt (F : Nat → Prop) (A : Option Addr) (ks : List Bool) (V : World) : Prop := ∀ i (h : i < ks.length), ∃ a b o, A = some ⟨b, o, none⟩ ∧ a = o + i ∧ ¬ F b ∧ V.cell? ⟨b, a, none⟩ = some (.bool (ks[i]'h))
theorem KeepAt.only {F : Nat → Prop} {A : Option Addr} {ks : List Bool} {V V' : World} (h : KeepAt F A ks V) (o : Only F V V') : KeepAt F A ks V' := fun i hi => by
  obtain ⟨a, b, o', e, e2, hn, hc⟩ := h i hi
  refine ⟨a, b, o', e, e2, hn, ?_⟩
  have hlt : b < V.heap.size := World.block_lt_of_cell? V _ hc
  exact (World.cell?_of_block (o.block b hlt hn)).trans hc
theorem crash1_calls (kb : Nat) (A : Option Addr) (c : Nat) (ks : List Bool) (j : Nat) (V : World) (h1 : V.cell? ⟨kb, 0, none⟩ = some (.slice A ks.length c)) (h2 : KeepAt F A ks V) (hl : ks.length ≤ 1000000) :
    Calls Tryd.prog 49 #[.int .i64 (j : Nat), .pointer (some ⟨kb, 0, none⟩)] V fun e w' => e = .returned (.bool (ks.getD j false)) ∧ V = w' := by
  by_cases hj : j < ks.length
  · obtain ⟨a, b, o, rfl, rfl, _, hc⟩ := h2 j hj
    obtain ⟨n, hn⟩ : ∃ n, ks.length = n := ⟨_, rfl⟩
    have e : ks.getD j false = ks[j]'hj := by rw [List.getD_eq_getElem?_getD, List.getElem?_eq_getElem hj]; rfl
    rw [e]
    obtain ⟨x, hx⟩ : ∃ x, ks[j]'hj = x := ⟨_, rfl⟩
    rw [hx] at hc ⊢
    rw [hn] at h1 hj
    have hj2 : (j : Int) < (n : Int) := by omega
    clear hn e hx h2
    go_enter Tryd.func49, Tryd.ntmps49
    go_wp2
    go_ret
    exact ⟨rfl, rfl⟩
  · have e : ks.getD j false = false := by rw [List.getD_eq_getElem?_getD, List.getElem?_eq_none (by omega)]; rfl
    rw [e]
    obtain ⟨n, hn⟩ : ∃ n, ks.length = n := ⟨_, rfl⟩
    rw [hn] at h1 hj
    have hj2 : decide ((j : Int) < (n : Int)) = false := decide_eq_false (by omega)
    clear hn e h2
    go_enter Tryd.func49, Tryd.ntmps49
    go_wp2
    go_ret
    exact ⟨rfl, rfl⟩
set_option maxHeartbeats 1000000 in
theorem crash_calls (h : DK B p S F W) (hok : S.ok) (hn : S.waits.length ≤ 1000000) (A : Option Addr) (c : Nat) (ks : List Bool) (hk : KeepAt F A ks W) (hl : ks.length ≤ 1000000) :
    Calls Tryd.prog 14 #[.pointer (some ⟨p, 0, none⟩), .slice A ks.length c] W fun e W' => e = .returned (.tuple #[]) ∧ Did B p (S.crash (fun j => ks.getD j false)) F W W' := by
  have hba : Below W.heap.size W (W.alloc (.cells #[.slice A ks.length c] 23)) := (Below.refl _ _).alloc (Nat.le_refl _) _
  have hO : Only F W (W.alloc (.cells #[.slice A ks.length c] 23)) := only_below hba
  have hD := h.below hba
  have hK := hk.only hO
  have hcc : (W.alloc (.cells #[.slice A ks.length c] 23)).heap[W.heap.size]? = some (.cells #[.slice A ks.length c] 23 (0, 0)) := heap_alloc_new W _
  have hnF : ¬ F W.heap.size := fun e => by have := (h.lt e).2; omega
  have KS := Aside0.mk (settle_crash (kb := W.heap.size) hD hok hn (fun j => ks.getD j false) (fun V oV j _ => by
    have o1 := oV.small
    have hlt : W.heap.size < (W.alloc (.cells #[.slice A ks.length c] 23)).heap.size := by simp
    have c1 : V.cell? ⟨W.heap.size, 0, none⟩ = some (.slice A ks.length c) := cell_of_row V W.heap.size 0 _ _ _ ((o1.block W.heap.size hlt hnF).trans hcc)
    exact crash1_calls W.heap.size A c ks j V c1 (hK.only o1) hl))
  have HO := Aside0.mk hO
  clear h hok hn hk hl hba hO hD hK hcc hnF
  go_enter Tryd.func14, Tryd.ntmps14
  go_wp2_with fail
  refine KS.out.mono ?_
  rintro e W2 ⟨rfl, hd⟩
  have HD := Aside0.mk (Did.of HO.out (fun k e => .inl e) hd)
  clear hd KS HO
  go_wp2
  go_end0
  exact ⟨rfl, HD.out⟩
end Go.Proofs.YtknbhgodhmcemaaDoor.Dk
namespace Go.Proofs.YtknbhgodhmcemaaDoor.Dk
set_option linter.unusedSimpArgs false
set_option linter.unusedVariables false
set_option maxRecDepth 100000
open Go.RowKit Go.Proofs.YtknbhgodhmcemaaDoor.Own Go.Proofs.YtknbhgodhmcemaaDoor.Cel
def DW (w : World) (p : Nat) (S : DS) (V : World) : Prop := ∃ F, DK w.heap.size p S F V ∧ Below w.heap.size w V
theorem DW.step {w V V' : World} {p : Nat} {S : DS} (h : DW w p S V) (hb : Below V.heap.size V V') : DW w p S V' := by
  obtain ⟨F, d, b⟩ := h
  exact ⟨F, d.below hb, b.trans (hb.mono b.size)⟩
theorem DW.did {w V V' : World} {p : Nat} {S S' : DS} {F : Nat → Prop} (d : DK w.heap.size p S F V) (b : Below w.heap.size w V) (h : Did w.heap.size p S' F V V') : DW w p S' V' := by
  obtain ⟨F', d', o, f⟩ := h
  exact ⟨F', d', b.trans (o.below (fun k hk => (d.lt hk).1) b.size)⟩
theorem DW.new {w V : World} {p : Nat} {S : DS} {F : Nat → Prop} (d : DK w.heap.size p S F V) (b : Below w.heap.size w V) : DW w p S V := ⟨F, d, b⟩
theorem DW.write {w V : World} {p : Nat} {S : DS} (h : DW w p S V) (ha : S.armed ≤ 9223372036854775807) (hn : S.waits.length ≤ 1000000) (ho0 : 0 ≤ S.ops) (ho : S.ops ≤ 4611686018427387904) (i : Int) (s : ByteArray) (hi0 : -9223372036854775808 ≤ i) (hi1 : i ≤ 9223372036854775807) :
    Calls Tryd.prog 28 #[.pointer (some ⟨p, 0, none⟩), .int .i64 i, .string s] V fun e W' => e = .returned (.int .i64 (S.put i s).2) ∧ DW w p (S.put i s).1 W' := by
  obtain ⟨F, d, b⟩ := h
  exact (write_calls d ha hn ho0 ho i s hi0 hi1).mono fun _ _ ⟨e, h⟩ => ⟨e, DW.did d b h⟩
theorem DW.read {w V : World} {p : Nat} {S : DS} (h : DW w p S V) (i : Int) :
    Calls Tryd.prog 39 #[.pointer (some ⟨p, 0, none⟩), .int .i64 i] V fun e W' => e = .returned (.tuple #[.string (S.readAt i).1, .int .i64 (S.readAt i).2]) ∧ V = W' := by
  obtain ⟨F, d, b⟩ := h
  exact read_calls d i
theorem DW.size {w V : World} {p : Nat} {S : DS} (h : DW w p S V) :
    Calls Tryd.prog 68 #[.pointer (some ⟨p, 0, none⟩)] V fun e W' => e = .returned (.int .i64 (S.lasts.length : Nat)) ∧ V = W' := by
  obtain ⟨F, d, b⟩ := h
  exact size_calls d
theorem DW.ops {w V : World} {p : Nat} {S : DS} (h : DW w p S V) :
    Calls Tryd.prog 70 #[.pointer (some ⟨p, 0, none⟩)] V fun e W' => e = .returned (.int .i64 S.ops) ∧ V = W' := by
  obtain ⟨F, d, b⟩ := h
  exact ops_calls d
theorem DW.crash0 {w V : World} {p : Nat} {S : DS} (h : DW w p S V) (hok : S.ok) (hn : S.waits.length ≤ 1000000) :
    Calls Tryd.prog 14 #[.pointer (some ⟨p, 0, none⟩), .slice none 0 0] V fun e W' => e = .returned (.tuple #[]) ∧ DW w p { S with waits := [] } W' := by
  obtain ⟨F, d, b⟩ := h
  refine (crash_calls d hok hn none 0 [] (fun i h => absurd h (by simp)) (by simp)).mono fun _ _ ⟨e, h⟩ => ⟨e, ?_⟩
  have e2 : S.crash (fun j => [].getD j false) = { S with waits := [] } := by
    unfold DS.crash
    rw [keptW_none _ _ _ (fun j _ _ => by simp)]; rfl
  rw [e2] at h
  exact DW.did d b h
set_option maxHeartbeats 1000000 in
theorem awake12_calls (w : World) : Calls Tryd.prog 41 #[] w fun e w' => e = .returned (.bool true) ∧ Below w.heap.size w w' := by
  have p1 : DS.put ⟨List.replicate 2 (sect 0), [], 0, 0⟩ 0 (sect 7) = (⟨List.replicate 2 (sect 0), [(0, sect 7)], 0, 1⟩, 0) := put_ok ⟨by decide, by decide⟩ (sect_size 7) rfl
  have r1 : DS.readAt ⟨List.replicate 2 (sect 0), [(0, sect 7)], 0, 1⟩ 0 = (sect 7, 0) := rfl
  have r2 : DS.readAt ⟨List.replicate 2 (sect 0), [], 0, 1⟩ 0 = (sect 0, 0) := rfl
  have ok1 : DS.ok ⟨List.replicate 2 (sect 0), [(0, sect 7)], 0, 1⟩ := fun x hx => by
    simp only [List.mem_singleton] at hx
    subst hx
    show 0 < (List.replicate 2 (sect 0)).length
    simp
  have KN := Aside0.mk (new_good 2 w (by omega) (by omega))
  have KF := Aside0.mk (fun V => fill_calls 7 V)
  rw [show (((7 : UInt8).toNat : Nat) : Int) = 7 by decide] at KF
  rw [show ((2 : Nat) : Int) = 2 by rfl] at KN
  have P1 := Aside0.mk p1
  have R1 := Aside0.mk r1
  have R2 := Aside0.mk r2
  have OK1 := Aside0.mk ok1
  clear p1 r1 r2 ok1
  go_enter Tryd.func41, Tryd.ntmps41
  go_wp2_with fail
  refine KN.out.mono ?_
  rintro x w1 ⟨p, F, rfl, d, b⟩
  have HD := Aside0.mk (DW.new d b)
  clear d b KN
  go_wp2_with fail
  refine (KF.out _).mono ?_
  rintro x w2 ⟨rfl, hb⟩
  replace HD := Aside0.mk (HD.out.step hb)
  clear hb
  go_wp2_with fail
  refine (HD.out.write (by decide) (by decide) (by decide) (by decide) 0 (sect 7) (by decide) (by decide)).mono ?_
  rw [P1.out]
  rintro x w3 ⟨rfl, hd⟩
  replace HD := Aside0.mk hd
  clear hd
  go_wp2_with fail
  refine (HD.out.read 0).mono ?_
  rw [R1.out]
  rintro x w4 ⟨rfl, rfl⟩
  go_wp2_with fail
  refine (HD.out.crash0 OK1.out (by decide)).mono ?_
  rintro x w5 ⟨rfl, hd⟩
  replace HD := Aside0.mk hd
  clear hd
  go_wp2_with fail
  refine (HD.out.read 0).mono ?_
  rw [R2.out]
  rintro x w6 ⟨rfl, rfl⟩
  generalize sect 7 = s7 at *
  go_wp2_with fail
  refine (KF.out _).mono ?_
  rintro x w7 ⟨rfl, hb⟩
  replace HD := Aside0.mk (HD.out.step hb)
  clear hb
  go_wp2_with fail
  refine (rblank_calls _).mono ?_
  rintro x w8 ⟨rfl, hb⟩
  replace HD := Aside0.mk (HD.out.step hb)
  clear hb
  generalize sect 0 = s0 at *
  go_wp2_with fail
  refine HD.out.size.mono ?_
  rintro x w9 ⟨rfl, rfl⟩
  go_wp2
  go_ret
  obtain ⟨F', d', b'⟩ := HD.out
  exact ⟨rfl, b'⟩
end Go.Proofs.YtknbhgodhmcemaaDoor.Dk
namespace Go.Proofs.YtknbhgodhmcemaaDoor.Sl
open Go.RowKit
structure Aside0 (p : Prop) : Prop where mk :: (out : p)
def st (x : Nat) : Nat := if x % 2 = 1 then x / 2 ^^^ 3988292384 else x / 2
def sts : Nat → Nat → Nat
  | 0, x => x
  | k + 1, x => st (sts k x)
def crc : List UInt8 → Nat → Nat
  | [], x => x
  | b :: l, x => crc l (sts 8 (x ^^^ b.toNat))
def sumN (l : List UInt8) : Nat := 4294967295 - crc l 4294967295
theorem st_lt {x : Nat} (h : x < 4294967296) : st x < 4294967296 := by
  unfold st
  split
  · exact Nat.xor_lt_two_pow (n := 32) (by omega) (by omega)
  · omega
theorem sts_lt {x : Nat} (h : x < 4294967296) : ∀ k, sts k x < 4294967296
  | 0 => h
  | k + 1 => st_lt (sts_lt h k)
theorem xor_byte {x b : Nat} (h : x < 4294967296) (hb : b < 256) : x ^^^ b < 4294967296 := Nat.xor_lt_two_pow (n := 32) h (by omega)
theorem crc_append (a b : List UInt8) : ∀ x, crc (a ++ b) x = crc b (crc a x) := by
  induction a with
  | nil => intro x; rfl
  | cons c a ih => intro x; simp only [List.cons_append, crc]; exact ih _
theorem crc_lt (l : List UInt8) : ∀ x, x < 4294967296 → crc l x < 4294967296 := by
  induction l with
  | nil => intro x h; exact h
  | cons b l ih => intro x h; exact ih _ (sts_lt (xor_byte h b.toNat_lt) 8)
theorem crc_snoc (s : ByteArray) (j : Nat) (h : j < s.size) (x : Nat) : crc (s.data.toList.take (j + 1)) x = sts 8 (crc (s.data.toList.take j) x ^^^ (s[j]'h).toNat) := by
  rw [List.take_succ_eq_append_getElem (by simpa using h), crc_append]; rfl
theorem not32 {x : Nat} (h : x < 4294967296) : 4294967295 ^^^ x = 4294967295 - x := by
  apply Nat.eq_of_testBit_eq
  intro i
  rw [Nat.testBit_xor, show 4294967295 - x = 2 ^ 32 - (x + 1) by omega, Nat.testBit_two_pow_sub_succ (by omega), show 4294967295 = 2 ^ 32 - 1 by rfl, Nat.testBit_two_pow_sub_one]
  by_cases hi : i < 32
  · simp [hi]
  · have : x.testBit i = false := Nat.testBit_lt_two_pow (Nat.lt_of_lt_of_le (show x < 2 ^ 32 by omega) (Nat.pow_le_pow_right (by omega) (by omega)))
    simp [hi, this]
theorem not_u32 {x : Nat} (h : x < 4294967296) : bits .xor .u32 IntKind.u32.max (x : Int) = ((4294967295 - x : Nat) : Int) := by
  have := u32_xor_nat 4294967295 x (by omega) h
  rw [not32 h] at this
  exact this
theorem sumN_lt (l : List UInt8) : sumN l < 4294967296 := by unfold sumN; omega
theorem crc_all (s : ByteArray) (x : Nat) : crc (s.data.toList.take s.size) x = crc s.data.toList x := by
  rw [List.take_of_length_le (by simp)]
end Go.Proofs.YtknbhgodhmcemaaDoor.Sl
namespace Go.Proofs.YtknbhgodhmcemaaDoor.Sl
set_option linter.unusedSimpArgs false
set_option maxRecDepth 100000
open Go.RowKit
set_option maxHeartbeats 400000 in
theorem sum_calls (s : ByteArray) (w : World) (hs : s.size ≤ 140737488355328) :
    Calls Tryd.prog 67 #[.string s] w fun e w' => e = .returned (.int .u32 (sumN s.data.toList : Nat)) ∧ w = w' := by
  go_enter Tryd.func67, Tryd.ntmps67
  go_wp2
  go_loop [3, 8] (fun t i => ∃ (j : Nat), i = .int .i64 j ∧ j ≤ s.size ∧ t = .int .u32 (crc (s.data.toList.take j) 4294967295 : Nat)) (fun _ i => s.size - (intOf i).toNat)
  case atStart => exact ⟨0, rfl, by omega, rfl⟩
  case round =>
    obtain ⟨j, rfl, hj, rfl⟩ := hrel
    have hx := crc_lt (s.data.toList.take j) 4294967295 (by omega)
    by_cases hlt : j < s.size
    · have hb := (s[j]'hlt).toNat_lt
      have HN := Aside0.mk (crc_snoc s j hlt 4294967295)
      generalize crc (s.data.toList.take j) 4294967295 = X at hx HN ⊢
      have e1 : ((s[j]'hlt).toNat : Int) % 4294967296 = ((s[j]'hlt).toNat : Int) := by omega
      have e2 := u32_xor_nat X (s[j]'hlt).toNat hx (by omega)
      have hy := xor_byte hx hb
      go_wp2
      clear e1 e2
      generalize X ^^^ (s[j]'hlt).toNat = Y0 at hy HN ⊢
      have HR := Aside0.mk (show s.size - (intOf (.int .i64 ((j : Int) + 1))).toNat < s.size - (intOf (.int .i64 (j : Int))).toNat by simp [intOf]; omega)
      go_loop [3, 17] (fun t i => ∃ (k : Nat), i = .int .i64 k ∧ k ≤ 8 ∧ t = .int .u32 (sts k Y0 : Nat)) (fun _ i => 8 - (intOf i).toNat)
      case atStart => exact ⟨0, rfl, by omega, rfl⟩
      case round =>
        obtain ⟨k, rfl, hk, rfl⟩ := hrel
        have hz := sts_lt hy k
        by_cases hlt2 : k < 8
        · have HE := Aside0.mk (show sts (k + 1) Y0 = st (sts k Y0) from rfl)
          generalize sts k Y0 = Z at hz HE ⊢
          have a1 := u32_and_nat Z 1 hz (by omega)
          have a2 : ((1 : Nat) : Int) = 1 := rfl
          rw [a2, Nat.and_one_is_mod] at a1
          have a3 := u32_xor_nat (Z / 2) 3988292384 (by omega) (by omega)
          have a4 : ((3988292384 : Nat) : Int) = 3988292384 := rfl
          have a5 : ((Z / 2 : Nat) : Int) = (Z : Int) / 2 := by omega
          rw [a4, a5] at a3
          by_cases hm : Z % 2 = 1
          · have t1 : (bits .and .u32 (Z : Int) 1 == 1) = true := by rw [a1, hm]; rfl
            have E := Aside0.mk (show Value.int .u32 (bits .xor .u32 ((Z : Int) / 2) 3988292384) = .int .u32 (sts (k + 1) Y0 : Nat) by rw [HE.out, st, if_pos hm, a3])
            clear a1 a2 a3 a4 a5 hm
            go_wp2
            go_round
            case rel => exact ⟨k + 1, by go_num, by omega, E.out⟩
            case measure => simp [intOf]; omega
          · have t1 : (bits .and .u32 (Z : Int) 1 == 1) = false := by rw [a1]; simp; omega
            have E := Aside0.mk (show Value.int .u32 ((Z : Int) / 2) = .int .u32 (sts (k + 1) Y0 : Nat) by rw [HE.out, st, if_neg hm, a5])
            clear a1 a2 a3 a4 a5 hm
            go_wp2
            go_round
            case rel => exact ⟨k + 1, by go_num, by omega, E.out⟩
            case measure => simp [intOf]; omega
        · have hge : k = 8 := by omega
          subst hge
          clear hz
          go_wp2
          go_round
          case rel => exact ⟨j + 1, by go_num, by omega, by rw [HN.out]⟩
          case measure => simp [intOf]; omega
    · have hge : j = s.size := by omega
      subst hge
      rw [crc_all] at hx ⊢
      have e3 := not_u32 hx
      have E := Aside0.mk (show ((4294967295 - crc s.data.toList 4294967295 : Nat) : Int) = (sumN s.data.toList : Nat) from rfl)
      have sg : IntKind.u32.signed = false := rfl
      go_wp2
      go_ret
      exact ⟨rfl, rfl⟩
end Go.Proofs.YtknbhgodhmcemaaDoor.Sl
namespace Go.Proofs.YtknbhgodhmcemaaDoor.Sl
set_option linter.unusedSimpArgs false
set_option maxRecDepth 100000
open Go.RowKit
def bw (v n : Nat) : Nat → List UInt8
  | 0 => []
  | d + 1 => bw v n d ++ [UInt8.ofNat (v / 256 ^ (n - 1 - d))]
def be (v n : Nat) : List UInt8 := bw v n n
theorem bw_len (v n : Nat) : ∀ d, (bw v n d).length = d
  | 0 => rfl
  | d + 1 => by simp [bw, bw_len v n d]
theorem be_len (v n : Nat) : (be v n).length = n := bw_len v n n
theorem shr_eq (v i : Nat) : (v : Int) / 2 ^ (8 * i) = ((v / 256 ^ i : Nat) : Int) := by
  rw [Int.pow_mul, show (2 : Int) ^ 8 = ((256 : Nat) : Int) by decide, ← Int.natCast_pow, Int.natCast_ediv]
theorem byte_cell (x : Nat) : Value.int .u8 (((x : Nat) : Int) % 256) = Value.int .u8 ((UInt8.ofNat x).toNat : Nat) := by
  congr 1
set_option maxHeartbeats 400000 in
theorem number_calls (B b : Nat) (l : List UInt8) (v n : Nat) (w : World) (hv : v < 18446744073709551616) (hn : n ≤ 8)
    (h : Lib.IsBuilderF 105 5 B b (Lib.byteCells l) w) (hlen : l.length ≤ 100000) (hBw : B ≤ w.heap.size) :
    Calls Tryd.prog 64 #[.int .u64 v, .int .i64 n, .pointer (some ⟨b, 0, none⟩)] w fun e w' => e = .returned (.tuple #[]) ∧
      Lib.IsBuilderF 105 5 B b (Lib.byteCells (l ++ be v n)) w' ∧ Below B w w' ∧ Lib.OthersKept 5 (some b) w w' := by
  have HH := Aside0.mk (show Lib.IsBuilderF 105 5 B b (Lib.byteCells (l ++ bw v n 0)) w ∧ Below B w w ∧ Lib.OthersKept 5 (some b) w w from ⟨by simpa [bw] using h, Below.refl _ _, Lib.OthersKept.refl _ _ _⟩)
  clear h
  have hv0 : 0 ≤ (v : Int) := by omega
  have hv1 : (v : Int) < 18446744073709551616 := by omega
  go_enter Tryd.func64, Tryd.ntmps64
  go_wp2
  go_loopw [5] (fun i W => ∃ (x : Int) (d : Nat), i = .int .i64 x ∧ -1 ≤ x ∧ x + d = (n : Int) - 1 ∧ Aside0 (Lib.IsBuilderF 105 5 B b (Lib.byteCells (l ++ bw v n d)) W ∧ Below B w W ∧ Lib.OthersKept 5 (some b) w W)) (fun i _ => (intOf i + 1).toNat)
  case atStart => exact ⟨_, 0, rfl, by omega, by omega, HH⟩
  case round =>
    obtain ⟨x, d, rfl, hx0, hxd, HS⟩ := hrel
    clear HH
    by_cases hlt : 0 ≤ x
    · obtain ⟨X, rfl⟩ := Int.eq_ofNat_of_zero_le hlt
      have hX : (X : Int) < 8 := by omega
      have e1 := shr_eq v X
      have K := Bld.writeByte B b (Lib.byteCells (l ++ bw v n d)) ((v : Int) / 2 ^ (8 * X) % 256) wr HS.out.1 (by rw [Lib.byteCells_length, List.length_append, bw_len]; omega) (Nat.le_trans hBw HS.out.2.1.size)
      have E := Aside0.mk (show Lib.byteCells (l ++ bw v n d) ++ [.int .u8 ((v : Int) / 2 ^ (8 * X) % 256)] = Lib.byteCells (l ++ bw v n (d + 1)) by
        rw [e1, byte_cell, bw, show n - 1 - d = X by omega, ← List.append_assoc, Lib.byteCells_append _ [_]]; rfl)
      have KK := Aside0.mk K
      clear K e1
      go_wp2_with fail
      refine KK.out.mono ?_
      rintro e w2 ⟨rfl, h2, hb2, hk2⟩
      rw [E.out] at h2
      have H2 := Aside0.mk (And.intro (show Lib.IsBuilderF 105 5 B b (Lib.byteCells (l ++ bw v n (d + 1))) w2 from .inr h2) (And.intro (HS.out.2.1.trans hb2) (HS.out.2.2.trans hk2)))
      clear h2 hb2 hk2 HS KK E
      go_wp2
      go_roundw
      case rel => exact ⟨(X : Int) - 1, d + 1, rfl, by omega, by omega, H2⟩
      case measure => simp [intOf]
    · obtain rfl : x = -1 := by omega
      obtain rfl : d = n := by omega
      have HX := Aside0.mk HS.out
      clear HS
      go_wp2
      go_end0
      exact ⟨rfl, HX.out⟩
end Go.Proofs.YtknbhgodhmcemaaDoor.Sl
namespace Go.Proofs.YtknbhgodhmcemaaDoor.Sl
set_option linter.unusedSimpArgs false
set_option maxRecDepth 100000
open Go.RowKit
theorem repeatL_one0 : ∀ c, Lib.repeatL [(0 : UInt8)] c = List.replicate c 0
  | 0 => rfl
  | c + 1 => by rw [List.replicate_succ, ← repeatL_one0 c]; rfl
def lb (x : Nat) : Nat → List UInt8
  | 0 => []
  | d + 1 => lb x d ++ [UInt8.ofNat (x / 256 ^ d)]
theorem lb_len (x : Nat) : ∀ d, (lb x d).length = d
  | 0 => rfl
  | d + 1 => by simp [lb, lb_len x d]
def head14 (k g i : Nat) (n : Nat) : List UInt8 := be k 1 ++ be g 8 ++ be i 4 ++ be n 1
def body (k g i : Nat) (d : List UInt8) : List UInt8 := head14 k g i d.length ++ d ++ List.replicate (110 - d.length) 0
def sector (k g i : Nat) (d : List UInt8) : List UInt8 := body k g i d ++ lb (sumN (body k g i d)) 4
def closeS (k g i : Nat) (d : ByteArray) : ByteArray × Int := if d.size > 110 then (⟨#[]⟩, 11) else (⟨(sector k g i d.data.toList).toArray⟩, 0)
def rc (k g i : Nat) (d : ByteArray) : Array Value := #[.int .u8 (k : Int), .int .u64 (g : Int), .int .u32 (i : Int), .string d]
def CS (w : World) (b : Nat) (x : Array Value) (l : List UInt8) (W : World) : Prop :=
  Below w.heap.size w W ∧ W.heap[w.heap.size]? = some (.cells x 64 (0, 0)) ∧ Lib.IsBuilderF 105 5 b b (Lib.byteCells l) W ∧ w.heap.size < b ∧ b < W.heap.size
theorem CS.step {w W W' : World} {b : Nat} {x : Array Value} {l : List UInt8} (h : CS w b x l W) (hb : Below W.heap.size W W') : CS w b x l W' :=
  ⟨h.1.trans (hb.mono h.1.size), (hb.block _ (Array.getElem?_eq_some_iff.1 h.2.1).1).trans h.2.1, Bld.builder_below h.2.2.1 hb, h.2.2.2.1, Nat.lt_of_lt_of_le h.2.2.2.2 hb.size⟩
theorem CS.put {w W W' : World} {b : Nat} {x : Array Value} {l l' : List UInt8} (h : CS w b x l W) (hi : Lib.IsBuilderF 105 5 b b (Lib.byteCells l') W') (hb : Below b W W') : CS w b x l' W' :=
  ⟨h.1.trans (hb.mono (Nat.le_of_lt h.2.2.2.1)), (hb.block _ h.2.2.2.1).trans h.2.1, hi, h.2.2.2.1, Nat.lt_of_lt_of_le h.2.2.2.2 hb.size⟩
theorem CS.cell {w W : World} {b : Nat} {x : Array Value} {l : List UInt8} (h : CS w b x l W) (j : Nat) : W.cell? ⟨w.heap.size, j, none⟩ = x[j]? := Lib.cell_of_heap h.2.1 j
theorem CS.num {w W : World} {b : Nat} {x : Array Value} {l : List UInt8} (h : CS w b x l W) (v n : Nat) (hv : v < 18446744073709551616) (hn : n ≤ 8) (hl : l.length ≤ 100000) :
    Calls Tryd.prog 64 #[.int .u64 v, .int .i64 n, .pointer (some ⟨b, 0, none⟩)] W fun e w' => e = .returned (.tuple #[]) ∧ CS w b x (l ++ be v n) w' := by
  refine (number_calls b b l v n W hv hn h.2.2.1 hl (Nat.le_of_lt h.2.2.2.2)).mono ?_
  rintro e w' ⟨rfl, h2, hb, _⟩
  exact ⟨rfl, h.put h2 hb⟩
theorem CS.byte {w W : World} {b : Nat} {x : Array Value} {l : List UInt8} (h : CS w b x l W) (c : Nat) (hl : l.length ≤ 100000) :
    Calls Tryd.prog 65 #[.pointer (some ⟨b, 0, none⟩), .int .u8 ((c : Int) % 256)] W fun e w' => e = .returned .nilIface ∧ CS w b x (l ++ [UInt8.ofNat c]) w' := by
  refine (Bld.writeByte b b (Lib.byteCells l) ((c : Int) % 256) W h.2.2.1 (by rw [Lib.byteCells_length]; omega) (Nat.le_of_lt h.2.2.2.2)).mono ?_
  rintro e w' ⟨rfl, h2, hb, _⟩
  refine ⟨rfl, h.put ?_ hb⟩
  rw [Lib.byteCells_append]
  rw [byte_cell] at h2
  exact .inr h2
theorem CS.str {w W : World} {b : Nat} {x : Array Value} {l : List UInt8} (h : CS w b x l W) (s : ByteArray) (hl : l.length + s.size ≤ 100000) :
    Calls Tryd.prog 55 #[.pointer (some ⟨b, 0, none⟩), .string s] W fun e w' => e = .returned (.tuple #[.int .i64 s.size, .nilIface]) ∧ CS w b x (l ++ s.data.toList) w' := by
  refine (Bld.writeString b b (Lib.byteCells l) s W h.2.2.1 (by rw [Lib.byteCells_length]; omega) (Nat.le_of_lt h.2.2.2.2)).mono ?_
  rintro e w' ⟨rfl, h2, hb, _⟩
  refine ⟨rfl, h.put ?_ hb⟩
  rw [Lib.strCells_eq, ← Lib.byteCells_append] at h2
  exact .inr h2
theorem CS.string {w W : World} {b : Nat} {x : Array Value} {l : List UInt8} (h : CS w b x l W) :
    Calls Tryd.prog 57 #[.pointer (some ⟨b, 0, none⟩)] W fun e w' => e = .returned (.string ⟨l.toArray⟩) ∧ CS w b x l w' := by
  refine (Tryd.Builder_String_any_f b b l W h.2.2.1 (Nat.le_of_lt h.2.2.2.2)).mono ?_
  rintro e w' ⟨rfl, h2, hb⟩
  exact ⟨rfl, h.put h2 hb⟩
theorem CS.len {w W : World} {b : Nat} {x : Array Value} {l : List UInt8} (h : CS w b x l W) :
    Calls Tryd.prog 66 #[.pointer (some ⟨b, 0, none⟩)] W fun e w' => e = .returned (.int .i64 l.length) ∧ w' = W := by
  have := Bld.len b b (Lib.byteCells l) W h.2.2.1
  rw [Lib.byteCells_length] at this
  exact this
set_option maxHeartbeats 1000000 in
theorem close_good (k g i : Nat) (d : ByteArray) (w : World) (hk : k < 256) (hg : g < 18446744073709551616) (hi : i < 4294967296) (hd : d.size ≤ 110) :
    Calls Tryd.prog 27 #[.agg (rc k g i d)] w fun e w' => e = .returned (.tuple #[.string ⟨(sector k g i d.data.toList).toArray⟩, .int .i64 0]) ∧ Below w.heap.size w w' := by
  have c1 : decide (110 < (d.size : Int)) = false := decide_eq_false (by omega)
  have c2 : decide (110 < d.size) = false := decide_eq_false (by omega)
  have hA := heap_alloc_new w (.cells (rc k g i d) 64)
  have H0 := Aside0.mk (show CS w (w.heap.size + 1) (rc k g i d) [] ((w.alloc (.cells (rc k g i d) 64)).alloc (.cells #[.pointer none, .slice none 0 0] 105)) from
    ⟨((Below.refl _ _).alloc (Nat.le_refl _) _).alloc (by simp) _, (heap_alloc_old _ _ (by simp)).trans hA, by have := Lib.IsBuilderF.of (Lib.fresh_isBuilder 105 5 (w.alloc (.cells (rc k g i d) 64))); simpa [Lib.byteCells] using this, by omega, by simp⟩)
  have q3 : (w.alloc (.cells (rc k g i d) 64)).cell? ⟨w.heap.size, 3, none⟩ = some (.string d) := Lib.cell_of_heap hA 3
  have r0 : ((w.alloc (.cells (rc k g i d) 64)).alloc (.cells #[.pointer none, .slice none 0 0] 105)).cell? ⟨w.heap.size, 0, none⟩ = some (.int .u8 (k : Int)) := H0.out.cell 0
  have HDS := Aside0.mk (show d.data.toList.length = d.size by simp)
  have e0 : (k : Int) % 18446744073709551616 = (k : Int) := by omega
  clear hA
  go_enter Tryd.func27, Tryd.ntmps27
  go_wp2_with fail
  generalize (w.alloc (.cells (rc k g i d) 64)).alloc (.cells #[.pointer none, .slice none 0 0] 105) = W0 at H0 r0 ⊢
  clear q3 e0 r0
  obtain ⟨b, hb⟩ : ∃ b, w.heap.size + 1 = b := ⟨_, rfl⟩
  rw [hb] at H0 ⊢
  clear hb
  refine (H0.out.num k 1 (by omega) (by omega) (by simp)).mono ?_
  rintro x w1 ⟨rfl, h1⟩
  have r1 : w1.cell? ⟨w.heap.size, 1, none⟩ = some (.int .u64 (g : Int)) := h1.cell 1
  have H1 := Aside0.mk h1
  clear h1 H0
  go_wp2_with fail
  clear r1
  refine (H1.out.num g 8 hg (by omega) (by simp [be_len])).mono ?_
  rintro x w2 ⟨rfl, h2⟩
  have r2 : w2.cell? ⟨w.heap.size, 2, none⟩ = some (.int .u32 (i : Int)) := h2.cell 2
  have e2 : (i : Int) % 18446744073709551616 = (i : Int) := by omega
  have H2 := Aside0.mk h2
  clear h2 H1
  go_wp2_with fail
  clear r2 e2
  refine (H2.out.num i 4 (by omega) (by omega) (by simp [be_len])).mono ?_
  rintro x w3 ⟨rfl, h3⟩
  have r3 : w3.cell? ⟨w.heap.size, 3, none⟩ = some (.string d) := h3.cell 3
  have e3 : (d.size : Int) % 18446744073709551616 = (d.size : Int) := by omega
  have H3 := Aside0.mk h3
  clear h3 H2
  go_wp2_with fail
  clear r3 e3
  refine (H3.out.num d.size 1 (by omega) (by omega) (by simp [be_len])).mono ?_
  rintro x w4 ⟨rfl, h4⟩
  have r4 : w4.cell? ⟨w.heap.size, 3, none⟩ = some (.string d) := h4.cell 3
  have H4 := Aside0.mk h4
  clear h4 H3
  go_wp2_with fail
  clear r4
  refine (H4.out.str d (by simp [be_len]; omega)).mono ?_
  rintro x w5 ⟨rfl, h5⟩
  have e5 : [] ++ be k 1 ++ be g 8 ++ be i 4 ++ be d.size 1 ++ d.data.toList = head14 k g i d.data.toList.length ++ d.data.toList := by rw [HDS.out]; simp [head14]
  rw [e5] at h5
  obtain ⟨L, hL⟩ : ∃ L, head14 k g i d.data.toList.length ++ d.data.toList = L := ⟨_, rfl⟩
  rw [hL] at h5
  have HL := Aside0.mk hL
  have hLl : L.length = 14 + d.size := by rw [← hL, List.length_append, HDS.out]; simp [head14, be_len]
  obtain ⟨n, hn⟩ : ∃ n, L.length = n := ⟨_, rfl⟩
  have h6 := h5.len
  rw [hn] at h6
  have H5 := Aside0.mk h5
  have H6 := Aside0.mk h6
  have e6 : (124 : Int) - (n : Int) = ((110 - d.size : Nat) : Int) := by omega
  have hn1 : (n : Int) ≤ 124 := by omega
  have HN := Aside0.mk (show L.length = n ∧ n = 14 + d.size from ⟨hn, by omega⟩)
  clear h5 h6 e5 hL hLl hn H4
  go_wp2_with fail
  refine H6.out.mono ?_
  rintro x w6 ⟨rfl, rfl⟩
  clear H6
  go_wp2_with fail
  clear e6
  refine (Rep.repeat_calls ⟨#[0]⟩ (110 - d.size) _ (by omega) (by show 1 * (110 - d.size) ≤ _; omega) (by show 0 < 1; omega)).mono ?_
  rintro x w7 ⟨rfl, h7⟩
  have H7 := Aside0.mk (H5.out.step h7)
  have e7 : (Lib.repeatL ((⟨#[0]⟩ : ByteArray).data.toList) (110 - d.size)) = List.replicate (110 - d.size) 0 := repeatL_one0 _
  rw [e7]
  clear e7 h7 H5
  go_wp2_with fail
  refine (H7.out.str _ (by have := HN.out; show L.length + (List.replicate (110 - d.size) (0 : UInt8)).toArray.size ≤ _; simp; omega)).mono ?_
  rintro x w8 ⟨rfl, h8⟩
  have e8 : L ++ (⟨Array.replicate (110 - d.size) (0 : UInt8)⟩ : ByteArray).data.toList = body k g i d.data.toList := by rw [← HL.out, body, HDS.out]; simp
  rw [e8] at h8
  have H8 := Aside0.mk h8
  clear h8 e8 H7
  have hbl : (body k g i d.data.toList).length = 124 := by have := HDS.out; simp [body, head14, be_len]; omega
  obtain ⟨Bd, hBd⟩ : ∃ B, body k g i d.data.toList = B := ⟨_, rfl⟩
  rw [hBd] at H8 hbl
  have HB := Aside0.mk hBd
  have HBL := Aside0.mk hbl
  clear hBd hbl
  go_wp2_with fail
  refine H8.out.string.mono ?_
  rintro x w9 ⟨rfl, h9⟩
  have H9 := Aside0.mk h9
  clear h9 H8
  go_wp2_with fail
  refine (sum_calls ⟨Bd.toArray⟩ _ (by show Bd.toArray.size ≤ _; have := HBL.out; simp; omega)).mono ?_
  rintro x w10 ⟨rfl, rfl⟩
  have hSl := sumN_lt Bd
  obtain ⟨S, hS⟩ : ∃ S, sumN Bd = S := ⟨_, rfl⟩
  have e10 : sumN ((⟨Bd.toArray⟩ : ByteArray).data.toList) = S := hS
  rw [e10]
  rw [hS] at hSl
  have HS := Aside0.mk hS
  have H10 := Aside0.mk (show CS w b (rc k g i d) (Bd ++ lb S 0) w9 by simpa [lb] using H9.out)
  clear hS e10 H9
  go_wp2_with fail
  go_loopw [42] (fun t W => ∃ (j : Nat), t = .int .i64 j ∧ j ≤ 4 ∧ Aside0 (CS w b (rc k g i d) (Bd ++ lb S j) W)) (fun t _ => 4 - (intOf t).toNat)
  case atStart => exact ⟨0, rfl, by omega, H10⟩
  case round =>
    obtain ⟨j, rfl, hj, HC⟩ := hrel
    clear H10
    by_cases hlt : j < 4
    · have hx1 : 0 ≤ (j : Int) := by omega
      have hx2 : (j : Int) < 4 := by omega
      have e11 := shr_eq S j
      have K := HC.out.byte (S / 256 ^ j) (by have := HBL.out; simp [lb_len]; omega)
      rw [← e11] at K
      have E := Aside0.mk (show Bd ++ lb S j ++ [UInt8.ofNat (S / 256 ^ j)] = Bd ++ lb S (j + 1) by rw [lb, List.append_assoc])
      rw [E.out] at K
      have KK := Aside0.mk K
      clear K e11 E HC
      go_wp2_with fail
      refine KK.out.mono ?_
      rintro x w11 ⟨rfl, h11⟩
      have H11 := Aside0.mk h11
      clear h11 KK
      go_wp2
      go_roundw
      case rel => exact ⟨j + 1, by go_num, by omega, H11⟩
      case measure => simp [intOf]; omega
    · have hge : j = 4 := by omega
      subst hge
      have E := Aside0.mk (show Bd ++ lb S 4 = sector k g i d.data.toList by rw [sector, HB.out, HS.out])
      rw [E.out] at HC
      go_wp2_with fail
      refine HC.out.string.mono ?_
      rintro x w12 ⟨rfl, h12⟩
      have H12 := Aside0.mk h12.1
      clear h12 HC E
      go_wp2
      go_ret2
      exact ⟨rfl, H12.out⟩
theorem close_long (k g i : Nat) (d : ByteArray) (w : World) (hd : 110 < d.size) :
    Calls Tryd.prog 27 #[.agg (rc k g i d)] w fun e w' => e = .returned (.tuple #[.string ⟨#[]⟩, .int .i64 11]) ∧ Below w.heap.size w w' := by
  have c1 : decide (110 < (d.size : Int)) = true := decide_eq_true (by omega)
  have c2 : decide (110 < d.size) = true := decide_eq_true (by omega)
  have q3 : (w.alloc (.cells (rc k g i d) 64)).cell? ⟨w.heap.size, 3, none⟩ = some (.string d) := Lib.cell_of_heap (heap_alloc_new w (.cells (rc k g i d) 64)) 3
  go_enter Tryd.func27, Tryd.ntmps27
  go_wp2
  go_ret2
  exact ⟨rfl, (Below.refl _ _).alloc (Nat.le_refl _) _⟩
theorem close_calls (k g i : Nat) (d : ByteArray) (w : World) (hk : k < 256) (hg : g < 18446744073709551616) (hi : i < 4294967296) :
    Calls Tryd.prog 27 #[.agg (rc k g i d)] w fun e w' => e = .returned (.tuple #[.string (closeS k g i d).1, .int .i64 (closeS k g i d).2]) ∧ Below w.heap.size w w' := by
  unfold closeS
  by_cases h : d.size > 110
  · rw [if_pos h]; exact close_long k g i d w h
  · rw [if_neg h]; exact close_good k g i d w hk hg hi (by omega)
end Go.Proofs.YtknbhgodhmcemaaDoor.Sl
namespace Go.Proofs.YtknbhgodhmcemaaDoor.Sl
set_option linter.unusedSimpArgs false
set_option maxRecDepth 100000
open Go.RowKit
theorem sector_len (k g i : Nat) (d : List UInt8) (h : d.length ≤ 110) : (sector k g i d).length = 128 := by
  simp [sector, body, head14, be_len, lb_len]; omega
theorem sum_nine : sumN [49, 50, 51, 52, 53, 54, 55, 56, 57] = 3421780262 := by decide +kernel
theorem awake_calls (w : World) : Calls Tryd.prog 42 #[] w fun e w' => e = .returned (.bool true) ∧ Below w.heap.size w w' := by
  have K : ∀ V : World, Calls Tryd.prog 27 #[.agg #[.int .u8 1, .int .u64 0, .int .u32 0, .string ⟨#[]⟩]] V fun e w' => e = .returned (.tuple #[.string ⟨(sector 1 0 0 []).toArray⟩, .int .i64 0]) ∧ Below V.heap.size V w' :=
    fun V => close_good 1 0 0 ⟨#[]⟩ V (by omega) (by omega) (by omega) (by decide)
  have KS : ∀ V : World, Calls Tryd.prog 67 #[.string ⟨#[49, 50, 51, 52, 53, 54, 55, 56, 57]⟩] V fun e w' => e = .returned (.int .u32 3421780262) ∧ V = w' := fun V => by
    have := sum_calls ⟨#[49, 50, 51, 52, 53, 54, 55, 56, 57]⟩ V (by decide)
    rw [show (sumN (⟨#[49, 50, 51, 52, 53, 54, 55, 56, 57]⟩ : ByteArray).data.toList) = 3421780262 from sum_nine] at this
    exact this
  have hl : (⟨(sector 1 0 0 []).toArray⟩ : ByteArray).size = 128 := by show (sector 1 0 0 []).toArray.size = 128; rw [List.size_toArray]; exact sector_len 1 0 0 [] (by simp)
  have KK := Aside0.mk K
  have KKS := Aside0.mk KS
  clear K KS
  generalize (⟨(sector 1 0 0 []).toArray⟩ : ByteArray) = z at hl KK
  have h128 : ((z.size : Int) == 128) = true := by rw [hl]; rfl
  have h128' : (z.size == 128) = true := by rw [hl]; rfl
  clear hl
  go_enter Tryd.func42, Tryd.ntmps42
  go_wp2_with fail
  refine (KK.out _).mono ?_
  rintro x w1 ⟨rfl, h1⟩
  have H1 := Aside0.mk h1
  clear h1
  go_wp2_with fail
  refine (KKS.out _).mono ?_
  rintro x w2 ⟨rfl, rfl⟩
  go_wp2
  go_ret
  exact ⟨rfl, H1.out⟩
end Go.Proofs.YtknbhgodhmcemaaDoor.Sl
namespace Go.Proofs.YtknbhgodhmcemaaDoor.Sl
set_option linter.unusedSimpArgs false
set_option linter.unusedVariables false
set_option maxRecDepth 100000
open Go.RowKit
def blankB (l : List UInt8) : Bool := l.all (· == 0)
theorem dropWhile_nil {α : Type} (p : α → Bool) : ∀ l : List α, (l.dropWhile p).isEmpty = l.all p
  | [] => rfl
  | a :: l => by
    simp only [List.dropWhile, List.all_cons]
    cases h : p a with
    | true => simp [dropWhile_nil p l]
    | false => simp
theorem dropWhile_reverse_all (p : UInt8 → Bool) (l : List UInt8) : ((l.reverse.dropWhile p).reverse).all p = l.all p := by
  have h1 : l.reverse.all p = ((l.reverse.takeWhile p) ++ (l.reverse.dropWhile p)).all p := by rw [List.takeWhile_append_dropWhile]
  rw [List.all_reverse] at h1
  rw [List.all_reverse, h1, List.all_append, List.all_takeWhile, Bool.true_and]
theorem trim_blank (l : List UInt8) : (Lib.trimB l 0).isEmpty = blankB l := by
  unfold Lib.trimB Lib.trimLeftB Lib.trimRightB blankB
  rw [dropWhile_nil, dropWhile_reverse_all]
theorem trim_eq (l : List UInt8) : ((⟨(Lib.trimB l 0).toArray⟩ : ByteArray).toList == (⟨#[]⟩ : ByteArray).toList) = blankB l := by
  rw [← trim_blank]
  have e : (⟨(Lib.trimB l 0).toArray⟩ : ByteArray).toList = Lib.trimB l 0 := by simp
  have e0 : (⟨#[]⟩ : ByteArray).toList = [] := by simp
  rw [e, e0]
  cases Lib.trimB l 0 <;> rfl
theorem blank_calls (s : ByteArray) (w : World) (hs : s.size ≤ 9223372036854775807) :
    Calls Tryd.prog 83 #[.string s] w fun e w' => e = .returned (.bool (blankB s.data.toList)) ∧ (w' = w ∨ w' = w.drew) := by
  have K := Tryd.strings_Trim_one s 0 (by decide) w hs
  have E := Aside0.mk (trim_eq s.data.toList)
  obtain ⟨t, ht⟩ : ∃ t, (⟨(Lib.trimB s.data.toList 0).toArray⟩ : ByteArray) = t := ⟨_, rfl⟩
  rw [ht] at K E
  have KK := Aside0.mk K
  clear K ht
  go_enter Tryd.func83, Tryd.ntmps83
  go_wp2_with fail
  refine KK.out.mono ?_
  rintro x w1 ⟨rfl, h1⟩
  have H1 := Aside0.mk h1
  clear h1
  go_wp2
  go_ret
  refine ⟨?_, H1.out⟩
  rw [← E.out]
  first | rfl | (congr 2; simp)
def val (l : List UInt8) : Nat := l.foldl (fun x b => x * 256 + b.toNat) 0
theorem val_snoc (l : List UInt8) (b : UInt8) : val (l ++ [b]) = val l * 256 + b.toNat := by simp [val, List.foldl_append]
theorem val_lt (l : List UInt8) : val l < 256 ^ l.length := by
  have key : ∀ (l : List UInt8) (x : Nat), l.foldl (fun x b => x * 256 + b.toNat) x < (x + 1) * 256 ^ l.length := by
    intro l
    induction l with
    | nil => intro x; simp
    | cons b l ih =>
      intro x
      have h := ih (x * 256 + b.toNat)
      have hb := b.toNat_lt
      rw [List.foldl_cons, List.length_cons, Nat.pow_succ, Nat.mul_comm (256 ^ l.length), ← Nat.mul_assoc]
      exact Nat.lt_of_lt_of_le h (Nat.mul_le_mul_right _ (by omega))
  have := key l 0
  simpa [val] using this
theorem val_take (s : ByteArray) (j : Nat) (h : j < s.size) : val (s.data.toList.take (j + 1)) = val (s.data.toList.take j) * 256 + (s[j]'h).toNat := by
  rw [List.take_succ_eq_append_getElem (by simpa using h), val_snoc]; rfl
theorem or_byte (x b : Nat) (hb : b < 256) : x * 256 ||| b = x * 256 + b := by
  have := Nat.shiftLeft_add_eq_or_of_lt (i := 8) (a := x) (b := b) (by omega)
  rw [Nat.shiftLeft_eq] at this
  exact this.symm
theorem number2_calls (s : ByteArray) (w : World) (hs : s.size ≤ 8) :
    Calls Tryd.prog 84 #[.string s] w fun e w' => e = .returned (.int .u64 (val s.data.toList : Nat)) ∧ w = w' := by
  go_enter Tryd.func84, Tryd.ntmps84
  go_wp2
  go_loop [3, 7] (fun v i => ∃ (j : Nat), i = .int .i64 j ∧ j ≤ s.size ∧ v = .int .u64 (val (s.data.toList.take j) : Nat)) (fun _ i => s.size - (intOf i).toNat)
  case atStart => exact ⟨0, rfl, by omega, rfl⟩
  case round =>
    obtain ⟨j, rfl, hj, rfl⟩ := hrel
    by_cases hlt : j < s.size
    · have hb := (s[j]'hlt).toNat_lt
      have hv := val_lt (s.data.toList.take j)
      have hv2 : val (s.data.toList.take j) < 256 ^ 7 := Nat.lt_of_lt_of_le hv (Nat.pow_le_pow_right (by omega) (by rw [List.length_take]; omega))
      have HN := Aside0.mk (val_take s j hlt)
      generalize val (s.data.toList.take j) = X at hv2 HN ⊢
      have hX : X < 72057594037927936 := hv2
      have e1 : ((s[j]'hlt).toNat : Int) % 18446744073709551616 = ((s[j]'hlt).toNat : Int) := by omega
      have e2 := u64_or_nat (X * 256) (s[j]'hlt).toNat (by omega) (by omega)
      rw [or_byte X _ hb] at e2
      have e3 : ((X * 256 : Nat) : Int) = (X : Int) * 256 := by push_cast; rfl
      rw [e3] at e2
      clear hv hv2 e3
      go_wp2
      go_round
      case rel => exact ⟨j + 1, by go_num, by omega, by rw [HN.out]; push_cast; rfl⟩
      case measure => simp [intOf]; omega
    · have hge : j = s.size := by omega
      subst hge
      have E := Aside0.mk (show val (s.data.toList.take s.size) = val s.data.toList by rw [List.take_of_length_le (by simp)])
      go_wp2
      go_ret
      exact ⟨by rw [E.out]; rfl, rfl⟩
end Go.Proofs.YtknbhgodhmcemaaDoor.Sl
namespace Go.Proofs.YtknbhgodhmcemaaDoor.Sl
set_option linter.unusedSimpArgs false
set_option linter.unusedVariables false
set_option maxRecDepth 100000
open Go.RowKit
def low (l : List UInt8) (p : Nat) : Nat → Nat
  | 0 => 0
  | d + 1 => low l p d + (l.getD (p + d) 0).toNat * 256 ^ d
theorem low_lt (l : List UInt8) (p : Nat) : ∀ d, low l p d < 256 ^ d
  | 0 => by simp [low]
  | d + 1 => by
    have := low_lt l p d
    have hb := (l.getD (p + d) 0).toNat_lt
    rw [low, Nat.pow_succ, Nat.mul_comm (256 ^ d)]
    have h2 : (l.getD (p + d) 0).toNat * 256 ^ d ≤ 255 * 256 ^ d := Nat.mul_le_mul_right _ (by omega)
    omega
structure Rec where
  k : Nat
  g : Nat
  i : Nat
  d : ByteArray
def Rec.zero : Rec := ⟨0, 0, 0, ⟨#[]⟩⟩
def recV (r : Rec) : Array Value := #[.int .u8 (r.k : Int), .int .u64 (r.g : Int), .int .u32 (r.i : Int), .string r.d]
def openS (s : ByteArray) : Rec × Int :=
  if s.size ≠ 128 then (.zero, 4) else if blankB s.data.toList = true then (.zero, 16)
  else if sumN (s.extract 0 124).data.toList ≠ low s.data.toList 124 4 then (.zero, 8)
  else if (s.data.toList.getD 13 0).toNat > 110 ∨ blankB (s.extract (14 + (s.data.toList.getD 13 0).toNat) 124).data.toList = false then (.zero, 4)
  else (⟨(s.data.toList.getD 0 0).toNat, val (s.extract 1 9).data.toList, val (s.extract 9 13).data.toList, s.extract 14 (14 + (s.data.toList.getD 13 0).toNat)⟩, 0)
theorem at_getD (s : ByteArray) (j : Nat) (h : j < s.size) : s.data.toList.getD j 0 = s[j]'h := by
  rw [List.getD_eq_getElem?_getD, List.getElem?_eq_getElem (by simpa using h)]; rfl
theorem infoR : (Tryd.prog.info? 64).map (·.size) = some 4 := by kernel_rfl
theorem recV_one (r : Rec) : (recV r).all (·.oneCell') = true := by
  rw [Array.all_eq_true_iff_forall_mem]
  intro v hv
  simp only [recV, List.mem_toArray, List.mem_cons, List.not_mem_nil, or_false] at hv
  rcases hv with rfl | rfl | rfl | rfl <;> rfl
theorem low_step (s : ByteArray) (j : Nat) (h : 124 + j < s.size) : low s.data.toList 124 (j + 1) = low s.data.toList 124 j + (s[124 + j]'h).toNat * 256 ^ j := by
  rw [low, at_getD s _ h]
theorem or_low (x b j : Nat) (hx : x < 256 ^ j) : x ||| b * 256 ^ j = x + b * 256 ^ j := by
  have e : (256 : Nat) ^ j = 2 ^ (8 * j) := by rw [Nat.pow_mul]
  rw [e] at hx ⊢
  have := Nat.shiftLeft_add_eq_or_of_lt (i := 8 * j) (a := b) (b := x) hx
  rw [Nat.shiftLeft_eq] at this
  rw [Nat.or_comm, ← this, Nat.add_comm]
theorem or_u32_low {x b j : Nat} (hx : x < 256 ^ j) (hb : b < 256) (hj : j < 4) : bits .or .u32 (x : Int) ((b : Int) % 4294967296 * 2 ^ (8 * j) % 4294967296) = ((x + b * 256 ^ j : Nat) : Int) := by
  have h1 : b * 256 ^ j < 4294967296 := by
    have : j = 0 ∨ j = 1 ∨ j = 2 ∨ j = 3 := by omega
    rcases this with rfl | rfl | rfl | rfl <;> omega
  have h2 : x < 4294967296 := Nat.lt_of_lt_of_le hx (by
    have : j = 0 ∨ j = 1 ∨ j = 2 ∨ j = 3 := by omega
    rcases this with rfl | rfl | rfl | rfl <;> omega)
  have e : (b : Int) % 4294967296 * 2 ^ (8 * j) % 4294967296 = ((b * 256 ^ j : Nat) : Int) := by
    rw [show (b : Int) % 4294967296 = (b : Int) by omega, Int.pow_mul, show (2 : Int) ^ 8 = ((256 : Nat) : Int) by decide, ← Int.natCast_pow, ← Int.natCast_mul]
    omega
  rw [e, u32_or_nat x _ h2 h1, or_low x b j hx]
theorem openS_len {s : ByteArray} (h : s.size ≠ 128) : openS s = (.zero, 4) := by unfold openS; rw [if_pos h]
theorem openS_blank {s : ByteArray} (h : s.size = 128) (h2 : blankB s.data.toList = true) : openS s = (.zero, 16) := by unfold openS; rw [if_neg (by omega), if_pos h2]
theorem openS_sum {s : ByteArray} (h : s.size = 128) (h2 : blankB s.data.toList = false) (h3 : sumN (s.extract 0 124).data.toList ≠ low s.data.toList 124 4) : openS s = (.zero, 8) := by
  unfold openS; rw [if_neg (by omega), if_neg (by simp [h2]), if_pos h3]
theorem openS_form {s : ByteArray} (h : s.size = 128) (h2 : blankB s.data.toList = false) (h3 : sumN (s.extract 0 124).data.toList = low s.data.toList 124 4)
    (h4 : (s.data.toList.getD 13 0).toNat > 110 ∨ blankB (s.extract (14 + (s.data.toList.getD 13 0).toNat) 124).data.toList = false) : openS s = (.zero, 4) := by
  unfold openS; rw [if_neg (by omega), if_neg (by simp [h2]), if_neg (fun e => e h3), if_pos h4]
theorem openS_ok {s : ByteArray} (h : s.size = 128) (h2 : blankB s.data.toList = false) (h3 : sumN (s.extract 0 124).data.toList = low s.data.toList 124 4)
    (h4 : (s.data.toList.getD 13 0).toNat ≤ 110) (h5 : blankB (s.extract (14 + (s.data.toList.getD 13 0).toNat) 124).data.toList = true) :
    openS s = (⟨(s.data.toList.getD 0 0).toNat, val (s.extract 1 9).data.toList, val (s.extract 9 13).data.toList, s.extract 14 (14 + (s.data.toList.getD 13 0).toNat)⟩, 0) := by
  unfold openS; rw [if_neg (by omega), if_neg (by simp [h2]), if_neg (fun e => e h3), if_neg (fun e => e.elim (fun e => absurd e (by omega)) (fun e => by rw [h5] at e; cases e))]
def RB4 (w : World) (W : World) : Prop := Below w.heap.size w W ∧ ∃ cs : Array Value, W.heap[w.heap.size]? = some (.cells cs 64 (0, 0)) ∧ cs.size = 4
def RB (w : World) (W : World) : Prop := Below w.heap.size w W ∧ W.heap[w.heap.size]? = some (.cells #[.int .u8 0, .int .u64 0, .int .u32 0, .string ⟨#[]⟩] 64 (0, 0))
theorem RB.step {w W W' : World} (h : RB w W) (hb : W' = W ∨ W' = W.drew) : RB w W' := by
  rcases hb with rfl | rfl
  · exact h
  · exact ⟨h.1.drew, h.2⟩
set_option maxHeartbeats 1000000 in
theorem open_calls (s : ByteArray) (w : World) (hs : s.size ≤ 1000) :
    Calls Tryd.prog 47 #[.string s] w fun e w' => e = .returned (.tuple #[.agg (recV (openS s).1), .int .i64 (openS s).2]) ∧ Below w.heap.size w w' := by
  have hz := heap_alloc_new w (.cells #[.int .u8 0, .int .u64 0, .int .u32 0, .string ⟨#[]⟩] 64)
  have hi : (Tryd.prog.info? 64).map (·.size) = some (#[.int .u8 0, .int .u64 0, .int .u32 0, .string ⟨#[]⟩] : Array Value).size := infoR
  have ho : (#[.int .u8 0, .int .u64 0, .int .u32 0, .string ⟨#[]⟩] : Array Value).all (·.oneCell') = true := recV_one .zero
  by_cases h1 : s.size = 128
  · have c1 : ((s.size : Int) != 128) = false := by simp [h1]
    have c1' : (s.size != 128) = false := by simp [h1]
    have KB := Aside0.mk (fun V => blank_calls s V (by omega))
    obtain ⟨bl, hbl⟩ : ∃ b, blankB s.data.toList = b := ⟨_, rfl⟩
    rw [hbl] at KB
    have H1 := Aside0.mk h1
    have HBL := Aside0.mk hbl
    have HZ := Aside0.mk (show RB w (w.alloc (.cells #[.int .u8 0, .int .u64 0, .int .u32 0, .string ⟨#[]⟩] 64)) from ⟨(Below.refl _ _).alloc (Nat.le_refl _) _, hz⟩)
    clear h1 hs hbl hz
    go_enter Tryd.func47, Tryd.ntmps47
    go_wp2_with fail
    refine (KB.out _).mono ?_
    rintro x w1 ⟨rfl, hw1⟩
    have B1 := Aside0.mk (HZ.out.step hw1)
    have hZ1 := B1.out.2
    clear hw1 KB HZ
    cases bl with
    | true =>
      have E := Aside0.mk (openS_blank H1.out HBL.out)
      go_wp2_with (refine wpList_store_row rfl 64 _ _ rfl w.heap.size #[.int .u8 0, .int .u64 0, .int .u32 0, .string ⟨#[]⟩] rfl rfl 64 _ hZ1 hi rfl ho ?_)
      exact bodyPost_ret (Cel.end_cell rfl _ _ _ _ _ hZ1 rfl Tryd.underlying64 rfl hi) rfl ⟨by rw [E.out]; rfl, below_setRow B1.out.1 (Nat.le_refl _) _⟩
    | false =>
      have KS := Aside0.mk (fun V => sum_calls (s.extract 0 124) V (by rw [ByteArray.size_extract]; have := H1.out; omega))
      have hsl := sumN_lt (s.extract 0 124).data.toList
      obtain ⟨S, hS⟩ : ∃ S, sumN (s.extract 0 124).data.toList = S := ⟨_, rfl⟩
      obtain ⟨T, hT⟩ : ∃ T, low s.data.toList 124 4 = T := ⟨_, rfl⟩
      rw [hS] at KS hsl
      have HS := Aside0.mk hS
      have HT := Aside0.mk hT
      have HSl := Aside0.mk hsl
      clear hS hT hsl hZ1
      go_wp2_with fail
      go_loop [4, 16] (fun t i => ∃ (j : Nat), i = .int .i64 j ∧ j ≤ 4 ∧ t = .int .u32 (low s.data.toList 124 j : Nat)) (fun _ i => 4 - (intOf i).toNat)
      case atStart => exact ⟨0, rfl, by omega, rfl⟩
      case round =>
        obtain ⟨j, rfl, hj, rfl⟩ := hrel
        by_cases hlt : j < 4
        · have hx1 : 0 ≤ (j : Int) := by omega
          have hx2 : (j : Int) < 4 := by omega
          have hj2 : 124 + j < s.size := by have := H1.out; omega
          have hj3 : (124 : Int) + (j : Int) < (s.size : Int) := by omega
          have hb := (s[124 + j]'hj2).toNat_lt
          have E := Aside0.mk (show Value.int .u32 (bits .or .u32 (low s.data.toList 124 j : Nat) (((s[124 + j]'hj2).toNat : Int) % 4294967296 * 2 ^ (8 * j) % 4294967296)) = .int .u32 (low s.data.toList 124 (j + 1) : Nat) by
            rw [or_u32_low (low_lt _ _ _) hb hlt, low_step s j hj2])
          clear hb
          go_wp2
          go_round
          case rel => exact ⟨j + 1, by go_num, by omega, E.out⟩
          case measure => simp [intOf]; omega
        · have hge : j = 4 := by omega
          subst hge
          rw [HT.out]
          have hsz : (s.size : Int) = 128 := by have := H1.out; omega
          have hle : 124 ≤ s.size := by have := H1.out; omega
          by_cases hST : S = T
          · subst hST
            have t1 : ((S : Int) != (S : Int)) = false := by simp
            have hST : sumN (s.extract 0 124).data.toList = low s.data.toList 124 4 := by rw [HS.out, HT.out]
            have hl0 : 0 < s.size := by omega
            have hl13 : 13 < s.size := by omega
            have hn8 := (s[13]'hl13).toNat_lt
            have hat := at_getD s 13 hl13
            obtain ⟨n, hn⟩ : ∃ n, (s[13]'hl13).toNat = n := ⟨_, rfl⟩
            rw [hn] at hn8
            have HST := Aside0.mk hST
            have HAT := Aside0.mk (show (s.data.toList.getD 13 0).toNat = n by rw [hat, hn])
            have HN := Aside0.mk hn
            clear hST hat hn
            by_cases hn1 : 110 < n
            · have t2 : decide (110 < (n : Int)) = true := decide_eq_true (by omega)
              have t3 : decide (110 < n) = true := decide_eq_true hn1
              have E := Aside0.mk (openS_form H1.out HBL.out HST.out (.inl (by rw [HAT.out]; exact hn1)))
              have hZ1 := B1.out.2
              have hn := HN.out
              go_wp2_with fail
              refine (KS.out _).mono ?_
              rintro x w2 ⟨rfl, rfl⟩
              go_wp2_with (refine wpList_store_row rfl 64 _ _ rfl w.heap.size #[.int .u8 0, .int .u64 0, .int .u32 0, .string ⟨#[]⟩] rfl rfl 64 _ hZ1 hi rfl ho ?_)
              exact bodyPost_ret (Cel.end_cell rfl _ _ _ _ _ hZ1 rfl Tryd.underlying64 rfl hi) rfl ⟨by rw [E.out]; rfl, below_setRow B1.out.1 (Nat.le_refl _) _⟩
            · have t2 : decide (110 < (n : Int)) = false := decide_eq_false (by omega)
              have t3 : decide (110 < n) = false := decide_eq_false hn1
              have hn2 : 14 + n ≤ 124 := by omega
              have hn3 : (14 : Int) + (n : Int) ≤ 124 := by omega
              have K2 := Aside0.mk (fun V => blank_calls (s.extract (14 + n) 124) V (by rw [ByteArray.size_extract]; omega))
              obtain ⟨b2, hb2⟩ : ∃ b, blankB (s.extract (14 + n) 124).data.toList = b := ⟨_, rfl⟩
              rw [hb2] at K2
              have HB2 := Aside0.mk hb2
              clear hb2
              have hn := HN.out
              have hslice : ∀ W : World, (Instr.slice 9 (.string s) (some (.int .i64 (14 + (n : Int)))) (some (.int .i64 124)) none).run Tryd.prog W = .ok (.string (s.extract (14 + n) 124)) W := fun W => by
                have := run_slice_string (P := Tryd.prog) 9 s .i64 .i64 (14 + (n : Int)) 124 Tryd.underlying9 (by omega) (by omega) (by omega) (w := W)
                rw [show (14 + (n : Int)).toNat = 14 + n by omega] at this
                exact this
              go_wp2_with fail
              refine (KS.out _).mono ?_
              rintro x w1' ⟨rfl, rfl⟩
              go_wp2_with fail
              refine (K2.out _).mono ?_
              rintro x w2 ⟨rfl, hw2⟩
              have B2 := Aside0.mk (B1.out.step hw2)
              have hZ1 := B2.out.2
              clear hw2 B1 K2
              cases b2 with
              | false =>
                have E := Aside0.mk (openS_form H1.out HBL.out HST.out (.inr (by rw [HAT.out]; exact HB2.out)))
                go_wp2_with (refine wpList_store_row rfl 64 _ _ rfl w.heap.size #[.int .u8 0, .int .u64 0, .int .u32 0, .string ⟨#[]⟩] rfl rfl 64 _ hZ1 hi rfl ho ?_)
                exact bodyPost_ret (Cel.end_cell rfl _ _ _ _ _ hZ1 rfl Tryd.underlying64 rfl hi) rfl ⟨by rw [E.out]; rfl, below_setRow B2.out.1 (Nat.le_refl _) _⟩
              | true =>
                have E := Aside0.mk (openS_ok H1.out HBL.out HST.out (by rw [HAT.out]; omega) (by rw [HAT.out]; exact HB2.out))
                rw [HAT.out, at_getD s 0 hl0] at E
                have KG := Aside0.mk (fun V => number2_calls (s.extract 1 9) V (by rw [ByteArray.size_extract]; omega))
                have KI := Aside0.mk (fun V => number2_calls (s.extract 9 13) V (by rw [ByteArray.size_extract]; omega))
                have hi0 := val_lt (s.extract 9 13).data.toList
                obtain ⟨g0, hg0⟩ : ∃ g, val (s.extract 1 9).data.toList = g := ⟨_, rfl⟩
                obtain ⟨i0, hi0'⟩ : ∃ g, val (s.extract 9 13).data.toList = g := ⟨_, rfl⟩
                rw [hg0] at KG E
                rw [hi0'] at KI E hi0
                have hi1 : i0 < 4294967296 := Nat.lt_of_lt_of_le hi0 (by
                  have : (s.extract 9 13).data.toList.length ≤ 4 := by rw [Array.length_toList]; show (s.extract 9 13).size ≤ 4; rw [ByteArray.size_extract]; omega
                  exact Nat.pow_le_pow_right (by omega) this)
                have e5 : (i0 : Int) % 4294967296 = (i0 : Int) := by omega
                have hn4 : 14 + n ≤ s.size := by omega
                clear hg0 hi0 hi0' hi1 hn
                go_wp2_with fail
                clear hslice
                have hwrap : IntKind.i64.wrap (14 + (n : Int)) = 14 + (n : Int) := by rw [IntKind.wrap_i64]; omega
                have hwrap2 : IntKind.u32.wrap (i0 : Int) = (i0 : Int) := by rw [IntKind.wrap_u32]; omega
                have hslice2 : ∀ W : World, (Instr.slice 9 (.string s) (some (.int .i64 14)) (some (.int .i64 (14 + (n : Int)))) none).run Tryd.prog W = .ok (.string (s.extract 14 (14 + n))) W := fun W => by
                  have := run_slice_string (P := Tryd.prog) 9 s .i64 .i64 14 (14 + (n : Int)) Tryd.underlying9 (by omega) (by omega) (by omega) (w := W)
                  rw [show (14 + (n : Int)).toNat = 14 + n by omega] at this
                  exact this
                refine wp_region_held_drew (S := fun V => RB4 w V) (by kernel_rfl) ⟨B2.out.1.drew, _, hZ1, rfl⟩ (fun hH => ?_)
                refine Cel.take_at (i := 0) (some 50) (.string s) rfl rfl (by kernel_rfl) (by kernel_rfl) (by kernel_rfl) (fun _ _ _ h => h) (Or.inl ⟨by rfl, fun w hSw => by go_simp⟩) hH ?_
                refine Cel.take_at (i := 1) (some 51) (.int .u8 ((s[0]'hl0).toNat : Nat)) rfl rfl (by kernel_rfl) (by kernel_rfl) (by kernel_rfl) (fun _ _ _ h => h) (Or.inl ⟨by rfl, fun w hSw => by go_simp⟩) hH ?_
                try simp only [Act.put, List.setIfInBounds_toArray, List.set_cons_zero, List.set_cons_succ]
                refine Cel.take_at (i := 2) (some 52) (.string s) rfl rfl (by kernel_rfl) (by kernel_rfl) (by kernel_rfl) (fun _ _ _ h => h) (Or.inl ⟨by rfl, fun w hSw => by go_simp⟩) hH ?_
                refine Cel.take_at (i := 3) (some 53) (.string (s.extract 1 9)) rfl rfl (by kernel_rfl) (by kernel_rfl) (by kernel_rfl) (fun _ _ _ h => h) (Or.inl ⟨by rfl, fun w hSw => by go_simp⟩) hH ?_
                try simp only [Act.put, List.setIfInBounds_toArray, List.set_cons_zero, List.set_cons_succ]
                refine Cel.take_at (i := 5) (some 55) (.string s) rfl rfl (by kernel_rfl) (by kernel_rfl) (by kernel_rfl) (fun _ _ _ h => h) (Or.inl ⟨by rfl, fun w hSw => by go_simp⟩) hH ?_
                refine Cel.take_at (i := 6) (some 56) (.string (s.extract 9 13)) rfl rfl (by kernel_rfl) (by kernel_rfl) (by kernel_rfl) (fun _ _ _ h => h) (Or.inl ⟨by rfl, fun w hSw => by go_simp⟩) hH ?_
                try simp only [Act.put, List.setIfInBounds_toArray, List.set_cons_zero, List.set_cons_succ]
                refine Cel.take_at (i := 9) (some 59) (.string s) rfl rfl (by kernel_rfl) (by kernel_rfl) (by kernel_rfl) (fun _ _ _ h => h) (Or.inl ⟨by rfl, fun w hSw => by go_simp⟩) hH ?_
                refine Cel.take_at (i := 10) (some 60) (.int .i64 (n : Int)) rfl rfl (by kernel_rfl) (by kernel_rfl) (by kernel_rfl) (fun _ _ _ h => h) (Or.inl ⟨by rfl, fun w hSw => by go_simp⟩) hH ?_
                try simp only [Act.put, List.setIfInBounds_toArray, List.set_cons_zero, List.set_cons_succ]
                refine Cel.take_at (i := 11) (some 61) (.int .i64 (14 + (n : Int))) rfl rfl (by kernel_rfl) (by kernel_rfl) (by kernel_rfl) (fun _ _ _ h => h) (Or.inl ⟨by rfl, fun w hSw => by go_simp⟩) hH ?_
                refine Cel.take_at (i := 12) (some 62) (.string (s.extract 14 (14 + n))) rfl rfl (by kernel_rfl) (by kernel_rfl) (by kernel_rfl) (fun _ _ _ h => h) (Or.inl ⟨by rfl, fun w hSw => by go_simp⟩) hH ?_
                try simp only [Act.put, List.setIfInBounds_toArray, List.set_cons_zero, List.set_cons_succ]
                generalize w2.drew = V0 at hH ⊢
                try simp only [Act.put, List.setIfInBounds_toArray, List.set_cons_zero, List.set_cons_succ]
                refine wpAnyH_ready (rs := [4]) (by kernel_rfl) (by simp) (AllReadyH.cons rfl (fun K hK => ?_) AllReadyH.nil)
                go_simp
                refine (KG.out _).mono ?_
                rintro x v4 ⟨rfl, rfl⟩
                refine hK.out _ _ hH (fun hH => ?_)
                clear hK K
                try simp only [Act.put, List.setIfInBounds_toArray, List.set_cons_zero, List.set_cons_succ]
                refine wpAnyH_ready (rs := [7]) (by kernel_rfl) (by simp) (AllReadyH.cons rfl (fun K hK => ?_) AllReadyH.nil)
                go_simp
                refine (KI.out _).mono ?_
                rintro x v7 ⟨rfl, rfl⟩
                refine hK.out _ _ hH (fun hH => ?_)
                clear hK K
                try simp only [Act.put, List.setIfInBounds_toArray, List.set_cons_zero, List.set_cons_succ]
                refine Cel.take_at (i := 8) (some 58) (.int .u32 (i0 : Nat)) rfl rfl (by kernel_rfl) (by kernel_rfl) (by kernel_rfl) (fun _ _ _ h => h) (Or.inl ⟨by rfl, fun w hSw => by go_simp⟩) hH ?_
                try simp only [Act.put, List.setIfInBounds_toArray, List.set_cons_zero, List.set_cons_succ]
                refine Cel.take_at (i := 13) (some 63) (.agg #[.int .u8 ((s[0]'hl0).toNat : Nat), .int .u64 (g0 : Nat), .int .u32 (i0 : Nat), .string (s.extract 14 (14 + n))]) rfl rfl (by kernel_rfl) (by kernel_rfl) (by kernel_rfl) (fun _ _ _ h => h) (Or.inl ⟨by rfl, fun w hSw => by go_simp⟩) hH ?_
                try simp only [Act.put, List.setIfInBounds_toArray, List.set_cons_zero, List.set_cons_succ]
                obtain ⟨hb0, cs0, hc0, hl0'⟩ := hH
                have hif : (Tryd.prog.info? 64).map (·.size) = some (#[.int .u8 ((s[0]'hl0).toNat : Nat), .int .u64 (g0 : Nat), .int .u32 (i0 : Nat), .string (s.extract 14 (14 + n))] : Array Value).size := infoR
                have hof : (#[.int .u8 ((s[0]'hl0).toNat : Nat), .int .u64 (g0 : Nat), .int .u32 (i0 : Nat), .string (s.extract 14 (14 + n))] : Array Value).all (·.oneCell') = true := recV_one ⟨(s[0]'hl0).toNat, g0, i0, s.extract 14 (14 + n)⟩
                refine wpAnyH_ready (rs := [14]) (by kernel_rfl) (by simp) (AllReadyH.cons rfl (fun K hK => ?_) AllReadyH.nil)
                rw [if_pos (by rfl)]
                refine Cel.wp_store_none rfl 64 (.tmp 2) (.tmp 63) rfl w.heap.size _ rfl rfl 64 _ hc0 hif hl0' hof ?_
                have hR := setRow_heap V0 w.heap.size _ #[.int .u8 ((s[0]'hl0).toNat : Nat), .int .u64 (g0 : Nat), .int .u32 (i0 : Nat), .string (s.extract 14 (14 + n))] 64 (0, 0) hc0
                have hbz := below_setRow hb0 (Nat.le_refl _) #[.int .u8 ((s[0]'hl0).toNat : Nat), .int .u64 (g0 : Nat), .int .u32 (i0 : Nat), .string (s.extract 14 (14 + n))]
                refine hK.out _ _ ⟨hbz, _, hR, rfl⟩ (fun hH => ?_)
                clear hK K
                try simp only [Act.put, List.setIfInBounds_toArray, List.set_cons_zero, List.set_cons_succ]
                refine Cel.take_at (i := 15) (some 3) (.int .i64 0) rfl rfl (by kernel_rfl) (by kernel_rfl) (by kernel_rfl) (fun _ _ _ h => h) (Or.inl ⟨by rfl, fun w hSw => by go_simp⟩) hH ?_
                refine wpAnyH_done (by kernel_rfl) ?_ _
                try simp only [Act.put, List.setIfInBounds_toArray, List.set_cons_zero, List.set_cons_succ]
                have HR := Aside0.mk hc0
                have HBZ := Aside0.mk hbz
                clear hH hR hbz hb0
                go_wp2
                exact bodyPost_ret (Cel.end_cell rfl _ _ _ _ _ HR.out rfl Tryd.underlying64 rfl hif) rfl ⟨by rw [E.out]; rfl, HBZ.out⟩
          · have t1 : ((S : Int) != (T : Int)) = true := by simp; omega
            have t1' : (S != T) = true := by simpa using hST
            have E := Aside0.mk (openS_sum H1.out HBL.out (by rw [HS.out, HT.out]; exact hST))
            clear hST
            have hZ1 := B1.out.2
            go_wp2_with fail
            refine (KS.out _).mono ?_
            rintro x w2 ⟨rfl, rfl⟩
            go_wp2_with (refine wpList_store_row rfl 64 _ _ rfl w.heap.size #[.int .u8 0, .int .u64 0, .int .u32 0, .string ⟨#[]⟩] rfl rfl 64 _ hZ1 hi rfl ho ?_)
            exact bodyPost_ret (Cel.end_cell rfl _ _ _ _ _ hZ1 rfl Tryd.underlying64 rfl hi) rfl ⟨by rw [E.out]; rfl, below_setRow B1.out.1 (Nat.le_refl _) _⟩
  · have c1 : ((s.size : Int) != 128) = true := by simp; omega
    have c1' : (s.size != 128) = true := by simp [h1]
    have E := Aside0.mk (openS_len h1)
    go_enter Tryd.func47, Tryd.ntmps47
    go_wp2_with (refine wpList_store_row rfl 64 _ _ rfl w.heap.size #[.int .u8 0, .int .u64 0, .int .u32 0, .string ⟨#[]⟩] rfl rfl 64 _ hz hi rfl ho ?_)
    exact bodyPost_ret (Cel.end_cell rfl _ _ _ _ _ hz rfl Tryd.underlying64 rfl hi) rfl ⟨by rw [E.out]; rfl, below_setRow ((Below.refl _ _).alloc (Nat.le_refl _) _) (Nat.le_refl _) _⟩
end Go.Proofs.YtknbhgodhmcemaaDoor.Sl
namespace Go.Proofs.YtknbhgodhmcemaaDoor.Sl
set_option linter.unusedSimpArgs false
set_option linter.unusedVariables false
set_option maxRecDepth 100000
open Go.RowKit
def QB (w : World) (W : World) : Prop := Below w.heap.size w W ∧ W.heap[w.heap.size]? = some (.cells #[.int .u8 0, .int .u64 0, .int .u32 0, .string ⟨#[]⟩] 119 (0, 0))
theorem QB.step {w W W' : World} (h : QB w W) (hb : W' = W ∨ W' = W.drew) : QB w W' := by
  rcases hb with rfl | rfl
  · exact h
  · exact ⟨h.1.drew, h.2⟩
end Go.Proofs.YtknbhgodhmcemaaDoor.Sl
namespace Go.Proofs.YtknbhgodhmcemaaDoor.Sl
set_option linter.unusedSimpArgs false
set_option maxRecDepth 100000
open Go.RowKit
theorem keep {W W' : World} {b : Nat} {o : Obj} (h : W.heap[b]? = some o) (hb : Below W.heap.size W W') : W'.heap[b]? = some o :=
  (hb.block _ (Array.getElem?_eq_some_iff.1 h).1).trans h
end Go.Proofs.YtknbhgodhmcemaaDoor.Sl
namespace Go.Proofs.YtknbhgodhmcemaaDoor.Sl
set_option linter.unusedSimpArgs false
set_option linter.unusedVariables false
set_option maxRecDepth 100000
open Go.RowKit
theorem grown_of_below {W W' : World} (h : Below W.heap.size W W') : W.grownBy W' none := ⟨h.os, h.tape, h.output, h.size, fun k hk _ => h.block k hk⟩
theorem owns_keep {W W' : World} {base : Nat} {e : TypeId} {sz n : Nat} {v : Value} {xs : List Value} (h : W.ownsRow base e sz v n xs) (hb : Below W.heap.size W W') : W'.ownsRow base e sz v n xs :=
  h.kept (grown_of_below hb) (by cases v.ownBlock <;> simp)
def QC (w : World) (x : Array Value) (v : Value) (l : List UInt8) (W : World) : Prop :=
  Below w.heap.size w W ∧ W.heap[w.heap.size]? = some (.cells x 119 (0, 0)) ∧ W.ownsRow (w.heap.size + 1) 5 1 v l.length (Lib.byteCells l)
theorem QC.step {w W W' : World} {x : Array Value} {v : Value} {l : List UInt8} (h : QC w x v l W) (hb : Below W.heap.size W W') : QC w x v l W' :=
  ⟨h.1.trans (hb.mono h.1.size), keep h.2.1 hb, owns_keep h.2.2 hb⟩
theorem QC.size {w W : World} {x : Array Value} {v : Value} {l : List UInt8} (h : QC w x v l W) : w.heap.size + 1 ≤ W.heap.size := (Array.getElem?_eq_some_iff.1 h.2.1).1
theorem QC.cell {w W : World} {x : Array Value} {v : Value} {l : List UInt8} (h : QC w x v l W) (j : Nat) : W.cell? ⟨w.heap.size, j, none⟩ = x[j]? := cell_of_row W _ j _ _ _ h.2.1
end Go.Proofs.YtknbhgodhmcemaaDoor.Sl
namespace Go.Proofs.YtknbhgodhmcemaaDoor.Sl
set_option linter.unusedSimpArgs false
set_option linter.unusedVariables false
set_option maxRecDepth 100000
open Go.RowKit
theorem bw_val (v n : Nat) : ∀ d, d ≤ n → val (bw v n d) = v / 256 ^ (n - d) % 256 ^ d
  | 0, _ => by simp [bw, val, Nat.mod_one]
  | d + 1, h => by
    rw [bw, val_snoc, bw_val v n d (by omega), show n - 1 - d = n - (d + 1) by omega]
    have e : n - d = n - (d + 1) + 1 := by omega
    rw [e, Nat.pow_succ, ← Nat.div_div_eq_div_mul]
    generalize v / 256 ^ (n - (d + 1)) = X
    rw [show (UInt8.ofNat X).toNat = X % 256 by simp [UInt8.toNat_ofNat], Nat.pow_succ, Nat.mul_comm (256 ^ d) 256, Nat.mod_mul]
    rw [Nat.mul_comm, Nat.add_comm]
theorem be_val {v n : Nat} (h : v < 256 ^ n) : val (be v n) = v := by
  rw [be, bw_val v n n (Nat.le_refl _), Nat.sub_self, Nat.pow_zero, Nat.div_one, Nat.mod_eq_of_lt h]
theorem low_lb (b : List UInt8) (hb : b.length = 124) (x : Nat) (hx : x < 4294967296) : low (b ++ lb x 4) 124 4 = x := by
  have g : ∀ i, (b ++ lb x 4).getD (124 + i) 0 = (lb x 4).getD i 0 := fun i => by
    rw [List.getD_eq_getElem?_getD, List.getElem?_append_right (by omega), hb, List.getD_eq_getElem?_getD, Nat.add_sub_cancel_left]
  simp only [low, g]
  simp [lb, UInt8.toNat_ofNat]
  omega
theorem ext_list (l : List UInt8) (a b : Nat) : ((⟨l.toArray⟩ : ByteArray).extract a b).data.toList = (l.take b).drop a := by
  rw [ByteArray.data_extract]
  rw [Array.toList_extract, List.drop_take]
theorem mid {a b c : List UInt8} {m n : Nat} (ha : a.length = m) (hb : m + b.length = n) : ((a ++ (b ++ c)).take n).drop m = b := by
  subst ha; subst hb
  rw [← List.append_assoc, List.take_append_of_le_length (by rw [List.length_append]; exact Nat.le_refl _), List.take_of_length_le (by rw [List.length_append]; omega), List.drop_left]
theorem at_mid {a c : List UInt8} {x : UInt8} {m : Nat} (ha : a.length = m) : (a ++ x :: c).getD m 0 = x := by
  subst ha
  rw [List.getD_eq_getElem?_getD, List.getElem?_append_right (Nat.le_refl _), Nat.sub_self]; rfl
theorem be1 (x : Nat) : be x 1 = [UInt8.ofNat x] := by simp [be, bw]
theorem head14_len (k g i n : Nat) : (head14 k g i n).length = 14 := by simp [head14, be_len]
theorem body_len (k g i : Nat) (d : List UInt8) (h : d.length ≤ 110) : (body k g i d).length = 124 := by simp [body, head14_len]; omega
theorem sum_zeros : sumN (List.replicate 124 0) ≠ 0 := by decide +kernel
theorem blank_iff (l : List UInt8) : blankB l = true ↔ l = List.replicate l.length 0 := by
  constructor
  · intro h
    rw [List.eq_replicate_iff]
    refine ⟨rfl, fun b hb => ?_⟩
    have := List.all_eq_true.1 h b hb
    simpa using this
  · intro h
    rw [blankB, List.all_eq_true]
    intro b hb
    rw [h] at hb
    simp [(List.mem_replicate.1 hb).2]
theorem blank_append (a b : List UInt8) : blankB (a ++ b) = (blankB a && blankB b) := List.all_append
theorem sector_not_blank (b : List UInt8) (hb : b.length = 124) : blankB (b ++ lb (sumN b) 4) = false := by
  cases h : blankB (b ++ lb (sumN b) 4) with
  | false => rfl
  | true =>
    rw [blank_append, Bool.and_eq_true] at h
    have h1 := (blank_iff b).1 h.1
    rw [hb] at h1
    have h2 := (blank_iff _).1 h.2
    have h3 : low (b ++ lb (sumN b) 4) 124 4 = 0 := by
      rw [h2, lb_len]
      have g : ∀ i, i < 4 → (b ++ List.replicate 4 (0 : UInt8)).getD (124 + i) 0 = 0 := fun i hi => by
        rw [List.getD_eq_getElem?_getD, List.getElem?_append_right (by omega), hb, Nat.add_sub_cancel_left, List.getElem?_replicate, if_pos hi]; rfl
      simp only [low, g 0 (by omega), g 1 (by omega), g 2 (by omega), g 3 (by omega)]
      rfl
    rw [low_lb b hb _ (sumN_lt b), h1] at h3
    exact absurd h3 sum_zeros
theorem open_sector (k g i : Nat) (d : ByteArray) (hk : k < 256) (hg : g < 18446744073709551616) (hi : i < 4294967296) (hd : d.size ≤ 110) :
    openS ⟨(sector k g i d.data.toList).toArray⟩ = (⟨k, g, i, d⟩, 0) := by
  have hdl : d.data.toList.length = d.size := by rw [Array.length_toList]; rfl
  have hbl : (body k g i d.data.toList).length = 124 := body_len _ _ _ _ (by omega)
  have hL : (⟨(sector k g i d.data.toList).toArray⟩ : ByteArray).data.toList = sector k g i d.data.toList := rfl
  have hsec : sector k g i d.data.toList = body k g i d.data.toList ++ lb (sumN (body k g i d.data.toList)) 4 := rfl
  have h1 : (⟨(sector k g i d.data.toList).toArray⟩ : ByteArray).size = 128 := by show (sector k g i d.data.toList).toArray.size = 128; rw [List.size_toArray]; exact sector_len k g i _ (by omega)
  have hex : ∀ a b, b ≤ 124 → ((⟨(sector k g i d.data.toList).toArray⟩ : ByteArray).extract a b).data.toList = ((body k g i d.data.toList).take b).drop a := fun a b hb => by
    rw [ext_list, hsec, List.take_append_of_le_length (by omega)]
  have e13 : (sector k g i d.data.toList).getD 13 0 = UInt8.ofNat d.size := by
    have e : sector k g i d.data.toList = (be k 1 ++ be g 8 ++ be i 4) ++ UInt8.ofNat d.size :: (d.data.toList ++ List.replicate (110 - d.size) 0 ++ lb (sumN (body k g i d.data.toList)) 4) := by
      rw [hsec]
      generalize lb (sumN (body k g i d.data.toList)) 4 = R
      rw [body, head14, be1 d.data.toList.length, hdl]
      simp [List.append_assoc]
    rw [e]; exact at_mid (by simp [be_len])
  have e0 : (sector k g i d.data.toList).getD 0 0 = UInt8.ofNat k := by
    rw [hsec, body, head14, be1 k]; rfl
  have t13 : ((sector k g i d.data.toList).getD 13 0).toNat = d.size := by rw [e13]; simp [UInt8.toNat_ofNat]; omega
  have t0 : ((sector k g i d.data.toList).getD 0 0).toNat = k := by rw [e0]; simp [UInt8.toNat_ofNat]; omega
  have b1 : ((body k g i d.data.toList).take 9).drop 1 = be g 8 := by
    rw [show body k g i d.data.toList = be k 1 ++ (be g 8 ++ (be i 4 ++ be d.data.toList.length 1 ++ d.data.toList ++ List.replicate (110 - d.data.toList.length) 0)) by rw [body, head14]; simp only [List.append_assoc]]
    exact mid (be_len _ _) (by rw [be_len])
  have b2 : ((body k g i d.data.toList).take 13).drop 9 = be i 4 := by
    rw [show body k g i d.data.toList = (be k 1 ++ be g 8) ++ (be i 4 ++ (be d.data.toList.length 1 ++ d.data.toList ++ List.replicate (110 - d.data.toList.length) 0)) by rw [body, head14]; simp only [List.append_assoc]]
    exact mid (by simp [be_len]) (by rw [be_len])
  have b3 : ((body k g i d.data.toList).take (14 + d.size)).drop 14 = d.data.toList := by
    rw [show body k g i d.data.toList = head14 k g i d.data.toList.length ++ (d.data.toList ++ (List.replicate (110 - d.data.toList.length) 0)) by rw [body]; simp only [List.append_assoc]]
    exact mid (head14_len _ _ _ _) (by rw [hdl])
  have b4 : ((body k g i d.data.toList).take 124).drop (14 + d.size) = List.replicate (110 - d.size) 0 := by
    rw [show body k g i d.data.toList = (head14 k g i d.data.toList.length ++ d.data.toList) ++ (List.replicate (110 - d.size) 0 ++ []) by rw [body, hdl]; simp only [List.append_assoc, List.append_nil]]
    exact mid (by rw [List.length_append, head14_len, hdl]) (by rw [List.length_replicate]; omega)
  have hda : (⟨(sector k g i d.data.toList).toArray⟩ : ByteArray).extract 14 (14 + d.size) = d := by
    apply ByteArray.ext
    apply Array.toList_inj.1
    rw [hex 14 (14 + d.size) (by omega), b3]
  rw [openS_ok h1 (by rw [hL]; exact sector_not_blank _ hbl) (by rw [hex 0 124 (by omega), List.drop_zero, List.take_of_length_le (by omega), hL, hsec, low_lb _ hbl _ (sumN_lt _)]) (by rw [hL, t13]; exact hd)
    (by rw [hL, t13, hex (14 + d.size) 124 (by omega), b4]; simp [blankB]), hL, t13, t0, hex 1 9 (by omega), hex 9 13 (by omega), b1, b2, be_val (by simpa using hg), be_val (by simpa using hi), hda]
theorem close_ok (k g i : Nat) (d : ByteArray) (hd : d.size ≤ 110) : closeS k g i d = (⟨(sector k g i d.data.toList).toArray⟩, 0) := by unfold closeS; rw [if_neg (by omega)]
end Go.Proofs.YtknbhgodhmcemaaDoor.Sl
namespace Go.Proofs.YtknbhgodhmcemaaDoor.Lg
set_option linter.unusedSimpArgs false
set_option linter.unusedVariables false
open Go.Proofs.YtknbhgodhmcemaaDoor.Dk Go.Proofs.YtknbhgodhmcemaaDoor.Sl
def sec (g i : Nat) (d : ByteArray) : ByteArray := ⟨(sector 1 g i d.data.toList).toArray⟩
def dead (g : Nat) (s : ByteArray) : Prop := ¬ ((openS s).2 = 0 ∧ (openS s).1.k = 1 ∧ (openS s).1.g = g)
theorem applyW_cases (i : Nat) (e : ByteArray) : ∀ (ws : List Wt) (l : List ByteArray), (applyW l ws).getD i e = l.getD i e ∨ ∃ x ∈ ws, x.1 = i ∧ (applyW l ws).getD i e = x.2
  | [], l => .inl rfl
  | x :: r, l => by
    rw [applyW]
    rcases applyW_cases i e r (l.set x.1 x.2) with h | ⟨y, h1, h2, h3⟩
    · by_cases hx : x.1 = i
      · by_cases hi : i < l.length
        · refine .inr ⟨x, List.mem_cons_self, hx, h.trans ?_⟩
          rw [List.getD_eq_getElem?_getD, hx, List.getElem?_set_self hi]; rfl
        · refine .inl (h.trans ?_)
          rw [List.getD_eq_getElem?_getD, List.getD_eq_getElem?_getD, List.getElem?_eq_none (by rw [List.length_set]; omega), List.getElem?_eq_none (by omega)]
      · refine .inl (h.trans ?_)
        rw [List.getD_eq_getElem?_getD, List.getElem?_set_ne hx, List.getD_eq_getElem?_getD]
    · exact .inr ⟨y, List.mem_cons_of_mem _ h1, h2, h3⟩
structure LK (fr room g : Nat) (all : List ByteArray) (sure : Nat) (S : DS) : Prop where
  hl : fr + room ≤ S.lasts.length
  hn : all.length ≤ room
  hs : sure ≤ all.length
  sz : ∀ j, j < all.length → (all.getD j ByteArray.empty).size ≤ 110
  ok : S.ok
  A : ∀ x ∈ S.waits, fr ≤ x.1 → x.1 < fr + room → x.1 < fr + all.length ∧ x.2 = sec g (x.1 - fr) (all.getD (x.1 - fr) ByteArray.empty)
  Bs : ∀ j, j < sure → S.lasts.getD (fr + j) ByteArray.empty = sec g j (all.getD j ByteArray.empty)
  C : ∀ j, j < room → dead g (S.lasts.getD (fr + j) ByteArray.empty) ∨ (j < all.length ∧ S.lasts.getD (fr + j) ByteArray.empty = sec g j (all.getD j ByteArray.empty))
  D : ∀ j, j < all.length → S.read.getD (fr + j) ByteArray.empty = sec g j (all.getD j ByteArray.empty)
variable {fr room g : Nat} {all : List ByteArray} {sure : Nat} {S : DS}
theorem LK.some (h : LK fr room g all sure S) (ws : List Wt) (hw : ∀ x ∈ ws, x ∈ S.waits) (j : Nat) (hj : j < room) :
    (dead g ((applyW S.lasts ws).getD (fr + j) ByteArray.empty) ∨ (j < all.length ∧ (applyW S.lasts ws).getD (fr + j) ByteArray.empty = sec g j (all.getD j ByteArray.empty))) ∧
    (j < sure → (applyW S.lasts ws).getD (fr + j) ByteArray.empty = sec g j (all.getD j ByteArray.empty)) := by
  rcases applyW_cases (fr + j) ByteArray.empty ws S.lasts with e | ⟨x, h1, h2, h3⟩
  · rw [e]; exact ⟨h.C j hj, h.Bs j⟩
  · have hA := h.A x (hw x h1) (by omega) (by omega)
    rw [h2, Nat.add_sub_cancel_left] at hA
    rw [h3]
    exact ⟨.inr ⟨by omega, hA.2⟩, fun _ => hA.2⟩
theorem keptW_sub (kp : Nat → Bool) (k : Nat) (l : List Wt) : ∀ x ∈ keptW kp k l, x ∈ l := fun x h => keptW_mem kp x l k h
theorem LK.arm (h : LK fr room g all sure S) (a : Int) : LK fr room g all sure { S with armed := a } := ⟨h.hl, h.hn, h.hs, h.sz, h.ok, h.A, h.Bs, h.C, h.D⟩
theorem put_cases (S : DS) (i : Nat) (s : ByteArray) (hi : i < S.lasts.length) (hs : s.size = 128) :
    (S.put (i : Int) s = (S.fails.1, 7) ∧ S.fails.2 = true) ∨ (S.put (i : Int) s = ({ S.fails.1 with waits := S.waits ++ [(i, s)], ops := S.ops + 1 }, 0) ∧ S.fails.2 = false) := by
  cases hf : S.fails.2 with
  | true => exact .inl ⟨put_fails ⟨by omega, by omega⟩ hs hf, rfl⟩
  | false => refine .inr ⟨?_, rfl⟩; rw [put_ok ⟨by omega, by omega⟩ hs hf, Int.toNat_natCast]
theorem fails_armed (S : DS) : (S.armed ≤ 0 → S.fails = (S, false)) ∧ S.fails.1.armed ≤ S.armed := by
  unfold DS.fails
  constructor
  · intro h; rw [if_pos h]
  · split
    · exact Int.le_refl _
    · show S.armed - 1 ≤ S.armed; omega
end Go.Proofs.YtknbhgodhmcemaaDoor.Lg
namespace Go.Proofs.YtknbhgodhmcemaaDoor.Lg
set_option linter.unusedSimpArgs false
set_option linter.unusedVariables false
set_option maxRecDepth 100000
open Go.RowKit Go.Proofs.YtknbhgodhmcemaaDoor.Own Go.Proofs.YtknbhgodhmcemaaDoor.Cel Go.Proofs.YtknbhgodhmcemaaDoor.Dk
def logV (fr room g nx : Nat) : Array Value := #[.int .i64 (fr : Nat), .int .i64 (room : Nat), .int .u64 (g : Nat), .int .i64 (nx : Nat)]
variable {B p : Nat} {S : DS} {F : Nat → Prop} {W : World}
theorem DK.drewN (h : DK B p S F W) (n : Nat) : DK B p S F (W.drewN n) := h.keep (fun _ _ => rfl)
end Go.Proofs.YtknbhgodhmcemaaDoor.Lg
namespace Go.Proofs.YtknbhgodhmcemaaDoor.Lg
set_option linter.unusedSimpArgs false
set_option linter.unusedVariables false
set_option maxRecDepth 100000
open Go.RowKit Go.Proofs.YtknbhgodhmcemaaDoor.Own Go.Proofs.YtknbhgodhmcemaaDoor.Cel Go.Proofs.YtknbhgodhmcemaaDoor.Dk
open Go.Proofs.YtknbhgodhmcemaaDoor.Sl (closeS close_calls openS recV rc)
def AB (B p : Nat) (F : Nat → Prop) (W : World) (b3 b6 : Nat) (S : DS) (x y : Array Value) (V : World) : Prop :=
  (∃ F', DK B p S F' V ∧ (∀ k, F' k → F k ∨ W.heap.size ≤ k) ∧ ¬ F' b3 ∧ ¬ F' b6) ∧ Only (Big F W) W V ∧ V.heap[b3]? = some (.cells x 31 (0, 0)) ∧ V.heap[b6]? = some (.cells y 31 (0, 0)) ∧ W.heap.size ≤ b3 ∧ W.heap.size ≤ b6 ∧ b3 ≠ b6
variable {B p : Nat} {S : DS} {F : Nat → Prop} {W V V' : World} {b3 b6 : Nat} {x y : Array Value}
theorem AB.z3 (h : AB B p F W b3 b6 S x y V) : V.heap[b3]? = some (.cells x 31 (0, 0)) := h.2.2.1
theorem AB.z6 (h : AB B p F W b3 b6 S x y V) : V.heap[b6]? = some (.cells y 31 (0, 0)) := h.2.2.2.1
theorem AB.cell (h : AB B p F W b3 b6 S x y V) (j : Nat) : V.cell? ⟨b3, j, none⟩ = x[j]? := cell_of_row _ _ j _ _ _ h.z3
theorem AB.step (h : AB B p F W b3 b6 S x y V) (hb : Below V.heap.size V V') : AB B p F W b3 b6 S x y V' := by
  obtain ⟨⟨F', d, f, n3, n6⟩, o, z3, z6, l⟩ := h
  exact ⟨⟨F', d.below hb, f, n3, n6⟩, o.big_trans (only_below hb).big, keep z3 hb, keep z6 hb, l⟩
end Go.Proofs.YtknbhgodhmcemaaDoor.Lg
namespace Go.Proofs.YtknbhgodhmcemaaDoor.Sl
set_option linter.unusedSimpArgs false
set_option linter.unusedVariables false
set_option maxRecDepth 100000
open Go.RowKit
theorem low4 (b q : List UInt8) (hb : b.length = 124) : low (b ++ q) 124 4 = (q.getD 0 0).toNat + (q.getD 1 0).toNat * 256 + (q.getD 2 0).toNat * 65536 + (q.getD 3 0).toNat * 16777216 := by
  have g : ∀ i, (b ++ q).getD (124 + i) 0 = q.getD i 0 := fun i => by
    rw [List.getD_eq_getElem?_getD, List.getElem?_append_right (by omega), hb, List.getD_eq_getElem?_getD, Nat.add_sub_cancel_left]
  simp only [low, g]
  omega
theorem low_inj {b p q : List UInt8} (hb : b.length = 124) (hp : p.length = 4) (hq : q.length = 4) (h : low (b ++ p) 124 4 = low (b ++ q) 124 4) : p = q := by
  rw [low4 b p hb, low4 b q hb] at h
  match p, q, hp, hq with
  | [p0, p1, p2, p3], [q0, q1, q2, q3], _, _ =>
    simp only [List.getD_cons_zero, List.getD_cons_succ] at h
    have a0 := p0.toNat_lt; have a1 := p1.toNat_lt; have a2 := p2.toNat_lt; have a3 := p3.toNat_lt
    have b0 := q0.toNat_lt; have b1 := q1.toNat_lt; have b2 := q2.toNat_lt; have b3 := q3.toNat_lt
    have e0 : p0 = q0 := UInt8.toNat_inj.1 (by omega)
    have e1 : p1 = q1 := UInt8.toNat_inj.1 (by omega)
    have e2 : p2 = q2 := UInt8.toNat_inj.1 (by omega)
    have e3 : p3 = q3 := UInt8.toNat_inj.1 (by omega)
    rw [e0, e1, e2, e3]
theorem lb_low (b q : List UInt8) (hb : b.length = 124) (hq : q.length = 4) : lb (low (b ++ q) 124 4) 4 = q := by
  have hlt : low (b ++ q) 124 4 < 4294967296 := low_lt _ _ 4
  exact low_inj hb (lb_len _ _) hq (low_lb b hb _ hlt)
theorem val_inj : ∀ (n : Nat) (l m : List UInt8), l.length = n → m.length = n → val l = val m → l = m
  | 0, l, m, hl, hm, _ => by rw [List.length_eq_zero_iff.1 hl, List.length_eq_zero_iff.1 hm]
  | n + 1, l, m, hl, hm, h => by
    have el : l = l.take n ++ [l[n]'(by omega)] := by rw [← List.take_succ_eq_append_getElem, List.take_of_length_le (by omega)]
    have em : m = m.take n ++ [m[n]'(by omega)] := by rw [← List.take_succ_eq_append_getElem, List.take_of_length_le (by omega)]
    rw [el, em, val_snoc, val_snoc] at h
    have a := (l[n]'(by omega)).toNat_lt
    have b := (m[n]'(by omega)).toNat_lt
    have h1 : val (l.take n) = val (m.take n) := by omega
    have h2 : l[n]'(by omega) = m[n]'(by omega) := UInt8.toNat_inj.1 (by omega)
    have ih := val_inj n (l.take n) (m.take n) (by rw [List.length_take]; omega) (by rw [List.length_take]; omega) h1
    rw [el, em, ih, h2]
theorem val_be (l : List UInt8) : be (val l) l.length = l :=
  val_inj l.length _ _ (be_len _ _) rfl (be_val (val_lt l))
theorem seg_append (l : List UInt8) (a b c : Nat) (h1 : a ≤ b) (h2 : b ≤ c) : (l.take b).drop a ++ (l.take c).drop b = (l.take c).drop a := by
  rw [List.drop_take, List.drop_take, List.drop_take, show c - a = (b - a) + (c - b) by omega, List.take_add, List.drop_drop, show a + (b - a) = b by omega]
theorem seg_one (l : List UInt8) (j : Nat) (h : j < l.length) : (l.take (j + 1)).drop j = [l.getD j 0] := by
  rw [List.drop_take, show j + 1 - j = 1 by omega, List.drop_eq_getElem_cons h, List.getD_eq_getElem?_getD, List.getElem?_eq_getElem h]; rfl
theorem ext_toList (s : ByteArray) (a b : Nat) : (s.extract a b).data.toList = (s.data.toList.take b).drop a := by
  rw [ByteArray.data_extract, Array.toList_extract, List.drop_take]
theorem close_opened (s : ByteArray) (h1 : s.size = 128) (h3 : sumN (s.extract 0 124).data.toList = low s.data.toList 124 4) (h4 : (s.data.toList.getD 13 0).toNat ≤ 110)
    (h5 : blankB (s.extract (14 + (s.data.toList.getD 13 0).toNat) 124).data.toList = true) :
    closeS (s.data.toList.getD 0 0).toNat (val (s.extract 1 9).data.toList) (val (s.extract 9 13).data.toList) (s.extract 14 (14 + (s.data.toList.getD 13 0).toNat)) = (s, 0) := by
  obtain ⟨n, hn⟩ : ∃ n, (s.data.toList.getD 13 0).toNat = n := ⟨_, rfl⟩
  rw [hn] at h4 h5 ⊢
  obtain ⟨L, hL⟩ : ∃ L, s.data.toList = L := ⟨_, rfl⟩
  have hll : L.length = 128 := by rw [← hL, Array.length_toList]; exact h1
  have hds : (s.extract 14 (14 + n)).size = n := by rw [ByteArray.size_extract]; omega
  have hdl : (s.extract 14 (14 + n)).data.toList.length = n := by rw [Array.length_toList]; exact hds
  rw [close_ok _ _ _ _ (by rw [hds]; exact h4)]
  simp only [ext_toList, hL] at h3 h5 hdl ⊢
  rw [hL] at hn
  have hb : body (L.getD 0 0).toNat (val ((L.take 9).drop 1)) (val ((L.take 13).drop 9)) ((L.take (14 + n)).drop 14) = (L.take 124).drop 0 := by
    rw [body, head14, hdl]
    have a0 : be (L.getD 0 0).toNat 1 = (L.take 1).drop 0 := by rw [seg_one L 0 (by omega), be1]; simp
    have a1 : be (val ((L.take 9).drop 1)) 8 = (L.take 9).drop 1 := by
      have := val_be ((L.take 9).drop 1)
      rwa [show ((L.take 9).drop 1).length = 8 by rw [List.length_drop, List.length_take]; omega] at this
    have a2 : be (val ((L.take 13).drop 9)) 4 = (L.take 13).drop 9 := by
      have := val_be ((L.take 13).drop 9)
      rwa [show ((L.take 13).drop 9).length = 4 by rw [List.length_drop, List.length_take]; omega] at this
    have a3 : be n 1 = (L.take 14).drop 13 := by rw [seg_one L 13 (by omega), be1, ← hn]; simp
    have a4 : List.replicate (110 - n) 0 = (L.take 124).drop (14 + n) := by
      have := (blank_iff _).1 h5
      rw [this, List.length_drop, List.length_take, hll]; congr 1; omega
    rw [a0, a1, a2, a3, a4, seg_append _ _ _ _ (by omega) (by omega), seg_append _ _ _ _ (by omega) (by omega), seg_append _ _ _ _ (by omega) (by omega), seg_append _ _ _ _ (by omega) (by omega), seg_append _ _ _ _ (by omega) (by omega)]
  rw [sector, hb]
  have hq : lb (sumN ((L.take 124).drop 0)) 4 = L.drop 124 := by
    rw [h3]
    have := lb_low (L.take 124) (L.drop 124) (by rw [List.length_take]; omega) (by rw [List.length_drop]; omega)
    rwa [List.take_append_drop] at this
  rw [hq, List.drop_zero, List.take_append_drop, ← hL]
theorem open_back (s : ByteArray) : (openS s).1.k < 256 ∧ (openS s).1.g < 18446744073709551616 ∧ (openS s).1.i < 4294967296 ∧ ((openS s).2 = 0 → closeS (openS s).1.k (openS s).1.g (openS s).1.i (openS s).1.d = (s, 0)) := by
  have z : ∀ c : Int, c ≠ 0 → (Rec.zero, c).1.k < 256 ∧ (Rec.zero, c).1.g < 18446744073709551616 ∧ (Rec.zero, c).1.i < 4294967296 ∧ ((Rec.zero, c).2 = 0 → closeS (Rec.zero, c).1.k (Rec.zero, c).1.g (Rec.zero, c).1.i (Rec.zero, c).1.d = (s, 0)) :=
    fun c hc => ⟨by show (0 : Nat) < 256; decide, by show (0 : Nat) < 18446744073709551616; decide, by show (0 : Nat) < 4294967296; decide, fun e => absurd e hc⟩
  by_cases h1 : s.size = 128
  · cases h2 : blankB s.data.toList with
    | true => rw [openS_blank h1 h2]; exact z 16 (by decide)
    | false =>
      by_cases h3 : sumN (s.extract 0 124).data.toList = low s.data.toList 124 4
      · by_cases h4 : (s.data.toList.getD 13 0).toNat ≤ 110
        · cases h5 : blankB (s.extract (14 + (s.data.toList.getD 13 0).toNat) 124).data.toList with
          | false => rw [openS_form h1 h2 h3 (.inr h5)]; exact z 4 (by decide)
          | true =>
            rw [openS_ok h1 h2 h3 h4 h5]
            have v1 := val_lt (s.extract 1 9).data.toList
            have v2 := val_lt (s.extract 9 13).data.toList
            rw [show (s.extract 1 9).data.toList.length = 8 by rw [Array.length_toList]; show (s.extract 1 9).size = 8; rw [ByteArray.size_extract]; omega] at v1
            rw [show (s.extract 9 13).data.toList.length = 4 by rw [Array.length_toList]; show (s.extract 9 13).size = 4; rw [ByteArray.size_extract]; omega] at v2
            exact ⟨(s.data.toList.getD 0 0).toNat_lt, v1, v2, fun _ => close_opened s h1 h3 h4 h5⟩
        · rw [openS_form h1 h2 h3 (.inl (by omega))]; exact z 4 (by decide)
      · rw [openS_sum h1 h2 h3]; exact z 8 (by decide)
  · rw [openS_len h1]; exact z 4 (by decide)
end Go.Proofs.YtknbhgodhmcemaaDoor.Sl
namespace Go.Proofs.YtknbhgodhmcemaaDoor.Lg
set_option linter.unusedSimpArgs false
set_option linter.unusedVariables false
set_option maxRecDepth 100000
open Go.RowKit Go.Proofs.YtknbhgodhmcemaaDoor.Own Go.Proofs.YtknbhgodhmcemaaDoor.Cel Go.Proofs.YtknbhgodhmcemaaDoor.Dk
open Go.Proofs.YtknbhgodhmcemaaDoor.Sl (openS open_calls recV recV_one Rec)
abbrev zLog : Array Value := #[.int .i64 0, .int .i64 0, .int .u64 0, .int .i64 0]
def RP (B p : Nat) (S : DS) (F : Nat → Prop) (W : World) (x : Array Value) (v : Value) (acc : List ByteArray) (V : World) : Prop :=
  DK B p S F V ∧ Below W.heap.size W V ∧ V.heap[W.heap.size]? = some (.cells zLog 31 (0, 0)) ∧ V.heap[W.heap.size + 1]? = some (.cells x 31 (0, 0)) ∧ V.ownsRow (W.heap.size + 2) 9 1 v acc.length (strs acc)
variable {B p : Nat} {S : DS} {F : Nat → Prop} {W V V' : World} {x : Array Value} {v : Value} {acc : List ByteArray}
theorem RP.step (h : RP B p S F W x v acc V) (hb : Below V.heap.size V V') : RP B p S F W x v acc V' :=
  ⟨h.1.below hb, h.2.1.trans (hb.mono h.2.1.size), keep h.2.2.1 hb, keep h.2.2.2.1 hb, owns_keep h.2.2.2.2 hb⟩
theorem RP.z8 (h : RP B p S F W x v acc V) : V.heap[W.heap.size]? = some (.cells zLog 31 (0, 0)) := h.2.2.1
theorem RP.z11 (h : RP B p S F W x v acc V) : V.heap[W.heap.size + 1]? = some (.cells x 31 (0, 0)) := h.2.2.2.1
theorem RP.cell (h : RP B p S F W x v acc V) (j : Nat) : V.cell? ⟨W.heap.size + 1, j, none⟩ = x[j]? := cell_of_row _ _ j _ _ _ h.z11
theorem RP.size (h : RP B p S F W x v acc V) : W.heap.size + 2 ≤ V.heap.size := (Array.getElem?_eq_some_iff.1 h.z11).1
theorem RP.set (h : RP B p S F W x v acc V) (j : Nat) (u : Value) (hlt : ∀ q, F q → q < W.heap.size) : RP B p S F W (x.setIfInBounds j u) v acc (V.setCell ⟨W.heap.size + 1, j, none⟩ u) := by
  obtain ⟨d, b, z8, z11, r⟩ := h
  have so : ∀ k, k ≠ W.heap.size + 1 → (V.setCell ⟨W.heap.size + 1, j, none⟩ u).heap[k]? = V.heap[k]? := fun k hk => set_other V _ _ k hk
  exact ⟨d.keep (fun q hq => so q (by have := hlt q hq; omega)), b.setCell (p := ⟨W.heap.size + 1, j, none⟩) (by show W.heap.size ≤ W.heap.size + 1; omega) _, (so _ (by omega)).trans z8, heap_setCell_same V _ j _ _ u z11, owns_block r (fun g e => so g (by have := (r.lt g e).1; omega))⟩
theorem RP.read (h : RP B p S F W x v acc V) (i : Int) : Calls Tryd.prog 39 #[.pointer (some ⟨p, 0, none⟩), .int .i64 i] V fun e V' => e = .returned (.tuple #[.string (S.readAt i).1, .int .i64 (S.readAt i).2]) ∧ V = V' := read_calls h.1 i
end Go.Proofs.YtknbhgodhmcemaaDoor.Lg
namespace Go.Proofs.YtknbhgodhmcemaaDoor.Lg
set_option linter.unusedSimpArgs false
set_option linter.unusedVariables false
set_option maxRecDepth 100000
open Go.RowKit Go.Proofs.YtknbhgodhmcemaaDoor.Own Go.Proofs.YtknbhgodhmcemaaDoor.Cel Go.Proofs.YtknbhgodhmcemaaDoor.Dk
def RowS (A : Option Addr) (ss : List ByteArray) (V : World) : Prop := ∀ j (h : j < ss.length), ∃ b o, A = some ⟨b, o, none⟩ ∧ V.cell? ⟨b, o + j, none⟩ = some (.string (ss[j]'h))
theorem RowS.below {A : Option Addr} {ss : List ByteArray} {V V' : World} (h : RowS A ss V) (hb : Below V.heap.size V V') : RowS A ss V' := fun j hj => by
  obtain ⟨b, o, e, hc⟩ := h j hj
  exact ⟨b, o, e, (World.cell?_of_block (hb.block b (World.block_lt_of_cell? V _ hc))).trans hc⟩
def DY (w : World) (p : Nat) (S : DS) (X : List (Nat × Obj)) (v : Value) (xs : List ByteArray) (V : World) : Prop :=
  ∃ F, DK w.heap.size p S F V ∧ Below w.heap.size w V ∧ (∀ x ∈ X, V.heap[x.1]? = some x.2 ∧ ¬ F x.1 ∧ v.ownBlock ≠ some x.1) ∧ V.ownsRow w.heap.size 9 1 v xs.length (strs xs) ∧ ∀ k, v.ownBlock = some k → ¬ F k
variable {w V V' : World} {p b : Nat} {t : TypeId} {old : Array Value} {S S' : DS} {X : List (Nat × Obj)} {v : Value} {xs : List ByteArray}
theorem DY.bel (h : DY w p S X v xs V) : Below w.heap.size w V := by obtain ⟨F, d, b, _⟩ := h; exact b
theorem DY.step (h : DY w p S X v xs V) (hb : Below V.heap.size V V') : DY w p S X v xs V' := by
  obtain ⟨F, d, b, hx, r, n⟩ := h
  exact ⟨F, d.below hb, b.trans (hb.mono b.size), fun x hm => ⟨keep (hx x hm).1 hb, (hx x hm).2⟩, owns_keep r hb, n⟩
theorem DY.did (h : DY w p S X v xs V) {f : FuncId} {args : Array Value} {Q : Ending → Prop} (hc : ∀ F, DK w.heap.size p S F V → Calls Tryd.prog f args V fun e V' => Q e ∧ Did w.heap.size p S' F V V') :
    Calls Tryd.prog f args V fun e V' => Q e ∧ DY w p S' X v xs V' := by
  have h0 := h
  obtain ⟨F, d, b, hx, r, n⟩ := h
  refine (hc F d).mono fun e V' ⟨q, hd⟩ => ⟨q, ?_⟩
  obtain ⟨F2, d2, o, f⟩ := hd
  refine ⟨F2, d2, b.trans (o.below (fun k hk => (d.lt hk).1) b.size), fun x hm => ?_, owns_block r (fun g e => o.block g (r.lt g e).2 (n g e)), fun k e hk => ?_⟩
  · obtain ⟨a1, a2, a3⟩ := hx x hm
    have hlt : x.1 < V.heap.size := (Array.getElem?_eq_some_iff.1 a1).1
    refine ⟨(o.block x.1 hlt a2).trans a1, fun hk => ?_, a3⟩
    rcases f x.1 hk with e | e
    · exact a2 e
    · omega
  · rcases f k hk with hk | hk
    · exact n k e hk
    · have := (r.lt k e).2
      omega
theorem DY.dk (h : DY w p S X v xs V) : ∃ F, DK w.heap.size p S F V := by obtain ⟨F, d, _⟩ := h; exact ⟨F, d⟩
theorem DY.at (h : DY w p S X v xs V) {b : Nat} {o : Obj} (hm : (b, o) ∈ X) : V.heap[b]? = some o := by obtain ⟨F, d, _, hx, _⟩ := h; exact (hx _ hm).1
theorem DY.add (h : DY w p S X v xs V) {b : Nat} {o : Obj} (hb : Below V.heap.size V V') (hn : V.heap.size ≤ b) (ho : V'.heap[b]? = some o) : DY w p S ((b, o) :: X) v xs V' := by
  have h2 := h.step hb
  obtain ⟨F, d, b0, hx, r, n⟩ := h
  obtain ⟨F', d', b', hx', r', n'⟩ := h2
  refine ⟨F, d.below hb, b', fun x hm => ?_, r', n⟩
  rcases List.mem_cons.1 hm with rfl | hm
  · exact ⟨ho, fun hk => by have := (d.lt hk).2; omega, fun e => by have := (r.lt b e).2; omega⟩
  · exact ⟨keep (hx x hm).1 hb, (hx x hm).2⟩
end Go.Proofs.YtknbhgodhmcemaaDoor.Lg
namespace Go.Proofs.YtknbhgodhmcemaaDoor.Lg
set_option linter.unusedSimpArgs false
set_option linter.unusedVariables false
set_option maxRecDepth 100000
open Go.RowKit Go.Proofs.YtknbhgodhmcemaaDoor.Own Go.Proofs.YtknbhgodhmcemaaDoor.Cel Go.Proofs.YtknbhgodhmcemaaDoor.Dk
theorem below_drewN0 {V W : World} {B : Nat} (h : Below B V W) (n : Nat) : Below B V (W.drewN n) := h.trans ⟨rfl, rfl, rfl, Nat.le_refl _, fun _ _ => rfl⟩
theorem str_ne {x y : ByteArray} (h : x ≠ y) : (x.toList == y.toList) = false := by
  rw [beq_eq_false_iff_ne, ByteArray.toList_eq, ByteArray.toList_eq]
  intro e
  exact h (ByteArray.ext (Array.toList_inj.1 e))
end Go.Proofs.YtknbhgodhmcemaaDoor.Lg
namespace Go.Proofs.YtknbhgodhmcemaaDoor.So
set_option linter.unusedSimpArgs false
set_option linter.unusedVariables false
open Go.Proofs.YtknbhgodhmcemaaDoor.Dk Go.Proofs.YtknbhgodhmcemaaDoor.Sl
def summedL (t : List UInt8) : List UInt8 := t ++ lb (sumN t) 4
theorem summedL_len (t : List UInt8) : (summedL t).length = t.length + 4 := by rw [summedL, List.length_append, lb_len]
def np (n : Nat) : Nat := (n + 109) / 110
def pdat (L : List UInt8) (i : Nat) : List UInt8 := (L.drop (110 * i)).take 110
def pk (n i : Nat) : Nat := if i + 1 = np n then 3 else 2
def psec (g : Nat) (L : List UInt8) (i : Nat) : ByteArray := ⟨(sector (pk L.length i) g i (pdat L i)).toArray⟩
theorem pk_lt (n i : Nat) : pk n i < 256 := by unfold pk; split <;> omega
theorem pdat_le (L : List UInt8) (i : Nat) : (pdat L i).length ≤ 110 := by rw [pdat, List.length_take]; omega
theorem pdat_len (L : List UInt8) (i : Nat) : (pdat L i).length = min 110 (L.length - 110 * i) := by rw [pdat, List.length_take, List.length_drop]
theorem psec_size (g : Nat) (L : List UInt8) (i : Nat) : (psec g L i).size = 128 := by
  show (sector (pk L.length i) g i (pdat L i)).toArray.size = 128
  rw [List.size_toArray]; exact sector_len _ _ _ _ (pdat_le L i)
theorem psec_open (g : Nat) (L : List UInt8) (i : Nat) (hg : g < 18446744073709551616) (hi : i < 4294967296) : openS (psec g L i) = (⟨pk L.length i, g, i, ⟨(pdat L i).toArray⟩⟩, 0) :=
  open_sector (pk L.length i) g i ⟨(pdat L i).toArray⟩ (pk_lt _ _) hg hi (by show (pdat L i).toArray.size ≤ 110; rw [List.size_toArray]; exact pdat_le L i)
theorem psec_close (g : Nat) (L : List UInt8) (i : Nat) : closeS (pk L.length i) g i ⟨(pdat L i).toArray⟩ = (psec g L i, 0) :=
  close_ok _ _ _ _ (by show (pdat L i).toArray.size ≤ 110; rw [List.size_toArray]; exact pdat_le L i)
def wholeS (l : List UInt8) (gen : Nat) : ByteArray × Nat × Bool :=
  if l.length < 4 then (⟨#[]⟩, 0, false) else if summedL (l.take (l.length - 4)) = l then (⟨(l.take (l.length - 4)).toArray⟩, gen, true) else (⟨#[]⟩, 0, false)
theorem wholeS_summed (t : List UInt8) (g : Nat) : wholeS (summedL t) g = (⟨t.toArray⟩, g, true) := by
  have e : (summedL t).take ((summedL t).length - 4) = t := by
    rw [summedL_len, Nat.add_sub_cancel, summedL, List.take_left]
  unfold wholeS
  rw [if_neg (by rw [summedL_len]; omega), e, if_pos rfl]
def badR (i next gen : Nat) (r : Rec) : Bool := decide (i ≠ next ∨ r.g ≠ gen ∨ r.i ≠ i ∨ (r.k ≠ 2 ∧ r.k ≠ 3) ∨ (r.k = 2 ∧ r.d.size ≠ 110) ∨ (0 < i ∧ r.d.size = 0))
def readGo (rd : List ByteArray) (fr : Nat) : Nat → Nat → Nat → Nat → List UInt8 → ByteArray × Nat × Bool
  | 0, _, _, _, _ => (⟨#[]⟩, 0, false)
  | n + 1, i, next, gen, out =>
    if (openS (rd.getD (fr + i) ByteArray.empty)).2 ≠ 0 then readGo rd fr n (i + 1) next gen out
    else if badR i next (if i = 0 then (openS (rd.getD (fr + i) ByteArray.empty)).1.g else gen) (openS (rd.getD (fr + i) ByteArray.empty)).1 then (⟨#[]⟩, 0, false)
    else if (openS (rd.getD (fr + i) ByteArray.empty)).1.k = 3 then wholeS (out ++ (openS (rd.getD (fr + i) ByteArray.empty)).1.d.data.toList) (if i = 0 then (openS (rd.getD (fr + i) ByteArray.empty)).1.g else gen)
    else readGo rd fr n (i + 1) (next + 1) (if i = 0 then (openS (rd.getD (fr + i) ByteArray.empty)).1.g else gen) (out ++ (openS (rd.getD (fr + i) ByteArray.empty)).1.d.data.toList)
def readS (rd : List ByteArray) (fr room : Nat) : ByteArray × Nat × Bool := readGo rd fr room 0 0 0 []
theorem readGo_gap (rd : List ByteArray) (fr : Nat) : ∀ (n i next gen : Nat) (out : List UInt8), next < i → readGo rd fr n i next gen out = (⟨#[]⟩, 0, false)
  | 0, _, _, _, _, _ => rfl
  | n + 1, i, next, gen, out, h => by
    rw [readGo]
    split
    · exact readGo_gap rd fr n (i + 1) next gen out (by omega)
    · rw [if_pos (by rw [badR]; exact decide_eq_true (.inl (by omega)))]
theorem readGo_mix (rd : List ByteArray) (fr g : Nat) (t : List UInt8) (hg : g < 18446744073709551616) (hk : np (summedL t).length ≤ 4294967295) :
    ∀ (n i gen : Nat), i < np (summedL t).length → (i = 0 → rd.getD (fr + i) ByteArray.empty = psec g (summedL t) i) → (0 < i → gen = g) →
    (∀ j, i ≤ j → j < i + n → j < np (summedL t).length → rd.getD (fr + j) ByteArray.empty = psec g (summedL t) j ∨ (openS (rd.getD (fr + j) ByteArray.empty)).2 ≠ 0 ∨ (openS (rd.getD (fr + j) ByteArray.empty)).1.g ≠ g) →
    (readGo rd fr n i i gen ((summedL t).take (110 * i)) = (⟨#[]⟩, 0, false) ∧ ((∀ j, i ≤ j → j < np (summedL t).length → rd.getD (fr + j) ByteArray.empty = psec g (summedL t) j) → i + n < np (summedL t).length)) ∨
    readGo rd fr n i i gen ((summedL t).take (110 * i)) = (⟨t.toArray⟩, g, true)
  | 0, i, gen, hi, h0, h1, H => .inl ⟨rfl, fun _ => by omega⟩
  | n + 1, i, gen, hi, h0, h1, H => by
    have hL := summedL_len t
    obtain ⟨L, hLL⟩ : ∃ L, summedL t = L := ⟨_, rfl⟩
    have hln : L.length = t.length + 4 := by rw [← hLL]; exact hL
    have hnp : 110 * i < L.length := by rw [hLL] at hi; unfold np at hi; omega
    by_cases e : rd.getD (fr + i) ByteArray.empty = psec g (summedL t) i
    · have ho := psec_open g (summedL t) i hg (by omega)
      rw [hLL] at ho e
      have hgen : (if i = 0 then g else gen) = g := by
        by_cases z : i = 0
        · rw [if_pos z]
        · rw [if_neg z]; exact h1 (by omega)
      have hsz : (⟨(pdat L i).toArray⟩ : ByteArray).size = (pdat L i).length := by show (pdat L i).toArray.size = _; rw [List.size_toArray]
      have hpl := pdat_len L i
      have hout : L.take (110 * i) ++ pdat L i = L.take (110 * (i + 1)) := by
        rw [pdat, show 110 * (i + 1) = 110 * i + 110 by omega, List.take_add]
      have hbad : badR i i g ⟨pk L.length i, g, i, ⟨(pdat L i).toArray⟩⟩ = false := by
        rw [badR]
        apply decide_eq_false
        rintro (x | x | x | x | x | x)
        · exact x rfl
        · exact x rfl
        · exact x rfl
        · simp only [pk] at x
          split at x
          · exact x.2 rfl
          · exact x.1 rfl
        · obtain ⟨x1, x2⟩ := x
          simp only [hsz] at x2
          simp only [pk] at x1
          split at x1
          · omega
          · rename_i hne
            rw [hLL] at hi
            unfold np at hne hi
            omega
        · obtain ⟨x1, x2⟩ := x
          simp only [hsz] at x2
          omega
      rw [readGo, e, ho]
      simp only [ne_eq, not_true_eq_false, if_false, hgen, hbad, Bool.false_eq_true]
      rw [hLL, hout]
      by_cases hlast : i + 1 = np L.length
      · refine .inr ?_
        have e3 : pk L.length i = 3 := by rw [pk, if_pos hlast]
        rw [e3, if_pos rfl, List.take_of_length_le (by unfold np at hlast; omega), ← hLL, wholeS_summed]
      · have e3 : pk L.length i = 2 := by rw [pk, if_neg hlast]
        rw [e3, if_neg (by decide)]
        rw [hLL] at hi
        rcases readGo_mix rd fr g t hg hk n (i + 1) g (by rw [hLL]; omega) (fun z => by omega) (fun _ => rfl) (fun j j1 j2 j3 => H j (by omega) (by omega) j3) with ⟨r1, r2⟩ | r
        · rw [hLL] at r1 r2
          exact .inl ⟨r1, fun A => by
            have := r2 (fun j j1 j2 => A j (by omega) j2)
            omega⟩
        · rw [hLL] at r
          exact .inr r
    · refine .inl ⟨?_, fun A => absurd (A i (Nat.le_refl _) hi) e⟩
      have hi0 : 0 < i := by
        rcases Nat.eq_zero_or_pos i with z | z
        · exact absurd (h0 z) e
        · exact z
      have hge := h1 hi0
      rw [readGo]
      by_cases ho : (openS (rd.getD (fr + i) ByteArray.empty)).2 ≠ 0
      · rw [if_pos ho]; exact readGo_gap rd fr n (i + 1) i gen _ (by omega)
      · rw [if_neg ho, if_pos]
        rcases H i (Nat.le_refl _) (by omega) hi with x | x | x
        · exact absurd x e
        · exact absurd x ho
        · rw [badR]
          exact decide_eq_true (.inr (.inl (by rw [if_neg (by omega), hge]; exact x)))
theorem np_pos (t : List UInt8) : 0 < np (summedL t).length := by rw [summedL_len]; unfold np; omega
theorem readS_whole (rd : List ByteArray) (fr room g : Nat) (t : List UInt8) (hg : g < 18446744073709551616) (hk : np (summedL t).length ≤ 4294967295) (hr : np (summedL t).length ≤ room)
    (H : ∀ j, j < np (summedL t).length → rd.getD (fr + j) ByteArray.empty = psec g (summedL t) j) :
    readS rd fr room = (⟨t.toArray⟩, g, true) := by
  rcases readGo_mix rd fr g t hg hk room 0 0 (np_pos t) (fun _ => H 0 (np_pos t)) (fun h => absurd h (by omega)) (fun j _ _ j3 => .inl (H j j3)) with ⟨_, r⟩ | r
  · have := r (fun j _ j2 => H j j2)
    omega
  · rw [Nat.mul_zero, List.take_zero] at r
    exact r
theorem readS_mixed (rd : List ByteArray) (fr room g : Nat) (t : List UInt8) (hg : g < 18446744073709551616) (hk : np (summedL t).length ≤ 4294967295)
    (H0 : rd.getD fr ByteArray.empty = psec g (summedL t) 0)
    (H : ∀ j, j < np (summedL t).length → rd.getD (fr + j) ByteArray.empty = psec g (summedL t) j ∨ (openS (rd.getD (fr + j) ByteArray.empty)).2 ≠ 0 ∨ (openS (rd.getD (fr + j) ByteArray.empty)).1.g ≠ g) :
    readS rd fr room = (⟨#[]⟩, 0, false) ∨ readS rd fr room = (⟨t.toArray⟩, g, true) := by
  rcases readGo_mix rd fr g t hg hk room 0 0 (np_pos t) (fun _ => H0) (fun h => absurd h (by omega)) (fun j _ _ j3 => H j j3) with ⟨r, _⟩ | r
  · rw [Nat.mul_zero, List.take_zero] at r
    exact .inl r
  · rw [Nat.mul_zero, List.take_zero] at r
    exact .inr r
end Go.Proofs.YtknbhgodhmcemaaDoor.So
namespace Go.Proofs.YtknbhgodhmcemaaDoor.So
set_option linter.unusedSimpArgs false
set_option linter.unusedVariables false
open Go.Proofs.YtknbhgodhmcemaaDoor.Dk Go.Proofs.YtknbhgodhmcemaaDoor.Sl
open Go.Proofs.YtknbhgodhmcemaaDoor.Lg (put_cases fails_armed)
def wrS (fr g : Nat) (L : List UInt8) : Nat → Nat → DS → DS × Int
  | 0, _, S => (S, 0)
  | n + 1, i, S => if (S.put ((fr + i : Nat) : Int) (psec g L i)).2 ≠ 0 then S.put ((fr + i : Nat) : Int) (psec g L i) else wrS fr g L n (i + 1) (S.put ((fr + i : Nat) : Int) (psec g L i)).1
def ws (fr g : Nat) (L : List UInt8) (i m : Nat) : List Wt := (List.range' i m).map (fun j => (fr + j, psec g L j))
theorem ws_succ (fr g : Nat) (L : List UInt8) (i m : Nat) : ws fr g L i (m + 1) = (fr + i, psec g L i) :: ws fr g L (i + 1) m := by
  unfold ws; rw [List.range'_succ]; rfl
theorem ws_mem {fr g : Nat} {L : List UInt8} {i m : Nat} {x : Wt} (h : x ∈ ws fr g L i m) : ∃ j, i ≤ j ∧ j < i + m ∧ x = (fr + j, psec g L j) := by
  unfold ws at h
  obtain ⟨j, hj, rfl⟩ := List.mem_map.1 h
  rw [List.mem_range'_1] at hj
  exact ⟨j, hj.1, hj.2, rfl⟩
structure Wrote (fr g : Nat) (L : List UInt8) (i n : Nat) (S : DS) (R : DS × Int) (m : Nat) : Prop where
  le : m ≤ n
  lasts : R.1.lasts = S.lasts
  waits : R.1.waits = S.waits ++ ws fr g L i m
  all : R.2 = 0 → m = n
  calm : S.armed ≤ 0 → R.2 = 0 ∧ R.1.armed = S.armed
  arm : R.1.armed ≤ S.armed
  ops : R.1.ops = S.ops + (m : Int)
theorem wrS_spec (fr g : Nat) (L : List UInt8) : ∀ (n i : Nat) (S : DS), fr + i + n ≤ S.lasts.length → ∃ m, Wrote fr g L i n S (wrS fr g L n i S) m
  | 0, i, S, h => ⟨0, Nat.le_refl _, rfl, by rw [wrS]; simp [ws], fun _ => rfl, fun _ => ⟨rfl, rfl⟩, Int.le_refl _, by rw [wrS]; simp⟩
  | n + 1, i, S, h => by
    obtain ⟨a1, a2⟩ := fails_armed S
    obtain ⟨l1, l2, l3⟩ := fails_lasts S
    rw [wrS]
    rcases put_cases S (fr + i) (psec g L i) (by omega) (psec_size g L i) with ⟨e, hf⟩ | ⟨e, hf⟩
    · rw [e, if_pos (show (7 : Int) ≠ 0 by decide)]
      refine ⟨0, by omega, l1, by rw [l2]; simp [ws], fun h => absurd h (show ¬ (7 : Int) = 0 by decide), fun h => ?_, a2, by rw [l3]; simp⟩
      rw [a1 h] at hf
      cases hf
    · rw [e, if_neg (fun x => x rfl)]
      obtain ⟨m, w⟩ := wrS_spec fr g L n (i + 1) { S.fails.1 with waits := S.waits ++ [(fr + i, psec g L i)], ops := S.ops + 1 } (by show fr + (i + 1) + n ≤ S.fails.1.lasts.length; rw [l1]; omega)
      refine ⟨m + 1, by have := w.le; omega, w.lasts.trans l1, ?_, fun h => by rw [w.all h], fun h => ?_, Int.le_trans w.arm a2, ?_⟩
      · rw [w.waits, ws_succ]
        show S.waits ++ [(fr + i, psec g L i)] ++ _ = _
        rw [List.append_assoc]; rfl
      · have e2 : S.fails.1.armed = S.armed := by rw [a1 h]
        obtain ⟨q1, q2⟩ := w.calm (by show S.fails.1.armed ≤ 0; rw [e2]; exact h)
        exact ⟨q1, q2.trans e2⟩
      · rw [w.ops]
        show S.ops + 1 + (m : Int) = _
        omega
theorem Wrote.ok {fr g : Nat} {L : List UInt8} {i n m : Nat} {S : DS} {R : DS × Int} (w : Wrote fr g L i n S R m) (h : S.ok) (hn : fr + i + n ≤ S.lasts.length) : R.1.ok := by
  intro x hx
  rw [w.waits] at hx
  rw [w.lasts]
  rcases List.mem_append.1 hx with hx | hx
  · exact h x hx
  · obtain ⟨j, j1, j2, rfl⟩ := ws_mem hx
    have := w.le
    show fr + j < _
    omega
theorem applyW_ws (fr g : Nat) (L : List UInt8) (k : Nat) (e : ByteArray) : ∀ (m i : Nat) (l : List ByteArray), fr + i + m ≤ l.length →
    (applyW l (ws fr g L i m)).getD k e = if fr + i ≤ k ∧ k < fr + i + m then psec g L (k - fr) else l.getD k e
  | 0, i, l, h => by rw [if_neg (by omega)]; simp [ws, applyW]
  | m + 1, i, l, h => by
    rw [ws_succ, applyW, applyW_ws fr g L k e m (i + 1) _ (by rw [List.length_set]; omega)]
    by_cases h1 : fr + (i + 1) ≤ k ∧ k < fr + (i + 1) + m
    · rw [if_pos h1, if_pos (by omega)]
    · rw [if_neg h1]
      by_cases h2 : k = fr + i
      · subst h2
        rw [if_pos (by omega), List.getD_eq_getElem?_getD, List.getElem?_set_self (by omega), Nat.add_sub_cancel_left]; rfl
      · rw [if_neg (by omega), List.getD_eq_getElem?_getD, List.getElem?_set_ne (fun x => h2 x.symm), ← List.getD_eq_getElem?_getD]
theorem torn (fr room g g' : Nat) (told tnew : List UInt8) (hg : g < 18446744073709551616) (hg' : g' < 18446744073709551616) (hne : g ≠ g') (hko : np (summedL told).length ≤ 4294967295) (hkn : np (summedL tnew).length ≤ 4294967295)
    (rd : List ByteArray) (H : ∀ j, rd.getD (fr + j) ByteArray.empty = psec g (summedL told) j ∨ (np (summedL told).length ≤ j ∧ ((openS (rd.getD (fr + j) ByteArray.empty)).2 ≠ 0 ∨ (openS (rd.getD (fr + j) ByteArray.empty)).1.g ≠ g')) ∨ (j < np (summedL tnew).length ∧ rd.getD (fr + j) ByteArray.empty = psec g' (summedL tnew) j))
    (H0 : rd.getD fr ByteArray.empty = psec g (summedL told) 0 ∨ rd.getD fr ByteArray.empty = psec g' (summedL tnew) 0) :
    readS rd fr room = (⟨#[]⟩, 0, false) ∨ readS rd fr room = (⟨told.toArray⟩, g, true) ∨ readS rd fr room = (⟨tnew.toArray⟩, g', true) := by
  rcases H0 with h | h
  · have hm : ∀ j, j < np (summedL told).length → rd.getD (fr + j) ByteArray.empty = psec g (summedL told) j ∨ (openS (rd.getD (fr + j) ByteArray.empty)).2 ≠ 0 ∨ (openS (rd.getD (fr + j) ByteArray.empty)).1.g ≠ g := fun j hj => by
      rcases H j with x | ⟨x, _⟩ | ⟨x1, x2⟩
      · exact .inl x
      · omega
      · refine .inr (.inr ?_)
        rw [x2, psec_open g' _ j hg' (by omega)]
        exact fun e => hne e.symm
    exact (readS_mixed rd fr room g told hg hko h hm).elim .inl (fun r => .inr (.inl r))
  · have hm : ∀ j, j < np (summedL tnew).length → rd.getD (fr + j) ByteArray.empty = psec g' (summedL tnew) j ∨ (openS (rd.getD (fr + j) ByteArray.empty)).2 ≠ 0 ∨ (openS (rd.getD (fr + j) ByteArray.empty)).1.g ≠ g' := fun j hj => by
      rcases H j with x | ⟨_, x⟩ | ⟨x1, x2⟩
      · refine .inr (.inr ?_)
        rw [x]
        by_cases hj2 : j < 4294967296
        · rw [psec_open g _ j hg hj2]; exact hne
        · omega
      · exact .inr x
      · exact .inl x2
    exact (readS_mixed rd fr room g' tnew hg' hkn h hm).elim .inl (fun r => .inr (.inr r))
end Go.Proofs.YtknbhgodhmcemaaDoor.So
namespace Go.Proofs.YtknbhgodhmcemaaDoor.So
set_option linter.unusedSimpArgs false
set_option linter.unusedVariables false
set_option maxRecDepth 100000
open Go.RowKit Go.Proofs.YtknbhgodhmcemaaDoor.Own Go.Proofs.YtknbhgodhmcemaaDoor.Cel Go.Proofs.YtknbhgodhmcemaaDoor.Dk
open Go.Proofs.YtknbhgodhmcemaaDoor.Sl (sum_calls sumN sumN_lt lb)
open Go.Proofs.YtknbhgodhmcemaaDoor.Lg (below_drewN0 str_ne)
variable {B p : Nat} {S : DS} {F : Nat → Prop} {W : World}
set_option maxHeartbeats 1000000 in
theorem may_calls (h : DK B p S F W) (fr room : Nat) (hr : 1 ≤ room) (hl : fr + room ≤ S.lasts.length) (hN : S.lasts.length ≤ 1000000) :
    Calls Tryd.prog 50 #[.pointer (some ⟨p, 0, none⟩), .int .i64 (fr : Nat), .int .i64 (room : Nat)] W fun e W' => e = .returned (.bool true) ∧ W = W' := by
  have KS := Aside0.mk (size_calls h)
  obtain ⟨n, hn⟩ : ∃ n, S.lasts.length = n := ⟨_, rfl⟩
  rw [hn] at KS hl hN
  have d1 : (0 : Int) ≤ (fr : Int) := by omega
  have d2 : (1 : Int) ≤ (room : Int) := by omega
  have d3 : (fr : Int) < (n : Int) := by omega
  have d4 : (room : Int) ≤ (n : Int) - (fr : Int) := by omega
  clear h hn
  go_enter Tryd.func50, Tryd.ntmps50
  go_wp2_with fail
  refine KS.out.mono ?_
  rintro e w1 ⟨rfl, rfl⟩
  go_wp2_with fail
  refine KS.out.mono ?_
  rintro e w1 ⟨rfl, rfl⟩
  go_wp2
  go_ret
  exact ⟨rfl, rfl⟩
set_option maxHeartbeats 1000000 in
theorem summed_calls (s : ByteArray) (w : World) (hs : s.size ≤ 1000000) :
    Calls Tryd.prog 51 #[.string s] w fun e w' => e = .returned (.string ⟨(summedL s.data.toList).toArray⟩) ∧ Below w.heap.size w w' := by
  have KS := Aside0.mk (fun V => sum_calls s V (by omega))
  go_enter Tryd.func51, Tryd.ntmps51
  go_wp2_with fail
  refine (KS.out _).mono ?_
  rintro e w' ⟨rfl, rfl⟩
  have hx := sumN_lt s.data.toList
  obtain ⟨x, hxe⟩ : ∃ x, sumN s.data.toList = x := ⟨_, rfl⟩
  have HX := Aside0.mk hxe
  rw [hxe] at hx ⊢
  clear KS hxe
  have hc : ∀ j v, [Value.int .u8 ((x : Int) % 256), .int .u8 ((x : Int) / 256 % 256), .int .u8 ((x : Int) / 65536 % 256), .int .u8 ((x : Int) / 16777216)][j]? = some v → (w.alloc (.cells #[.int .u8 ((x : Int) % 256), .int .u8 ((x : Int) / 256 % 256), .int .u8 ((x : Int) / 65536 % 256), .int .u8 ((x : Int) / 16777216)] 5)).cell? ⟨w.heap.size, j, none⟩ = some v := fun j v hv =>
    (cell_of_row _ w.heap.size j _ _ _ (heap_alloc_new w _)).trans (by simpa using hv)
  have b0 : (x : Int) % 256 = (((UInt8.ofNat x).toNat : Nat) : Int) := by rw [UInt8.toNat_ofNat']; omega
  have b1 : (x : Int) / 256 % 256 = (((UInt8.ofNat (x / 256)).toNat : Nat) : Int) := by rw [UInt8.toNat_ofNat']; omega
  have b2 : (x : Int) / 65536 % 256 = (((UInt8.ofNat (x / 65536)).toNat : Nat) : Int) := by rw [UInt8.toNat_ofNat']; omega
  have b3 : (x : Int) / 16777216 = (((UInt8.ofNat (x / 16777216)).toNat : Nat) : Int) := by rw [UInt8.toNat_ofNat']; omega
  have hlb : lb x 4 = [UInt8.ofNat x, UInt8.ofNat (x / 256), UInt8.ofNat (x / 65536), UInt8.ofNat (x / 16777216)] := by simp [lb]
  have hstr := run_convert_bytes_back (P := Tryd.prog) (w.alloc (.cells #[.int .u8 ((x : Int) % 256), .int .u8 ((x : Int) / 256 % 256), .int .u8 ((x : Int) / 65536 % 256), .int .u8 ((x : Int) / 16777216)] 5)) 103 9 5 ⟨w.heap.size, 0, none⟩ 4 (lb x 4) rfl rfl rfl (fun j hj => by
    rw [Seg.addr_add, Nat.zero_add]
    have hj4 : j < 4 := by rw [Sl.lb_len] at hj; exact hj
    simp only [hlb]
    match j, hj4 with
    | 0, _ => rw [hc 0 _ rfl, b0]; rfl
    | 1, _ => rw [hc 1 _ rfl, b1]; rfl
    | 2, _ => rw [hc 2 _ rfl, b2]; rfl
    | 3, _ => rw [hc 3 _ rfl, b3]; rfl)
  rw [Sl.lb_len] at hstr
  have HS := Aside0.mk (show (⟨(summedL s.data.toList).toArray⟩ : ByteArray) = s ++ ⟨(lb x 4).toArray⟩ by
    rw [summedL, HX.out]
    apply ByteArray.ext
    simp [ByteArray.data_append])
  have hcat : s.size + (lb x 4).length ≤ 9223372036854775807 := by rw [Sl.lb_len]; omega
  clear hc b0 b1 b2 b3 hlb HX
  go_wp2_with fail
  go_ret
  exact ⟨by rw [HS.out]; rfl, (Below.refl _ _).alloc (Nat.le_refl _) _⟩
theorem wholeS_short {l : List UInt8} {g : Nat} (h : l.length < 4) : wholeS l g = (⟨#[]⟩, 0, false) := by unfold wholeS; rw [if_pos h]
theorem wholeS_bad {l : List UInt8} {g : Nat} (h : ¬ l.length < 4) (h2 : summedL (l.take (l.length - 4)) ≠ l) : wholeS l g = (⟨#[]⟩, 0, false) := by unfold wholeS; rw [if_neg h, if_neg h2]
theorem wholeS_ok {l : List UInt8} {g : Nat} (h : ¬ l.length < 4) (h2 : summedL (l.take (l.length - 4)) = l) : wholeS l g = (⟨(l.take (l.length - 4)).toArray⟩, g, true) := by unfold wholeS; rw [if_neg h, if_pos h2]
set_option maxHeartbeats 1000000 in
theorem whole_calls (s : ByteArray) (g : Nat) (w : World) (hs : s.size ≤ 1000000) :
    Calls Tryd.prog 56 #[.string s, .int .u64 (g : Nat)] w fun e w' => e = .returned (.tuple #[.string (wholeS s.data.toList g).1, .int .u64 ((wholeS s.data.toList g).2.1 : Nat), .bool (wholeS s.data.toList g).2.2]) ∧ Below w.heap.size w w' := by
  have hl : s.data.toList.length = s.size := by rw [Array.length_toList]; rfl
  by_cases h4 : s.size < 4
  · rw [wholeS_short (by rw [hl]; exact h4)]
    have d1 : (s.size : Int) - 4 < 0 := by omega
    go_enter Tryd.func56, Tryd.ntmps56
    go_wp2
    go_ret3
    exact ⟨rfl, Below.refl _ _⟩
  obtain ⟨n, hn⟩ : ∃ n, s.size - 4 = n := ⟨_, rfl⟩
  have hsz : s.size = n + 4 := by omega
  have d1 : ((s.size : Int) - 4) = (n : Int) := by omega
  have d2 : decide ((n : Int) < 0) = false := decide_eq_false (by omega)
  have d3 : (n : Int) ≤ (s.size : Int) := by omega
  have hte : (s.extract 0 n).data.toList = s.data.toList.take (s.data.toList.length - 4) := by rw [Sl.ext_toList, List.drop_zero, hl, hn]
  have KS := Aside0.mk (fun V => summed_calls (s.extract 0 n) V (by rw [ByteArray.size_extract]; omega))
  rw [hte] at KS
  by_cases hq : summedL (s.data.toList.take (s.data.toList.length - 4)) = s.data.toList
  · rw [wholeS_ok (by rw [hl]; exact h4) hq]
    rw [hq] at KS
    have HE := Aside0.mk (show (⟨(s.data.toList.take (s.data.toList.length - 4)).toArray⟩ : ByteArray) = s.extract 0 n by rw [← hte])
    rw [HE.out]
    clear hl h4 hn hte hq HE
    go_enter Tryd.func56, Tryd.ntmps56
    go_wp2_with fail
    refine (KS.out _).mono ?_
    rintro e w1 ⟨rfl, hb⟩
    have HB := Aside0.mk hb
    clear hb KS
    go_wp2
    go_ret3
    exact ⟨rfl, HB.out⟩
  · rw [wholeS_bad (by rw [hl]; exact h4) hq]
    have ene : ((⟨(summedL (s.data.toList.take (s.data.toList.length - 4))).toArray⟩ : ByteArray).toList == s.toList) = false := str_ne (fun e => hq (congrArg (fun z : ByteArray => z.data.toList) e))
    obtain ⟨T, hT⟩ : ∃ T, (⟨(summedL (s.data.toList.take (s.data.toList.length - 4))).toArray⟩ : ByteArray) = T := ⟨_, rfl⟩
    rw [hT] at KS ene
    clear hl h4 hn hte hq hT
    go_enter Tryd.func56, Tryd.ntmps56
    go_wp2_with fail
    refine (KS.out _).mono ?_
    rintro e w1 ⟨rfl, hb⟩
    have HB := Aside0.mk hb
    clear hb KS
    go_wp2
    go_ret3
    exact ⟨rfl, HB.out⟩
end Go.Proofs.YtknbhgodhmcemaaDoor.So
namespace Go.Proofs.YtknbhgodhmcemaaDoor.Lg
set_option linter.unusedSimpArgs false
set_option linter.unusedVariables false
open Go.Proofs.YtknbhgodhmcemaaDoor.Dk
structure Sm (S : DS) (n k : Nat) : Prop where
  arm : S.armed ≤ 1000000
  waits : S.waits.length ≤ n
  ops0 : 0 ≤ S.ops
  ops : S.ops ≤ (k : Int)
theorem sync_cases (S : DS) : (S.sync = (S.fails.1, 7) ∧ S.fails.2 = true) ∨ (S.sync = ({ S.fails.1.crash (fun _ => true) with ops := S.ops + 1 }, 0) ∧ S.fails.2 = false) := by
  unfold DS.sync
  cases h : S.fails.2 with
  | true => exact .inl ⟨if_pos rfl, rfl⟩
  | false => exact .inr ⟨if_neg (by decide), rfl⟩
def Full (S : DS) : Prop := (∀ s ∈ S.lasts, s.size = 128) ∧ ∀ x ∈ S.waits, x.2.size = 128
theorem applyW_full : ∀ (ws : List Wt) (l : List ByteArray), (∀ s ∈ l, s.size = 128) → (∀ x ∈ ws, x.2.size = 128) → ∀ s ∈ applyW l ws, s.size = 128
  | [], l, h, _ => h
  | x :: r, l, h, hw => by
    rw [applyW]
    refine applyW_full r _ (fun s hs => ?_) (fun y hy => hw y (List.mem_cons_of_mem _ hy))
    rcases List.mem_or_eq_of_mem_set hs with hs | rfl
    · exact h s hs
    · exact hw x List.mem_cons_self
theorem Full.read {S : DS} (h : Full S) : ∀ s ∈ S.read, s.size = 128 := applyW_full _ _ h.1 h.2
theorem Full.crash {S : DS} (h : Full S) (kp : Nat → Bool) : Full (S.crash kp) :=
  ⟨applyW_full _ _ h.1 (fun x hx => h.2 x (keptW_sub kp 0 S.waits x hx)), fun x (hx : x ∈ ([] : List Wt)) => absurd hx (by simp)⟩
theorem Full.arm {S : DS} (h : Full S) (a : Int) : Full { S with armed := a } := h
theorem Full.fresh (N : Nat) (a o : Int) : Full ⟨List.replicate N (sect 0), [], a, o⟩ :=
  ⟨fun s hs => by rw [List.eq_of_mem_replicate hs, sect_size], fun x (hx : x ∈ ([] : List Wt)) => absurd hx (by simp)⟩
theorem crash_len (S : DS) (kp : Nat → Bool) : (S.crash kp).lasts.length = S.lasts.length := applyW_len _ _
end Go.Proofs.YtknbhgodhmcemaaDoor.Lg
namespace Go.Proofs.YtknbhgodhmcemaaDoor.Lg
set_option linter.unusedSimpArgs false
set_option linter.unusedVariables false
set_option maxRecDepth 100000
open Go.RowKit Go.Proofs.YtknbhgodhmcemaaDoor.Own Go.Proofs.YtknbhgodhmcemaaDoor.Cel Go.Proofs.YtknbhgodhmcemaaDoor.Dk
theorem DY.start {w V : World} {p : Nat} {S : DS} {F : Nat → Prop} (d : DK w.heap.size p S F V) (b : Below w.heap.size w V) : DY w p S [] (.slice none 0 0) [] V :=
  ⟨F, d, b, fun x hx => absurd hx (by simp), World.ownsRow_nil _ _ _ _, fun k e => absurd e (by simp [Value.ownBlock])⟩
theorem box_new {V : World} (zc cs : Array Value) (t : TypeId) : Below V.heap.size V ((V.alloc (.cells zc t)).setRow V.heap.size cs) ∧ ((V.alloc (.cells zc t)).setRow V.heap.size cs).heap[V.heap.size]? = some (.cells cs t (0, 0)) ∧ (V.alloc (.cells zc t)).heap[V.heap.size]? = some (.cells zc t (0, 0)) :=
  ⟨below_setRow ((Below.refl V.heap.size V).alloc (Nat.le_refl _) (.cells zc t)) (g := V.heap.size) (Nat.le_refl _) cs, setRow_heap _ _ _ cs t (0, 0) (heap_alloc_new V _), heap_alloc_new V _⟩
theorem getD_size (l : List ByteArray) (k : Nat) (h : ∀ s ∈ l, s.size ≤ k) (j : Nat) : (l.getD j ByteArray.empty).size ≤ k := by
  rw [List.getD_eq_getElem?_getD]
  by_cases hj : j < l.length
  · rw [List.getElem?_eq_getElem hj]; exact h _ (List.getElem_mem hj)
  · rw [List.getElem?_eq_none (by omega)]; exact Nat.zero_le _
end Go.Proofs.YtknbhgodhmcemaaDoor.Lg
namespace Go.Proofs.YtknbhgodhmcemaaDoor.So
set_option linter.unusedSimpArgs false
set_option linter.unusedVariables false
set_option maxRecDepth 100000
open Go.RowKit Go.Proofs.YtknbhgodhmcemaaDoor.Own Go.Proofs.YtknbhgodhmcemaaDoor.Cel Go.Proofs.YtknbhgodhmcemaaDoor.Dk
open Go.Proofs.YtknbhgodhmcemaaDoor.Sl (close_calls closeS rc recV recV_one)
open Go.Proofs.YtknbhgodhmcemaaDoor.Lg (below_drewN0 str_ne box_new)
def rst (L : List UInt8) (i : Nat) : ByteArray := ⟨(L.drop (110 * i)).toArray⟩
theorem rst_size (L : List UInt8) (i : Nat) : (rst L i).size = L.length - 110 * i := by
  show (L.drop (110 * i)).toArray.size = _; rw [List.size_toArray, List.length_drop]
theorem rst_head (L : List UInt8) (i m : Nat) (hm : m = min 110 (L.length - 110 * i)) : (rst L i).extract 0 m = ⟨(pdat L i).toArray⟩ := by
  apply ByteArray.ext
  apply Array.toList_inj.1
  rw [Sl.ext_toList, List.drop_zero]
  show (L.drop (110 * i)).take m = (L.drop (110 * i)).take 110
  by_cases h : 110 ≤ L.length - 110 * i
  · rw [show m = 110 by omega]
  · rw [List.take_of_length_le (by rw [List.length_drop]; omega), List.take_of_length_le (by rw [List.length_drop]; omega)]
theorem rst_tail (L : List UInt8) (i m : Nat) (hm : m = min 110 (L.length - 110 * i)) : (rst L i).extract m (rst L i).size = rst L (i + 1) := by
  apply ByteArray.ext
  apply Array.toList_inj.1
  rw [Sl.ext_toList, rst_size]
  show ((L.drop (110 * i)).take _).drop m = L.drop (110 * (i + 1))
  rw [List.take_of_length_le (by rw [List.length_drop]; omega), List.drop_drop]
  by_cases h : 110 ≤ L.length - 110 * i
  · rw [show m = 110 by omega, show 110 * (i + 1) = 110 * i + 110 by omega]
  · rw [List.drop_of_length_le (by omega), List.drop_of_length_le (by omega)]
theorem rst_empty (L : List UInt8) (i : Nat) : ((rst L i).toList == (⟨#[]⟩ : ByteArray).toList) = decide (L.length ≤ 110 * i) := by
  rw [ByteArray.toList_eq, ByteArray.toList_eq]
  show (L.drop (110 * i) == []) = _
  by_cases h : L.length ≤ 110 * i
  · rw [List.drop_of_length_le h, decide_eq_true h]; rfl
  · rw [decide_eq_false h, beq_eq_false_iff_ne]
    intro e
    have := congrArg List.length e
    rw [List.length_drop] at this
    simp at this
    omega
variable {B p : Nat} {S : DS} {F : Nat → Prop} {W V V' : World}
structure Ok (S : DS) (N k : Nat) : Prop where
  ok : S.ok
  len : S.lasts.length = N
  arm : S.armed ≤ 1000000
  waits : S.waits.length + k ≤ 900000
  ops0 : 0 ≤ S.ops
  ops : S.ops + (k : Int) ≤ 1000000000
theorem Ok.put {S : DS} {N k i : Nat} {s : ByteArray} (h : Ok S N (k + 1)) (hi : i < N) (hs : s.size = 128) : Ok (S.put (i : Int) s).1 N k := by
  obtain ⟨l1, l2, l3⟩ := fails_lasts S
  have fa := (Lg.fails_armed S).2
  have h1 := h.len
  have h2 := h.arm
  have h3 := h.waits
  have h4 := h.ops0
  have h5 := h.ops
  rcases Lg.put_cases S i s (by omega) hs with ⟨e, _⟩ | ⟨e, _⟩
  · rw [e]
    exact ⟨fails_ok h.ok, by show S.fails.1.lasts.length = N; rw [l1]; exact h1, by show S.fails.1.armed ≤ _; omega, by show S.fails.1.waits.length + k ≤ _; rw [l2]; omega, by show 0 ≤ S.fails.1.ops; rw [l3]; exact h4, by show S.fails.1.ops + _ ≤ _; rw [l3]; omega⟩
  · rw [e]
    refine ⟨fun x hx => ?_, by show S.fails.1.lasts.length = N; rw [l1]; exact h1, by show S.fails.1.armed ≤ _; omega, ?_, by show 0 ≤ S.ops + 1; omega, by show S.ops + 1 + _ ≤ _; omega⟩
    · show x.1 < S.fails.1.lasts.length
      rw [l1]
      rcases List.mem_append.1 hx with hx | hx
      · exact h.ok x hx
      · simp only [List.mem_singleton] at hx
        subst hx
        show i < _; omega
    · show (S.waits ++ [(i, s)]).length + k ≤ _
      rw [List.length_append]; show S.waits.length + 1 + k ≤ _; omega
theorem did_step {S' : DS} {F : Nat → Prop} (h : Did B p S' F W V) (hb : Below V.heap.size V V') : Did B p S' F W V' := by
  obtain ⟨F2, d, o, f⟩ := h
  exact ⟨F2, d.below hb, o.trans (only_below hb) (fun i hi => .inl hi), f⟩
theorem did_write {S' : DS} {F : Nat → Prop} (h : Did B p S' F W V) (ha : S'.armed ≤ 9223372036854775807) (hn : S'.waits.length ≤ 1000000) (ho0 : 0 ≤ S'.ops) (ho : S'.ops ≤ 4611686018427387904) (i : Int) (s : ByteArray) (hi0 : -9223372036854775808 ≤ i) (hi1 : i ≤ 9223372036854775807) :
    Calls Tryd.prog 28 #[.pointer (some ⟨p, 0, none⟩), .int .i64 i, .string s] V fun e V' => e = .returned (.int .i64 (S'.put i s).2) ∧ Did B p (S'.put i s).1 F W V' := by
  obtain ⟨F2, d, o, f⟩ := h
  exact (write_calls d ha hn ho0 ho i s hi0 hi1).mono fun e V' ⟨q, h2⟩ => ⟨q, Did.of o f h2⟩
set_option maxHeartbeats 8000000 in
theorem write_good (h : DK B p S F W) (fr room g : Nat) (t : ByteArray) (hr : 1 ≤ room) (hl : fr + room ≤ S.lasts.length) (hN : S.lasts.length ≤ 5000) (hg : g < 18446744073709551616) (ht : t.size ≤ 100000) (hfit : t.size + 4 ≤ 110 * room) (hok : Ok S S.lasts.length (np (summedL t.data.toList).length)) :
    Calls Tryd.prog 17 #[.pointer (some ⟨p, 0, none⟩), .int .i64 (fr : Nat), .int .i64 (room : Nat), .int .u64 (g : Nat), .string t] W fun e W' =>
      e = .returned (.int .i64 (wrS fr g (summedL t.data.toList) (np (summedL t.data.toList).length) 0 S).2) ∧ Did B p (wrS fr g (summedL t.data.toList) (np (summedL t.data.toList).length) 0 S).1 F W W' := by
  have KM := Aside0.mk (may_calls h fr room hr hl (by omega))
  have KS := Aside0.mk (fun V => summed_calls t V (by omega))
  have hL := summedL_len t.data.toList
  have htl : t.data.toList.length = t.size := by rw [Array.length_toList]; rfl
  obtain ⟨L, hLL⟩ : ∃ L, summedL t.data.toList = L := ⟨_, rfl⟩
  rw [hLL] at hL hok KS ⊢
  obtain ⟨R, hR⟩ : ∃ R, wrS fr g L (np L.length) 0 S = R := ⟨_, rfl⟩
  rw [hR]
  obtain ⟨k, hk⟩ : ∃ k, np L.length = k := ⟨_, rfl⟩
  rw [hk] at hok hR
  have hk1 : 110 * k < L.length + 110 := by unfold np at hk; omega
  have hk2 : L.length ≤ 110 * k := by unfold np at hk; omega
  have hkr : k ≤ room := by omega
  have HD := Aside0.mk (show Did B p S F W W ∧ wrS fr g L (k - 0) 0 S = R ∧ Ok S S.lasts.length (k - 0) from ⟨⟨F, h, Only.refl _ _, fun _ e => .inl e⟩, hR, hok⟩)
  obtain ⟨N, hNN⟩ : ∃ N, S.lasts.length = N := ⟨_, rfl⟩
  rw [hNN] at hl hN HD
  have e0 : (⟨L.toArray⟩ : ByteArray) = rst L 0 := rfl
  rw [e0] at KS
  have d1 : decide (110 * (room : Int) - 4 < (t.size : Int)) = false := decide_eq_false (by omega)
  clear h hok hR hLL hNN htl e0
  go_enter Tryd.func17, Tryd.ntmps17
  go_wp2_with fail
  refine KM.out.mono ?_
  rintro e w1 ⟨rfl, rfl⟩
  clear KM
  go_wp2_with fail
  refine (KS.out _).mono ?_
  rintro e V1 ⟨rfl, hb⟩
  replace HD := Aside0.mk (And.intro (did_step HD.out.1 hb) HD.out.2)
  clear hb KS
  go_wp2_with fail
  go_loopw [11, 12] (fun sv iv V => ∃ (i : Nat) (S1 : DS), sv = .string (rst L i) ∧ iv = .int .i64 i ∧ i ≤ k ∧ Aside0 (Did B p S1 F W V ∧ wrS fr g L (k - i) i S1 = R ∧ Ok S1 N (k - i))) (fun _ iv _ => k - (intOf iv).toNat)
  case atStart => exact ⟨0, S, rfl, rfl, by omega, HD⟩
  case round =>
    obtain ⟨i, S1, rfl, rfl, hi, HS⟩ := hrel
    clear HD
    have hem := rst_empty L i
    have hnil : (⟨#[]⟩ : ByteArray).toList = [] := by rw [ByteArray.toList_eq]
    rw [hnil] at hem
    by_cases hlt : i < k
    rotate_left
    · have hd := decide_eq_true (show L.length ≤ 110 * i by omega)
      rw [hd] at hem
      have hki : k - i = 0 := by omega
      have HQ := Aside0.mk (show R = (S1, 0) ∧ Did B p S1 F W wr from ⟨by have := HS.out.2.1; rw [hki, wrS] at this; exact this.symm, HS.out.1⟩)
      clear HS hd hki hlt hi
      generalize rst L i = sv at hem ⊢
      go_wp2
      go_ret
      exact ⟨by rw [HQ.out.1]; rfl, by rw [HQ.out.1]; exact HQ.out.2⟩
    have hnl : ¬ L.length ≤ 110 * i := by omega
    rw [decide_eq_false hnl] at hem
    have hrs := rst_size L i
    obtain ⟨m, hm⟩ : ∃ m, min 110 (L.length - 110 * i) = m := ⟨_, rfl⟩
    have hhd := rst_head L i m hm.symm
    have htl := rst_tail L i m hm.symm
    have hem2 := rst_empty L (i + 1)
    rw [hnil] at hem2
    obtain ⟨n, hn⟩ : ∃ n, (rst L i).size = n := ⟨_, rfl⟩
    rw [hn] at hrs htl
    have hD : (⟨(pdat L i).toArray⟩ : ByteArray).size = m := by show (pdat L i).toArray.size = m; rw [List.size_toArray, pdat_len, hm]
    obtain ⟨D, hDD⟩ : ∃ D, (⟨(pdat L i).toArray⟩ : ByteArray) = D := ⟨_, rfl⟩
    have hmin : min (n : Int) 110 = (m : Int) := by omega
    have hmn : m ≤ n := by omega
    have hcast : ((fr + i : Nat) : Int) = (fr : Int) + (i : Int) := by omega
    have hps := psec_close g L i
    rw [hDD] at hhd hD hps
    have KC := Aside0.mk (fun V => close_calls (pk L.length i) g i D V (pk_lt _ _) hg (by omega))
    rw [hps] at KC
    have HPS := Aside0.mk (psec_size g L i)
    have HW := Aside0.mk (show wrS fr g L (k - i) i S1 = if (S1.put ((fr + i : Nat) : Int) (psec g L i)).2 ≠ 0 then S1.put ((fr + i : Nat) : Int) (psec g L i) else wrS fr g L (k - (i + 1)) (i + 1) (S1.put ((fr + i : Nat) : Int) (psec g L i)).1 by
      rw [show k - i = (k - (i + 1)) + 1 by omega, wrS])
    have HO := HS.out.2.2
    have hR2 := HS.out.2.1
    rw [HW.out] at hR2
    have HRR := Aside0.mk hR2
    have HOK := Aside0.mk (Ok.put (i := fr + i) (s := psec g L i) (show Ok S1 N ((k - (i + 1)) + 1) by rw [show (k - (i + 1)) + 1 = k - i by omega]; exact HO) (by omega) HPS.out)
    have ob1 := HO.arm
    have ob2 := HO.waits
    have ob3 := HO.ops0
    have ob4 := HO.ops
    have HDD := Aside0.mk HS.out.1
    have z13z : (wr.alloc (.cells #[.int .u8 0, .int .u64 0, .int .u32 0, .string ⟨#[]⟩] 64)).heap[wr.heap.size]? = some (.cells #[.int .u8 0, .int .u64 0, .int .u32 0, .string ⟨#[]⟩] 64 (0, 0)) := heap_alloc_new wr _
    have hbB := below_setRow ((Below.refl wr.heap.size wr).alloc (Nat.le_refl _) (.cells #[.int .u8 0, .int .u64 0, .int .u32 0, .string ⟨#[]⟩] 64)) (g := wr.heap.size) (Nat.le_refl _) #[.int .u8 2, .int .u64 (g : Nat), .int .u32 (i : Nat), .string D]
    have z13 := setRow_heap _ _ _ #[.int .u8 2, .int .u64 (g : Nat), .int .u32 (i : Nat), .string D] _ (0, 0) z13z
    have c3 : ((wr.alloc (.cells #[.int .u8 0, .int .u64 0, .int .u32 0, .string ⟨#[]⟩] 64)).setRow wr.heap.size #[.int .u8 2, .int .u64 (g : Nat), .int .u32 (i : Nat), .string D]).cell? ⟨wr.heap.size, 3, none⟩ = some (.string D) := cell_of_row _ _ 3 _ _ _ z13
    have c0 : ((wr.alloc (.cells #[.int .u8 0, .int .u64 0, .int .u32 0, .string ⟨#[]⟩] 64)).setRow wr.heap.size #[.int .u8 2, .int .u64 (g : Nat), .int .u32 (i : Nat), .string D]).cell? ⟨wr.heap.size, 0, none⟩ = some (.int .u8 2) := cell_of_row _ _ 0 _ _ _ z13
    have f0 : ((wr.alloc (.cells #[.int .u8 0, .int .u64 0, .int .u32 0, .string ⟨#[]⟩] 64)).setRow wr.heap.size #[.int .u8 2, .int .u64 (g : Nat), .int .u32 (i : Nat), .string D]).frozen? ⟨wr.heap.size, 0, none⟩ = false := frozen_of_row _ _ 0 _ _ z13
    have hi2 : (Tryd.prog.info? 64).map (·.size) = some (#[.int .u8 2, .int .u64 (g : Nat), .int .u32 (i : Nat), .string D] : Array Value).size := Sl.infoR
    have ho2 : (#[.int .u8 2, .int .u64 (g : Nat), .int .u32 (i : Nat), .string D] : Array Value).all (·.oneCell') = true := recV_one ⟨2, g, i, D⟩
    have hi32 : ((i : Nat) : Int) % 4294967296 = (i : Int) := by omega
    have HI := Aside0.mk (show i + 1 ≤ k from hlt)
    by_cases hlast : i + 1 = k
    · have hpk : pk L.length i = 3 := by rw [pk, hk, if_pos hlast]
      rw [hpk] at KC
      rw [decide_eq_true (show L.length ≤ 110 * (i + 1) by omega)] at hem2
      clear HS HO hR2 HW hnl hrs hm hDD hps hk1 hk2 hpk
      generalize rst L i = sv at hem hhd htl hn ⊢
      generalize hrv : rst L (i + 1) = rv at htl hem2
      have HRV := Aside0.mk hrv
      clear hrv
      have z14 : (((wr.alloc (.cells #[.int .u8 0, .int .u64 0, .int .u32 0, .string ⟨#[]⟩] 64)).setRow wr.heap.size #[.int .u8 2, .int .u64 (g : Nat), .int .u32 (i : Nat), .string D]).setCell ⟨wr.heap.size, 0, none⟩ (.int .u8 3)).heap[wr.heap.size]? = some (.cells #[.int .u8 3, .int .u64 (g : Nat), .int .u32 (i : Nat), .string D] 64 (0, 0)) := heap_setCell_same _ _ 0 _ _ (.int .u8 3) z13
      have hi3 : (Tryd.prog.info? 64).map (·.size) = some (#[.int .u8 3, .int .u64 (g : Nat), .int .u32 (i : Nat), .string D] : Array Value).size := Sl.infoR
      have HD2 := Aside0.mk (did_step HDD.out (hbB.setCell (p := ⟨wr.heap.size, 0, none⟩) (Nat.le_refl _) (.int .u8 3)))
      clear HDD hbB
      go_wp2_with (first | refine wpList_store_row rfl 64 _ _ rfl wr.heap.size #[.int .u8 2, .int .u64 (g : Nat), .int .u32 (i : Nat), .string D] rfl rfl 64 _ z13z hi2 rfl ho2 ?_ | refine wpList_load_row rfl 64 _ rfl wr.heap.size rfl 64 _ (0, 0) _ z14 Tryd.underlying64 rfl hi3 ?_ | fail)
      clear hi2 ho2 hi3 z13 z13z c3 c0 f0
      refine (KC.out _).mono ?_
      rintro e V2 ⟨rfl, hb⟩
      have HD3 := Aside0.mk (did_step HD2.out hb)
      clear hb KC HD2
      have KW := Aside0.mk (did_write HD3.out (by omega) (by omega) ob3 (by omega) ((fr + i : Nat) : Int) (psec g L i) (by omega) (by omega))
      rw [hcast] at KW
      go_wp2_with fail
      refine KW.out.mono ?_
      rintro e V3 ⟨rfl, h3⟩
      obtain ⟨Q, hQ⟩ : ∃ Q, S1.put ((fr : Int) + (i : Int)) (psec g L i) = Q := ⟨_, rfl⟩
      have hRQ := HRR.out
      have hOK := HOK.out
      rw [hcast] at hRQ hOK
      rw [hQ] at h3 hRQ hOK ⊢
      clear KW HD3 HRR HOK
      by_cases hq : Q.2 = 0
      · have HN := Aside0.mk (show Did B p Q.1 F W V3 ∧ wrS fr g L (k - (i + 1)) (i + 1) Q.1 = R ∧ Ok Q.1 N (k - (i + 1)) from ⟨h3, by rw [if_neg (fun e => e hq)] at hRQ; exact hRQ, hOK⟩)
        rw [hq]
        clear h3 hRQ hOK hQ
        go_wp2
        go_roundw
        case rel => exact ⟨i + 1, Q.1, by rw [HRV.out], by go_num, HI.out, HN⟩
        case measure => have := HI.out; simp [intOf]; omega
      · have HN := Aside0.mk (show R = Q ∧ Did B p Q.1 F W V3 from ⟨by rw [if_pos hq] at hRQ; exact hRQ.symm, h3⟩)
        obtain ⟨S9, q⟩ := Q
        dsimp only at hq ⊢
        have hq' : (q == 0) = false := by simpa using hq
        clear h3 hRQ hOK hQ
        go_wp2
        go_ret
        exact ⟨by rw [HN.out.1]; rfl, by rw [HN.out.1]; exact HN.out.2⟩

    · have hpk : pk L.length i = 2 := by rw [pk, hk, if_neg hlast]
      rw [hpk] at KC
      rw [decide_eq_false (show ¬ L.length ≤ 110 * (i + 1) by unfold np at hk; omega)] at hem2
      clear HS HO hR2 HW hnl hrs hm hDD hps hk1 hk2 hpk
      generalize rst L i = sv at hem hhd htl hn ⊢
      generalize hrv : rst L (i + 1) = rv at htl hem2
      have HRV := Aside0.mk hrv
      clear hrv
      have hi3 : (Tryd.prog.info? 64).map (·.size) = some (#[.int .u8 2, .int .u64 (g : Nat), .int .u32 (i : Nat), .string D] : Array Value).size := Sl.infoR
      have HD2 := Aside0.mk (did_step HDD.out hbB)
      clear HDD hbB
      go_wp2_with (first | refine wpList_store_row rfl 64 _ _ rfl wr.heap.size #[.int .u8 2, .int .u64 (g : Nat), .int .u32 (i : Nat), .string D] rfl rfl 64 _ z13z hi2 rfl ho2 ?_ | refine wpList_load_row rfl 64 _ rfl wr.heap.size rfl 64 _ (0, 0) _ z13 Tryd.underlying64 rfl hi3 ?_ | fail)
      clear hi2 ho2 hi3 z13 z13z c3 c0 f0
      refine (KC.out _).mono ?_
      rintro e V2 ⟨rfl, hb⟩
      have HD3 := Aside0.mk (did_step HD2.out hb)
      clear hb KC HD2
      have KW := Aside0.mk (did_write HD3.out (by omega) (by omega) ob3 (by omega) ((fr + i : Nat) : Int) (psec g L i) (by omega) (by omega))
      rw [hcast] at KW
      go_wp2_with fail
      refine KW.out.mono ?_
      rintro e V3 ⟨rfl, h3⟩
      obtain ⟨Q, hQ⟩ : ∃ Q, S1.put ((fr : Int) + (i : Int)) (psec g L i) = Q := ⟨_, rfl⟩
      have hRQ := HRR.out
      have hOK := HOK.out
      rw [hcast] at hRQ hOK
      rw [hQ] at h3 hRQ hOK ⊢
      clear KW HD3 HRR HOK
      by_cases hq : Q.2 = 0
      · have HN := Aside0.mk (show Did B p Q.1 F W V3 ∧ wrS fr g L (k - (i + 1)) (i + 1) Q.1 = R ∧ Ok Q.1 N (k - (i + 1)) from ⟨h3, by rw [if_neg (fun e => e hq)] at hRQ; exact hRQ, hOK⟩)
        rw [hq]
        clear h3 hRQ hOK hQ
        go_wp2
        go_roundw
        case rel => exact ⟨i + 1, Q.1, by rw [HRV.out], by go_num, HI.out, HN⟩
        case measure => have := HI.out; simp [intOf]; omega
      · have HN := Aside0.mk (show R = Q ∧ Did B p Q.1 F W V3 from ⟨by rw [if_pos hq] at hRQ; exact hRQ.symm, h3⟩)
        obtain ⟨S9, q⟩ := Q
        dsimp only at hq ⊢
        have hq' : (q == 0) = false := by simpa using hq
        clear h3 hRQ hOK hQ
        go_wp2
        go_ret
        exact ⟨by rw [HN.out.1]; rfl, by rw [HN.out.1]; exact HN.out.2⟩
end Go.Proofs.YtknbhgodhmcemaaDoor.So
