/- Layer 12's example. -/
import Derived.Test.YtombochecgjmjaaDkSync
namespace Go.Proofs.Ytombochecgjmjaa.Dk
set_option linter.unusedSimpArgs false
set_option linter.unusedVariables false
open Go.RowKit Go.Proofs.Ytombochecgjmjaa.Own Go.Proofs.Ytombochecgjmjaa.Cel

/-- A disk and the world in which the call began. -/
def DW (w : World) (p : Nat) (S : DS) (V : World) : Prop := ∃ F, DK w.heap.size p S F V ∧ Below w.heap.size w V
theorem DW.step {w V V' : World} {p : Nat} {S : DS} (h : DW w p S V) (hb : Below V.heap.size V V') : DW w p S V' := by
  obtain ⟨F, d, b⟩ := h
  exact ⟨F, d.below hb, b.trans (hb.mono b.size)⟩
theorem DW.did {w V V' : World} {p : Nat} {S S' : DS} {F : Nat → Prop} (d : DK w.heap.size p S F V) (b : Below w.heap.size w V) (h : Did w.heap.size p S' F V V') : DW w p S' V' := by
  obtain ⟨F', d', o, f⟩ := h
  exact ⟨F', d', b.trans (o.below (fun k hk => (d.lt hk).1) b.size)⟩
theorem DW.new {w V : World} {p : Nat} {S : DS} {F : Nat → Prop} (d : DK w.heap.size p S F V) (b : Below w.heap.size w V) : DW w p S V := ⟨F, d, b⟩
theorem DW.write {w V : World} {p : Nat} {S : DS} (h : DW w p S V) (ha : S.armed ≤ 9223372036854775807) (hn : S.waits.length ≤ 1000000) (ho0 : 0 ≤ S.ops) (ho : S.ops ≤ 4611686018427387904) (i : Int) (s : ByteArray) (hi0 : -9223372036854775808 ≤ i) (hi1 : i ≤ 9223372036854775807) :
    Calls Try.prog 12 #[.pointer (some ⟨p, 0, none⟩), .int .i64 i, .string s] V fun e W' => e = .returned (.int .i64 (S.put i s).2) ∧ DW w p (S.put i s).1 W' := by
  obtain ⟨F, d, b⟩ := h
  exact (write_calls d ha hn ho0 ho i s hi0 hi1).mono fun _ _ ⟨e, h⟩ => ⟨e, DW.did d b h⟩
theorem DW.read {w V : World} {p : Nat} {S : DS} (h : DW w p S V) (i : Int) :
    Calls Try.prog 18 #[.pointer (some ⟨p, 0, none⟩), .int .i64 i] V fun e W' => e = .returned (.tuple #[.string (S.readAt i).1, .int .i64 (S.readAt i).2]) ∧ V = W' := by
  obtain ⟨F, d, b⟩ := h
  exact read_calls d i
theorem DW.size {w V : World} {p : Nat} {S : DS} (h : DW w p S V) :
    Calls Try.prog 29 #[.pointer (some ⟨p, 0, none⟩)] V fun e W' => e = .returned (.int .i64 (S.lasts.length : Nat)) ∧ V = W' := by
  obtain ⟨F, d, b⟩ := h
  exact size_calls d
theorem DW.ops {w V : World} {p : Nat} {S : DS} (h : DW w p S V) :
    Calls Try.prog 15 #[.pointer (some ⟨p, 0, none⟩)] V fun e W' => e = .returned (.int .i64 S.ops) ∧ V = W' := by
  obtain ⟨F, d, b⟩ := h
  exact ops_calls d
theorem DW.waiting {w V : World} {p : Nat} {S : DS} (h : DW w p S V) :
    Calls Try.prog 16 #[.pointer (some ⟨p, 0, none⟩)] V fun e W' => e = .returned (.int .i64 (S.waits.length : Nat)) ∧ V = W' := by
  obtain ⟨F, d, b⟩ := h
  exact waiting_calls d
theorem DW.arm {w V : World} {p : Nat} {S : DS} (h : DW w p S V) (n : Int) :
    Calls Try.prog 11 #[.pointer (some ⟨p, 0, none⟩), .int .i64 n] V fun e W' => e = .returned (.tuple #[]) ∧ DW w p { S with armed := n } W' := by
  obtain ⟨F, d, b⟩ := h
  exact (arm_calls d n).mono fun _ _ ⟨e, h1, h2⟩ => ⟨e, DW.did d b ⟨F, h1, h2, fun _ e => .inl e⟩⟩
theorem DW.sync {w V : World} {p : Nat} {S : DS} (h : DW w p S V) (hok : S.ok) (ha : S.armed ≤ 9223372036854775807) (hn : S.waits.length ≤ 1000000) (ho0 : 0 ≤ S.ops) (ho : S.ops ≤ 4611686018427387904) :
    Calls Try.prog 17 #[.pointer (some ⟨p, 0, none⟩)] V fun e W' => e = .returned (.int .i64 S.sync.2) ∧ DW w p S.sync.1 W' := by
  obtain ⟨F, d, b⟩ := h
  exact (sync_calls d hok ha hn ho0 ho).mono fun _ _ ⟨e, h⟩ => ⟨e, DW.did d b h⟩
/-- A crash that keeps nothing. -/
theorem DW.crash0 {w V : World} {p : Nat} {S : DS} (h : DW w p S V) (hok : S.ok) (hn : S.waits.length ≤ 1000000) :
    Calls Try.prog 19 #[.pointer (some ⟨p, 0, none⟩), .slice none 0 0] V fun e W' => e = .returned (.tuple #[]) ∧ DW w p { S with waits := [] } W' := by
  obtain ⟨F, d, b⟩ := h
  refine (crash_calls d hok hn none 0 [] (fun i h => absurd h (by simp)) (by simp)).mono fun _ _ ⟨e, h⟩ => ⟨e, ?_⟩
  have e2 : S.crash (fun j => [].getD j false) = { S with waits := [] } := by
    unfold DS.crash
    rw [keptW_none _ _ _ (fun j _ _ => by simp)]; rfl
  rw [e2] at h
  exact DW.did d b h

set_option maxRecDepth 100000 in
set_option maxHeartbeats 1000000 in
theorem awake12_calls (w : World) : Calls Try.prog 14 #[] w fun e w' => e = .returned (.bool true) ∧ Below w.heap.size w w' := by
  have p1 : DS.put ⟨List.replicate 2 (sect 0), [], 0, 0⟩ 0 (sect 7) = (⟨List.replicate 2 (sect 0), [(0, sect 7)], 0, 1⟩, 0) := put_ok ⟨by decide, by decide⟩ (sect_size 7) rfl
  have r1 : DS.readAt ⟨List.replicate 2 (sect 0), [(0, sect 7)], 0, 1⟩ 0 = (sect 7, 0) := rfl
  have r2 : DS.readAt ⟨List.replicate 2 (sect 0), [], 0, 1⟩ 0 = (sect 0, 0) := rfl
  have ok1 : DS.ok ⟨List.replicate 2 (sect 0), [(0, sect 7)], 0, 1⟩ := fun x hx => by
    simp only [List.mem_singleton] at hx
    subst hx
    show 0 < (List.replicate 2 (sect 0)).length
    simp
  have KN := Aside0.mk (new_good 2 w (by omega) (by omega))
  have KF := Aside0.mk (fun V => fill_calls 7 V)
  rw [show (((7 : UInt8).toNat : Nat) : Int) = 7 by decide] at KF
  rw [show ((2 : Nat) : Int) = 2 by rfl] at KN
  have P1 := Aside0.mk p1
  have R1 := Aside0.mk r1
  have R2 := Aside0.mk r2
  have OK1 := Aside0.mk ok1
  clear p1 r1 r2 ok1
  go_enter Try.func14, Try.ntmps14
  go_wp2_with fail
  refine KN.out.mono ?_
  rintro x w1 ⟨p, F, rfl, d, b⟩
  have HD := Aside0.mk (DW.new d b)
  clear d b KN
  go_wp2_with fail
  refine (KF.out _).mono ?_
  rintro x w2 ⟨rfl, hb⟩
  replace HD := Aside0.mk (HD.out.step hb)
  clear hb
  go_wp2_with fail
  refine (HD.out.write (by decide) (by decide) (by decide) (by decide) 0 (sect 7) (by decide) (by decide)).mono ?_
  rw [P1.out]
  rintro x w3 ⟨rfl, hd⟩
  replace HD := Aside0.mk hd
  clear hd
  go_wp2_with fail
  refine (HD.out.read 0).mono ?_
  rw [R1.out]
  rintro x w4 ⟨rfl, rfl⟩
  go_wp2_with fail
  refine (HD.out.crash0 OK1.out (by decide)).mono ?_
  rintro x w5 ⟨rfl, hd⟩
  replace HD := Aside0.mk hd
  clear hd
  go_wp2_with fail
  refine (HD.out.read 0).mono ?_
  rw [R2.out]
  rintro x w6 ⟨rfl, rfl⟩
  generalize sect 7 = s7 at *
  go_wp2_with fail
  refine (KF.out _).mono ?_
  rintro x w7 ⟨rfl, hb⟩
  replace HD := Aside0.mk (HD.out.step hb)
  clear hb
  go_wp2_with fail
  refine (rblank_calls _).mono ?_
  rintro x w8 ⟨rfl, hb⟩
  replace HD := Aside0.mk (HD.out.step hb)
  clear hb
  generalize sect 0 = s0 at *
  go_wp2_with fail
  refine HD.out.size.mono ?_
  rintro x w9 ⟨rfl, rfl⟩
  go_wp2
  go_ret
  obtain ⟨F', d', b'⟩ := HD.out
  exact ⟨rfl, b'⟩
end Go.Proofs.Ytombochecgjmjaa.Dk
