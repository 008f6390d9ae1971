/- A disk: Sync, Crash. -/
import Derived.Test.YtombochecgjmjaaDkSettle
namespace Go.Proofs.Ytombochecgjmjaa.Dk
set_option linter.unusedSimpArgs false
set_option linter.unusedVariables false
open Go.RowKit Go.Proofs.Ytombochecgjmjaa.Own Go.Proofs.Ytombochecgjmjaa.Cel

variable {B p : Nat} {S : DS} {F : Nat → Prop} {W : World}
set_option maxRecDepth 100000 in
theorem sync1_calls (j : Int) (W : World) : Calls Try.prog 31 #[.int .i64 j] W fun e w' => e = .returned (.bool true) ∧ W = w' := by
  go_enter Try.func31, Try.ntmps31
  go_wp2
  go_ret
  exact ⟨rfl, rfl⟩
theorem fails_ok (h : S.ok) : S.fails.1.ok := by
  obtain ⟨e1, e2, _⟩ := fails_lasts S
  unfold DS.ok
  rw [e1, e2]; exact h
theorem Did.of {B p : Nat} {S' : DS} {F F1 : Nat → Prop} {W W1 W2 : World} (h1 : Only F W W1) (hF : ∀ k, F1 k → F k ∨ W.heap.size ≤ k) (h : Did B p S' F1 W1 W2) : Did B p S' F W W2 := by
  obtain ⟨F2, d, o, f⟩ := h
  exact ⟨F2, d, h1.trans o hF, fun k hk => (f k hk).elim (hF k) (fun e => .inr (Nat.le_trans h1.size e))⟩
/-- One more operation. -/
theorem DK.opsUp {F : Nat → Prop} (h : DK B p S F W) (o : Int) : DK B p { S with ops := o } F (W.setCell ⟨p, 4, none⟩ (.int .i64 o)) ∧ Only F W (W.setCell ⟨p, 4, none⟩ (.int .i64 o)) := by
  obtain ⟨lb, lc, rb, rc, mb, wv, h1, h2⟩ := h
  exact ⟨⟨lb, lc, rb, rc, mb, wv, h1.setO o, h2⟩, only_set _ _ ((h2 p).2 (.inl rfl))⟩
theorem DK.cell4 {F : Nat → Prop} (h : DK B p S F W) : W.cell? ⟨p, 4, none⟩ = some (.int .i64 S.ops) ∧ W.frozen? ⟨p, 4, none⟩ = false := by
  obtain ⟨lb, lc, rb, rc, mb, wv, h1, h2⟩ := h
  exact ⟨h1.cell 4, h1.frozen 4⟩

set_option maxRecDepth 100000 in
set_option maxHeartbeats 1000000 in
theorem sync_calls (h : DK B p S F W) (hok : S.ok) (ha : S.armed ≤ 9223372036854775807) (hn : S.waits.length ≤ 1000000) (ho0 : 0 ≤ S.ops) (ho : S.ops ≤ 4611686018427387904) :
    Calls Try.prog 17 #[.pointer (some ⟨p, 0, none⟩)] W fun e W' => e = .returned (.int .i64 S.sync.2) ∧ Did B p S.sync.1 F W W' := by
  have KF := Aside0.mk (fails_calls h ha)
  cases hf : S.fails.2 with
  | true =>
    have e : S.sync = (S.fails.1, 7) := by unfold DS.sync; rw [if_pos hf]
    rw [e]
    rw [hf] at KF
    clear e hf h hok ha
    go_enter Try.func17, Try.ntmps17
    go_wp2_with fail
    refine KF.out.mono ?_
    rintro e w1 ⟨rfl, h1, h2⟩
    have H1 := Aside0.mk (And.intro h1 h2)
    clear h1 h2
    go_wp2
    go_ret
    exact ⟨rfl, F, H1.out.1, H1.out.2, fun _ e => .inl e⟩
  | false =>
    have e : S.sync = ({ S.fails.1.crash (fun _ => true) with ops := S.ops + 1 }, 0) := by unfold DS.sync; rw [if_neg (by rw [hf]; decide)]
    rw [e]
    rw [hf] at KF
    obtain ⟨fl, fw, fo⟩ := fails_lasts S
    have hok1 := fails_ok hok
    obtain ⟨S1, hS1⟩ : ∃ x, S.fails.1 = x := ⟨_, rfl⟩
    rw [hS1] at KF fl fw fo hok1 ⊢
    rw [← fw] at hn
    rw [← fo] at ho0 ho ⊢
    have HOK := Aside0.mk hok1
    have HN := Aside0.mk hn
    clear e hf h hok ha fl fw fo hS1 hok1 hn
    go_enter Try.func17, Try.ntmps17
    go_wp2_with fail
    refine KF.out.mono ?_
    rintro e W1 ⟨rfl, h1, h2⟩
    have H1 := Aside0.mk (And.intro h1 h2)
    clear h1 h2 KF
    go_wp2_with fail
    refine (settle_sync H1.out.1 HOK.out HN.out (fun _ => true) (fun V _ j _ => sync1_calls j V)).mono ?_
    rintro e W2 ⟨rfl, F2, d, o, f⟩
    have hops : (S1.crash (fun _ => true)).ops = S1.ops := rfl
    obtain ⟨c4, f4⟩ := d.cell4
    rw [hops] at c4
    have HD := Aside0.mk (show Did B p { S1.crash (fun _ => true) with ops := S1.ops + 1 } F W (W2.setCell ⟨p, 4, none⟩ (.int .i64 (S1.ops + 1))) from by
      obtain ⟨u1, u2⟩ := d.opsUp (S1.ops + 1)
      refine Did.of H1.out.2 (fun k e => .inl e) (Did.of o f ⟨F2, u1, u2, fun _ e => .inl e⟩))
    clear d o f hops H1
    obtain ⟨op, hop⟩ : ∃ x, S1.ops = x := ⟨_, rfl⟩
    rw [hop] at c4 ho ho0 HD
    have HOP := Aside0.mk hop
    clear hop
    go_wp2
    go_ret
    exact ⟨rfl, by rw [HOP.out]; exact HD.out⟩

/-- What is kept, in memory. -/
def KeepAt (F : Nat → Prop) (A : Option Addr) (ks : List Bool) (V : World) : Prop := ∀ i (h : i < ks.length), ∃ a b o, A = some ⟨b, o, none⟩ ∧ a = o + i ∧ ¬ F b ∧ V.cell? ⟨b, a, none⟩ = some (.bool (ks[i]'h))
theorem KeepAt.only {F : Nat → Prop} {A : Option Addr} {ks : List Bool} {V V' : World} (h : KeepAt F A ks V) (o : Only F V V') : KeepAt F A ks V' := fun i hi => by
  obtain ⟨a, b, o', e, e2, hn, hc⟩ := h i hi
  refine ⟨a, b, o', e, e2, hn, ?_⟩
  have hlt : b < V.heap.size := World.block_lt_of_cell? V _ hc
  exact (World.cell?_of_block (o.block b hlt hn)).trans hc
set_option maxRecDepth 100000 in
theorem crash1_calls (kb : Nat) (A : Option Addr) (c : Nat) (ks : List Bool) (j : Nat) (V : World) (h1 : V.cell? ⟨kb, 0, none⟩ = some (.slice A ks.length c)) (h2 : KeepAt F A ks V) (hl : ks.length ≤ 1000000) :
    Calls Try.prog 32 #[.int .i64 (j : Nat), .pointer (some ⟨kb, 0, none⟩)] V fun e w' => e = .returned (.bool (ks.getD j false)) ∧ V = w' := by
  by_cases hj : j < ks.length
  · obtain ⟨a, b, o, rfl, rfl, _, hc⟩ := h2 j hj
    obtain ⟨n, hn⟩ : ∃ n, ks.length = n := ⟨_, rfl⟩
    have e : ks.getD j false = ks[j]'hj := by rw [List.getD_eq_getElem?_getD, List.getElem?_eq_getElem hj]; rfl
    rw [e]
    obtain ⟨x, hx⟩ : ∃ x, ks[j]'hj = x := ⟨_, rfl⟩
    rw [hx] at hc ⊢
    rw [hn] at h1 hj
    have hj2 : (j : Int) < (n : Int) := by omega
    clear hn e hx h2
    go_enter Try.func32, Try.ntmps32
    go_wp2
    go_ret
    exact ⟨rfl, rfl⟩
  · have e : ks.getD j false = false := by rw [List.getD_eq_getElem?_getD, List.getElem?_eq_none (by omega)]; rfl
    rw [e]
    obtain ⟨n, hn⟩ : ∃ n, ks.length = n := ⟨_, rfl⟩
    rw [hn] at h1 hj
    have hj2 : decide ((j : Int) < (n : Int)) = false := decide_eq_false (by omega)
    clear hn e h2
    go_enter Try.func32, Try.ntmps32
    go_wp2
    go_ret
    exact ⟨rfl, rfl⟩

set_option maxRecDepth 100000 in
set_option maxHeartbeats 1000000 in
theorem crash_calls (h : DK B p S F W) (hok : S.ok) (hn : S.waits.length ≤ 1000000) (A : Option Addr) (c : Nat) (ks : List Bool) (hk : KeepAt F A ks W) (hl : ks.length ≤ 1000000) :
    Calls Try.prog 19 #[.pointer (some ⟨p, 0, none⟩), .slice A ks.length c] W fun e W' => e = .returned (.tuple #[]) ∧ Did B p (S.crash (fun j => ks.getD j false)) F W W' := by
  have hba : Below W.heap.size W (W.alloc (.cells #[.slice A ks.length c] 43)) := (Below.refl _ _).alloc (Nat.le_refl _) _
  have hO : Only F W (W.alloc (.cells #[.slice A ks.length c] 43)) := only_below hba
  have hD := h.below hba
  have hK := hk.only hO
  have hcc : (W.alloc (.cells #[.slice A ks.length c] 43)).heap[W.heap.size]? = some (.cells #[.slice A ks.length c] 43 (0, 0)) := heap_alloc_new W _
  have hnF : ¬ F W.heap.size := fun e => by have := (h.lt e).2; omega
  have KS := Aside0.mk (settle_crash (kb := W.heap.size) hD hok hn (fun j => ks.getD j false) (fun V oV j _ => by
    have o1 := oV.small
    have hlt : W.heap.size < (W.alloc (.cells #[.slice A ks.length c] 43)).heap.size := by simp
    have c1 : V.cell? ⟨W.heap.size, 0, none⟩ = some (.slice A ks.length c) := cell_of_row V W.heap.size 0 _ _ _ ((o1.block W.heap.size hlt hnF).trans hcc)
    exact crash1_calls W.heap.size A c ks j V c1 (hK.only o1) hl))
  have HO := Aside0.mk hO
  clear h hok hn hk hl hba hO hD hK hcc hnF
  go_enter Try.func19, Try.ntmps19
  go_wp2_with fail
  refine KS.out.mono ?_
  rintro e W2 ⟨rfl, hd⟩
  have HD := Aside0.mk (Did.of HO.out (fun k e => .inl e) hd)
  clear hd KS HO
  go_wp2
  go_end0
  exact ⟨rfl, HD.out⟩
end Go.Proofs.Ytombochecgjmjaa.Dk
