/- A disk, plainly: what lasts, and what waits. -/
import Derived.WalkKit
namespace Go.Proofs.Ytombochecgjmjaa.Dk

abbrev Wt := Nat × ByteArray
/-- Writes, one behind the other. -/
def applyW : List ByteArray → List Wt → List ByteArray
  | l, [] => l
  | l, x :: r => applyW (l.set x.1 x.2) r
theorem applyW_len : ∀ (ws : List Wt) (l : List ByteArray), (applyW l ws).length = l.length
  | [], _ => rfl
  | x :: r, l => by rw [applyW, applyW_len r, List.length_set]
theorem applyW_append : ∀ (a b : List Wt) (l : List ByteArray), applyW l (a ++ b) = applyW (applyW l a) b
  | [], _, _ => rfl
  | x :: r, b, l => by rw [List.cons_append, applyW, applyW_append r b]; rfl
theorem applyW_snoc (a : List Wt) (x : Wt) (l : List ByteArray) : applyW l (a ++ [x]) = (applyW l a).set x.1 x.2 := by rw [applyW_append]; rfl
/-- How many of the writes are to sector i. -/
def cnt (i : Nat) : List Wt → Nat
  | [] => 0
  | x :: r => (if x.1 = i then 1 else 0) + cnt i r
theorem cnt_append (i : Nat) : ∀ (a b : List Wt), cnt i (a ++ b) = cnt i a + cnt i b
  | [], b => by simp [cnt]
  | x :: r, b => by rw [List.cons_append, cnt, cnt, cnt_append i r b]; omega
theorem cnt_snoc (i : Nat) (a : List Wt) (x : Wt) : cnt i (a ++ [x]) = cnt i a + (if x.1 = i then 1 else 0) := by rw [cnt_append]; rfl
theorem cnt_le (i : Nat) : ∀ (a : List Wt), cnt i a ≤ a.length
  | [] => Nat.le_refl _
  | x :: r => by rw [cnt, List.length_cons]; have := cnt_le i r; split <;> omega
theorem applyW_other {i : Nat} : ∀ (ws : List Wt) (l : List ByteArray), cnt i ws = 0 → (applyW l ws)[i]? = l[i]?
  | [], _, _ => rfl
  | x :: r, l, h => by
    rw [cnt] at h
    by_cases e : x.1 = i
    · rw [if_pos e] at h; omega
    · rw [if_neg e, Nat.zero_add] at h
      rw [applyW, applyW_other r _ h, List.getElem?_set_ne e]
theorem applyW_set {i : Nat} (t : ByteArray) : ∀ (ws : List Wt) (l : List ByteArray), applyW (l.set i t) ws = if cnt i ws = 0 then (applyW l ws).set i t else applyW l ws
  | [], l => rfl
  | x :: r, l => by
    rw [cnt, applyW, applyW]
    by_cases e : x.1 = i
    · subst e
      rw [if_pos rfl, if_neg (by omega), List.set_set]
    · rw [if_neg e, Nat.zero_add, ← applyW_set t r, List.set_comm _ _ (Ne.symm e)]
/-- Which of what waits is kept. -/
def keptW (kp : Nat → Bool) : Nat → List Wt → List Wt
  | _, [] => []
  | k, x :: r => if kp k then x :: keptW kp (k + 1) r else keptW kp (k + 1) r
theorem keptW_snoc (kp : Nat → Bool) (x : Wt) : ∀ (l : List Wt) (k : Nat), keptW kp k (l ++ [x]) = keptW kp k l ++ (if kp (k + l.length) then [x] else [])
  | [], k => by simp [keptW]
  | y :: r, k => by
    rw [List.cons_append, keptW, keptW, keptW_snoc kp x r, List.length_cons, show k + 1 + r.length = k + (r.length + 1) by omega]
    by_cases h : kp k = true
    · rw [if_pos h, if_pos h, List.cons_append]
    · rw [if_neg h, if_neg h]
theorem keptW_cnt (kp : Nat → Bool) (i : Nat) : ∀ (l : List Wt) (k : Nat), cnt i l = 0 → cnt i (keptW kp k l) = 0
  | [], _, _ => rfl
  | x :: r, k, h => by
    rw [cnt] at h
    rw [keptW]
    by_cases e : kp k = true
    · rw [if_pos e, cnt, keptW_cnt kp i r _ (by omega)]; omega
    · rw [if_neg e]; exact keptW_cnt kp i r _ (by omega)
theorem keptW_all (l : List Wt) (kp : Nat → Bool) : ∀ (k : Nat), (∀ j, k ≤ j → j < k + l.length → kp j = true) → keptW kp k l = l := by
  induction l with
  | nil => intro k _; rfl
  | cons x r ih =>
    intro k h
    rw [keptW, if_pos (h k (Nat.le_refl _) (by rw [List.length_cons]; omega)), ih (k + 1) (fun j h1 h2 => h j (by omega) (by rw [List.length_cons]; omega))]
theorem keptW_none (l : List Wt) (kp : Nat → Bool) : ∀ (k : Nat), (∀ j, k ≤ j → j < k + l.length → kp j = false) → keptW kp k l = [] := by
  induction l with
  | nil => intro k _; rfl
  | cons x r ih =>
    intro k h
    rw [keptW, if_neg (by rw [h k (Nat.le_refl _) (by rw [List.length_cons]; omega)]; decide), ih (k + 1) (fun j h1 h2 => h j (by omega) (by rw [List.length_cons]; omega))]
theorem keptW_mem (kp : Nat → Bool) (x : Wt) : ∀ (l : List Wt) (k : Nat), x ∈ keptW kp k l → x ∈ l
  | [], _, h => h
  | y :: r, k, h => by
    rw [keptW] at h
    by_cases e : kp k = true
    · rw [if_pos e] at h
      rcases List.mem_cons.1 h with rfl | h
      · exact List.mem_cons_self
      · exact List.mem_cons_of_mem _ (keptW_mem kp x r _ h)
    · rw [if_neg e] at h
      exact List.mem_cons_of_mem _ (keptW_mem kp x r _ h)
/-- What is read of each sector that was written, anew. -/
def copyW (src : List ByteArray) : List ByteArray → List Wt → List ByteArray
  | l, [] => l
  | l, x :: r => copyW src (l.set x.1 (src.getD x.1 ByteArray.empty)) r
theorem copyW_len (src : List ByteArray) : ∀ (ws : List Wt) (l : List ByteArray), (copyW src l ws).length = l.length
  | [], _ => rfl
  | x :: r, l => by rw [copyW, copyW_len src r, List.length_set]
theorem copyW_snoc (src : List ByteArray) (x : Wt) : ∀ (a : List Wt) (l : List ByteArray), copyW src l (a ++ [x]) = (copyW src l a).set x.1 (src.getD x.1 ByteArray.empty)
  | [], _ => rfl
  | y :: r, l => by rw [List.cons_append, copyW, copyW_snoc src x r]; rfl
theorem copyW_get (src : List ByteArray) {i : Nat} : ∀ (ws : List Wt) (l : List ByteArray), l.length = src.length → i < l.length →
    (copyW src l ws)[i]? = if cnt i ws = 0 then l[i]? else src[i]?
  | [], l, _, _ => rfl
  | x :: r, l, hl, hi => by
    rw [copyW, copyW_get src r _ (by rw [List.length_set, hl]) (by rw [List.length_set]; exact hi), cnt]
    by_cases e : x.1 = i
    · rw [if_pos e, if_neg (show ¬ (1 + cnt i r = 0) by omega)]
      by_cases h0 : cnt i r = 0
      · rw [if_pos h0, e, List.getElem?_set_self hi, List.getD_eq_getElem?_getD, List.getElem?_eq_getElem (by omega)]; rfl
      · rw [if_neg h0]
    · rw [if_neg e, Nat.zero_add, List.getElem?_set_ne e]
/-- Behind a settling what is read is what lasts. -/
theorem settled (lasts : List ByteArray) (ws : List Wt) (kp : Nat → Bool) : copyW (applyW lasts (keptW kp 0 ws)) (applyW lasts ws) ws = applyW lasts (keptW kp 0 ws) := by
  have hl : (applyW lasts ws).length = (applyW lasts (keptW kp 0 ws)).length := by rw [applyW_len, applyW_len]
  apply List.ext_getElem?
  intro i
  by_cases hi : i < (applyW lasts ws).length
  · rw [copyW_get _ _ _ hl hi]
    by_cases h : cnt i ws = 0
    · rw [if_pos h, applyW_other _ _ h, applyW_other _ _ (keptW_cnt kp i ws 0 h)]
    · rw [if_neg h]
  · rw [List.getElem?_eq_none (by rw [copyW_len]; omega), List.getElem?_eq_none (by omega)]

/-- The disk. -/
structure DS where
  lasts : List ByteArray
  waits : List Wt
  armed : Int
  ops : Int
def DS.read (S : DS) : List ByteArray := applyW S.lasts S.waits
/-- Each write is to a sector that there is. -/
def DS.ok (S : DS) : Prop := ∀ x ∈ S.waits, x.1 < S.lasts.length
theorem DS.read_len (S : DS) : S.read.length = S.lasts.length := applyW_len _ _
def DS.fails (S : DS) : DS × Bool := if S.armed ≤ 0 then (S, false) else ({ S with armed := S.armed - 1 }, decide (S.armed - 1 = 0))
def DS.put (S : DS) (i : Int) (s : ByteArray) : DS × Int :=
  if ¬ (0 ≤ i ∧ i < (S.lasts.length : Int)) then (S, 5) else if s.size ≠ 128 then (S, 4)
  else if S.fails.2 = true then (S.fails.1, 7) else ({ S.fails.1 with waits := S.waits ++ [(i.toNat, s)], ops := S.ops + 1 }, 0)
def DS.crash (S : DS) (kp : Nat → Bool) : DS := { S with lasts := applyW S.lasts (keptW kp 0 S.waits), waits := [] }
def DS.sync (S : DS) : DS × Int :=
  if S.fails.2 = true then (S.fails.1, 7) else ({ S.fails.1.crash (fun _ => true) with ops := S.ops + 1 }, 0)
end Go.Proofs.Ytombochecgjmjaa.Dk
