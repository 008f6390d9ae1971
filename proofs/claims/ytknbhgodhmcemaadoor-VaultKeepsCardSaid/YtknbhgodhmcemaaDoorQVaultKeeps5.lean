/- Texts of the seat, as far as the row needs them. -/
import Derived.Below
import Derived.BigQuiet
import Derived.ChangeArms
import Derived.ChangeSlices
import Derived.DataReads
import Derived.Deep.CutBlock
import Derived.Deep.DeepCutAuto
import Derived.Deep.DeepFit
import Derived.Deep.Light
import Derived.Deep.LoopGhost
import Derived.Deep.QuietTactic
import Derived.Deep.RegionHeld3
import Derived.Ground.Names2Prog
import Derived.LaidMore
import Derived.Laws.AppendOwn
import Derived.Laws.BitsAllLaws
import Derived.Laws.BitsLemmas
import Derived.Laws.CopyOwn
import Derived.Laws.Externs
import Derived.Laws.IdiomCopy
import Derived.Laws.IdiomStrings
import Derived.Laws.OwnMore
import Derived.Laws.ResultCell
import Derived.Laws.Rows
import Derived.Laws.StructEq
import Derived.Laws.Tables
import Derived.Lib.AppendStr
import Derived.Lib.FrozenHead2
import Derived.Lib.OthersKept
import Derived.Lib.RepeatB
import Derived.Lib.TrimByte
import Derived.Lib.UnsafeStr
import Derived.LoopIn
import Derived.LoopNIn
import Derived.Maps.Own
import Derived.Maps.OwnOps
import Derived.Maps.OwnSet
import Derived.Maps.Views
import Derived.OrdersHeld
import Derived.Outline
import Derived.OwnWalk
import Derived.OwnWalkIn
import Derived.ProofKit
import Derived.RangeFuncBound
import Derived.RangeFuncCalls
import Derived.RangeFuncLeaves
import Derived.RangeFuncNested
import Derived.Shelf.Abstract
import Derived.Shelf.Bits.Mul64
import Derived.Shelf.RegionOpen
import Derived.Shelf.Slices.Clone
import Derived.Shelf.Small.Strs
import Derived.Shelf.Small.Utf8
import Derived.Shelf.Strings.Builder1
import Derived.Shelf.Strings.Builder2
import Derived.Shelf.Strings.BuilderF
import Derived.Shelf.Strings.BuilderK
import Derived.Shelf.Strings.Prefix
import Derived.Shelf.Strings.Repeat
import Derived.Shelf.Strings.Search1
import Derived.Shelf.Strings.Trim
import Derived.Shelf.Unicode.DecodeSlow
import Derived.SliceStrings
import Derived.StillTailTactics
import Derived.TacticsInMore
import Derived.Test.YtknbhgodhmcemaaDoorProg
import Derived.Test.YtknbhgodhmcemaaDoorRows
import Derived.WalkKit
import Derived.WalkMore
import Derived.WideShapes
import Derived.Test.YtknbhgodhmcemaaDoorQVaultKeeps0
import Derived.Test.YtknbhgodhmcemaaDoorQVaultKeeps1
import Derived.Test.YtknbhgodhmcemaaDoorQVaultKeeps2
import Derived.Test.YtknbhgodhmcemaaDoorQVaultKeeps3
import Derived.Test.YtknbhgodhmcemaaDoorQVaultKeeps4
set_option linter.unusedVariables false
set_option linter.unusedSimpArgs false
namespace Go.Proofs.YtknbhgodhmcemaaDoor.Va
set_option linter.unusedSimpArgs false
set_option linter.unusedVariables false
set_option maxRecDepth 100000
open Go.RowKit Go.Shelf Go.Proofs.YtknbhgodhmcemaaDoor.Own Go.Proofs.YtknbhgodhmcemaaDoor.Cel Go.Proofs.YtknbhgodhmcemaaDoor.Dk Go.Proofs.YtknbhgodhmcemaaDoor.Seg
open Go.Proofs.YtknbhgodhmcemaaDoor.Lg (DY DY.start DY.crash box_new)
open Go.Proofs.YtknbhgodhmcemaaDoor.So (np np_size summedL)
set_option maxHeartbeats 16000000 in
theorem keeps_walk (A : Option Addr) (c : Nat) (l : List A16) (w : World) (h1 : Acts A l w) (m1 : l.length ≤ 9223372036854775807) :
    Calls Tryd.prog 7 #[.slice A l.length c] w fun e w' => e = .returned (.bool true) ∧ Below w.heap.size w w' := by
  obtain ⟨n1, hn1⟩ : ∃ n, l.length = n := ⟨_, rfl⟩
  rw [hn1] at m1 ⊢
  have H1 := Aside0.mk h1
  have N1 := Aside0.mk hn1
  clear h1 hn1
  by_cases q1 : 30 < n1
  · have t1 : decide (30 < (n1 : Int)) = true := decide_eq_true (by omega)
    have t1' : decide (30 < n1) = true := decide_eq_true q1
    clear q1
    go_enter Tryd.func7, Tryd.ntmps7
    go_wp2_with fail
    refine (awake16_calls _).mono ?_
    rintro x w3 ⟨rfl, hb⟩
    have HB := Aside0.mk hb
    clear hb
    go_wp2
    go_ret
    exact ⟨rfl, HB.out⟩
  have t1 : decide (30 < (n1 : Int)) = false := decide_eq_false (by omega)
  have t1' : decide (30 < n1) = false := decide_eq_false q1
  have l1 : n1 ≤ 30 := by omega
  have KN := Aside0.mk (new_good 10 w (by omega) (by omega))
  rw [show ((10 : Nat) : Int) = 10 by rfl] at KN
  have hnp : np (summedL sT.data.toList).length = 1 := np_size sT
  have HNP := Aside0.mk hnp
  clear q1 hnp m1
  go_enter Tryd.func7, Tryd.ntmps7
  go_wp2_with fail
  refine KN.out.mono ?_
  rintro x w1 ⟨p, F, rfl, d, bl⟩
  have H := Aside0.mk (show DY w p ⟨List.replicate 10 (sect 0), [], 0, 0⟩ [] (.slice none 0 0) [] w1 from DY.start d bl)
  clear d bl KN
  obtain ⟨S2, mk, KF⟩ := format_calls (k := 1000) H.out 2 sT (So.Calm.fresh 10 _ (by rw [HNP.out]; decide)) (by decide) (by decide) (by decide) (by decide) (fun i hi => by rw [fresh_get 10 i hi]; exact look_blank)
  obtain ⟨ho, hinit⟩ := keeps_init mk
  have HKF := Aside0.mk KF
  have HM := Aside0.mk mk.calm
  have HO := Aside0.mk ho
  have HI := Aside0.mk hinit
  clear KF mk ho hinit H
  go_wp2_with fail
  refine HKF.out.mono ?_
  rintro x w2 ⟨rfl, h⟩
  have H := Aside0.mk h
  clear h HKF
  have KO := DY.vopen H.out 2 (by decide) (by rw [HM.out.ok.len]; decide) (by rw [HM.out.ok.len]; decide) HM.out.full
  rw [HO.out] at KO
  dsimp only at KO
  have HKO := Aside0.mk KO
  clear KO HO
  go_wp2_with fail
  refine HKO.out.mono ?_
  rintro x V1 ⟨u1, rfl, _, hb⟩
  replace H := Aside0.mk (H.out.step hb)
  clear hb HKO
  obtain ⟨hb, z3, z3z⟩ := box_new (V := V1) zVault (vaultV 2 0 4 6 1 0 true) 74
  have HB := Aside0.mk (H.out.add hb (Nat.le_refl _) z3)
  have HB3 := Aside0.mk (show w.heap.size ≤ V1.heap.size from H.out.bel.size)
  clear hb H z3
  have i0 := infoV 2 0 4 6 1 0 true
  have q0 := vaultV_one 2 0 4 6 1 0 true
  have hsT : sT.toList = [116] := by rw [ByteArray.toList_eq]; rfl
  go_wp2_with (first | refine wpList_store_row rfl 74 _ _ rfl V1.heap.size (vaultV 2 0 4 6 1 0 true) rfl rfl 74 _ z3z i0 rfl q0 ?_ | fail)
  clear z3z i0 q0
  go_loopw [52, 9] (fun iv mv W => ∃ (i : Nat), iv = .int .i64 i ∧ i ≤ n1 ∧ Aside0 (KV w p V1.heap.size i mv W)) (fun iv _ _ => n1 - (intOf iv).toNat)
  case atStart =>
    refine ⟨0, rfl, by omega, ⟨?_⟩⟩
    obtain ⟨old, M, hM, hv, hl⟩ := HI.out
    have := KV.fresh (i := 0) (x := ⟨sT, .slice none 0 0, [], 0⟩) HB.out #[.string ⟨#[116]⟩, .slice none 0 0, .int .i64 0] rfl HB3.out hv hl (fun e => by cases e) (fun y hy => absurd hy (by simp)) (by omega) (by decide) (by decide) (by decide) (ok_mono HM.out.ok (by decide))
    simpa [World.setRow] using this
  case round =>
    obtain ⟨j, rfl, hj, HK⟩ := hrel
    clear HI HM HB hsT HNP
    generalize V1.heap.size = b5 at HB3 HK ⊢
    have hw5 : w.heap.size ≤ b5 := HB3.out
    by_cases hlt : j < n1
    rotate_left
    · obtain rfl : j = n1 := by omega
      have HW := Aside0.mk (show Below w.heap.size w wr from by
        obtain ⟨sl, g, nx, st, x, ts, tr, old, M, S, mb, mc, cur, _, hd, _⟩ := HK.out
        exact hd.bel)
      clear HK hlt
      go_wp2_with fail
      refine (awake16_calls _).mono ?_
      rintro x w3 ⟨rfl, hb⟩
      have HB := Aside0.mk (HW.out.trans (hb.mono HW.out.size))
      clear hb HW
      go_wp2
      go_ret
      exact ⟨rfl, HB.out⟩
    obtain ⟨sl, g, nx, st, x, ts, tr, old, M, S, mb, mc, cur, rfl, hd, hcs, hmc, hmc2, hcur, hbm, hb5, hmbw, hvj, hlog, hlk, htr, hM, hts, hal, hsu, hnx, hok⟩ := HK.out
    have hj1 : (j : Int) < (n1 : Int) := by omega
    have hjl : j < l.length := by rw [N1.out]; exact hlt
    obtain ⟨ab, ao, rfl, a0, a1, a2, a3, a4, ak, akl, an⟩ := (H1.out.far (Nat.le_refl _) hd.bel) j hjl
    obtain ⟨⟨k, d, n, b, A', c', ks⟩, ha⟩ : ∃ a, l[j]'hjl = a := ⟨_, rfl⟩
    have akw := H1.out.keep j hjl
    rw [ha] at a0 a1 a2 a3 a4 ak akl an akw
    dsimp only at a0 a1 a2 a3 a4 ak akl an akw
    obtain ⟨nk, hnk⟩ : ∃ q, ks.length = q := ⟨_, rfl⟩
    rw [hnk] at a4 akl
    have KK := Aside0.mk (And.intro akw hnk)
    obtain ⟨hb11, z11, z11z⟩ := box_new (V := wr) zA #[.int .u8 k, .string d, .int .i64 n, .int .u8 b, .slice A' nk c'] 81
    have HD := Aside0.mk (hd.add hb11 (Nat.le_refl _) z11)
    have f0 : ((wr.alloc (.cells zA 81)).setRow wr.heap.size #[.int .u8 k, .string d, .int .i64 n, .int .u8 b, .slice A' nk c']).cell? ⟨wr.heap.size, 0, none⟩ = some (.int .u8 k) := cell_of_row _ _ 0 _ _ _ z11
    have f1 : ((wr.alloc (.cells zA 81)).setRow wr.heap.size #[.int .u8 k, .string d, .int .i64 n, .int .u8 b, .slice A' nk c']).cell? ⟨wr.heap.size, 1, none⟩ = some (.string d) := cell_of_row _ _ 1 _ _ _ z11
    have f2 : ((wr.alloc (.cells zA 81)).setRow wr.heap.size #[.int .u8 k, .string d, .int .i64 n, .int .u8 b, .slice A' nk c']).cell? ⟨wr.heap.size, 2, none⟩ = some (.int .i64 n) := cell_of_row _ _ 2 _ _ _ z11
    have f4 : ((wr.alloc (.cells zA 81)).setRow wr.heap.size #[.int .u8 k, .string d, .int .i64 n, .int .u8 b, .slice A' nk c']).cell? ⟨wr.heap.size, 4, none⟩ = some (.slice A' nk c') := cell_of_row _ _ 4 _ _ _ z11
    have hl5 : b5 < wr.heap.size := (Array.getElem?_eq_some_iff.1 (hd.at List.mem_cons_self)).1
    have hlm : mb < wr.heap.size := (Array.getElem?_eq_some_iff.1 (hd.at (List.mem_cons_of_mem _ List.mem_cons_self))).1
    have HL := Aside0.mk (And.intro hl5 (And.intro hlm (And.intro hbm (And.intro hb5 hmbw))))
    have HC := Aside0.mk (And.intro hcs (And.intro hmc (And.intro hmc2 hcur)))
    have HV := Aside0.mk (And.intro hvj (And.intro hlog (And.intro hlk htr)))
    have HS := Aside0.mk (And.intro hM (And.intro hts (And.intro hal (And.intro hsu (And.intro hnx hok)))))
    have iA : (Tryd.prog.info? 81).map (·.size) = some (#[.int .u8 k, .string d, .int .i64 n, .int .u8 b, .slice A' nk c'] : Array Value).size := infoA
    have oA : (#[.int .u8 k, .string d, .int .i64 n, .int .u8 b, .slice A' nk c'] : Array Value).all (·.oneCell') = true := by simp [Value.oneCell']
    clear hd hcs hmc hmc2 hcur hbm hb5 hmbw hvj hlog hlk htr hM hts hal hsu hnx hok HK hb11 z11 ak akw hnk ha hjl hl5 hlm
    by_cases g1 : 110 < d.size
    · have t2 : decide (110 < (d.size : Int)) = true := decide_eq_true (by omega)
      have t2' : decide (110 < d.size) = true := decide_eq_true g1
      clear g1
      go_wp2_with (first | refine wpList_store_row rfl 81 _ _ rfl wr.heap.size #[.int .u8 k, .string d, .int .i64 n, .int .u8 b, .slice A' nk c'] rfl rfl 81 _ z11z iA rfl oA ?_ | fail)
      refine (awake16_calls _).mono ?_
      rintro x w3 ⟨rfl, hb⟩
      have HB := Aside0.mk (HD.out.step hb)
      clear hb
      go_wp2
      go_ret
      exact ⟨rfl, HB.out.bel⟩
    have t2 : decide (110 < (d.size : Int)) = false := decide_eq_false (by omega)
    have t2' : decide (110 < d.size) = false := decide_eq_false g1
    by_cases g2 : 50 < nk
    · have t3 : decide (50 < (nk : Int)) = true := decide_eq_true (by omega)
      have t3' : decide (50 < nk) = true := decide_eq_true g2
      clear g1 g2
      go_wp2_with (first | refine wpList_store_row rfl 81 _ _ rfl wr.heap.size #[.int .u8 k, .string d, .int .i64 n, .int .u8 b, .slice A' nk c'] rfl rfl 81 _ z11z iA rfl oA ?_ | fail)
      refine (awake16_calls _).mono ?_
      rintro x w3 ⟨rfl, hb⟩
      have HB := Aside0.mk (HD.out.step hb)
      clear hb
      go_wp2
      go_ret
      exact ⟨rfl, HB.out.bel⟩
    have t3 : decide (50 < (nk : Int)) = false := decide_eq_false (by omega)
    have t3' : decide (50 < nk) = false := decide_eq_false g2
    have hd110 : d.size ≤ 110 := by omega
    have hnk50 : nk ≤ 50 := by omega
    clear g1 g2
    -- KINDS
    by_cases k3 : k = 3
    · subst k3
      have KA := Aside0.mk (HD.out.arm n)
      have AN := Aside0.mk an
      go_wp2_with (first | refine wpList_store_row rfl 81 _ _ rfl wr.heap.size #[.int .u8 3, .string d, .int .i64 n, .int .u8 b, .slice A' nk c'] rfl rfl 81 _ z11z iA rfl oA ?_ | fail)
      refine KA.out.mono ?_
      rintro e V4 ⟨rfl, h4⟩
      have HN := Aside0.mk (KV.again h4 (by simp) HL.out HC.out ⟨HV.out.1.same rfl rfl, HV.out.2.1.same rfl rfl, fun e => ⟨(HV.out.2.2.1 e).1.arm n, (HV.out.2.2.1 e).2⟩, HV.out.2.2.2⟩ (by
        have h := hs_mono HS.out
        exact ⟨h.1, h.2.1, h.2.2.1, h.2.2.2.1, h.2.2.2.2.1, ok_arm h.2.2.2.2.2 n AN.out⟩))
      clear h4 KA
      go_wp2
      go_roundw
      case rel => exact ⟨j + 1, by go_num, by omega, HN⟩
      case measure => simp [intOf]; omega
    by_cases k0 : k = 0
    · subst k0
      obtain ⟨S', nx', q, all', sure', KA0, v1, lg1, lk1, ok1, al1, su1, nx1, cs⟩ := app_any (k := 900 - 10 * j - 2) HD.out HV.out.1 HV.out.2.1 HV.out.2.2.1 (ok_mono HS.out.2.2.2.2.2 (by omega)) d hd110 HS.out.2.2.1 HS.out.2.2.2.1 HS.out.2.2.2.2.1
      have KA := Aside0.mk KA0
      have NV := Aside0.mk (And.intro v1 (And.intro lg1 (And.intro lk1 (And.intro (ok_mono (j := 900 - 10 * (j + 1)) ok1 (by omega)) (And.intro al1 (And.intro su1 nx1))))))
      have CS := Aside0.mk cs
      have z5 := HD.out.at (b := b5) (List.mem_cons_of_mem _ List.mem_cons_self)
      have i5 := infoV 2 sl 4 6 g nx st
      have i6 := infoV 2 sl 4 6 g nx' st
      have o6 := vaultV_one 2 sl 4 6 g nx' st
      clear KA0 v1 lg1 lk1 ok1 al1 su1 nx1 cs
      go_wp2_with (first | refine wpList_store_row rfl 81 _ _ rfl wr.heap.size #[.int .u8 0, .string d, .int .i64 n, .int .u8 b, .slice A' nk c'] rfl rfl 81 _ z11z iA rfl oA ?_ | refine wpList_load_row rfl 74 _ rfl b5 rfl 74 _ (0, 0) _ z5 Tryd.underlying74 rfl i5 ?_ | fail)
      refine KA.out.mono ?_
      rintro e V4 ⟨rfl, h4⟩
      clear KA HD f0 f1 f2 f4 z5 a0 a1 a2 a3 a4
      obtain ⟨hb12, z12, z12z⟩ := box_new (V := V4) zVault (vaultV 2 sl 4 6 g nx' st) 74
      have hlt4 : wr.heap.size < V4.heap.size := (Array.getElem?_eq_some_iff.1 (h4.at List.mem_cons_self)).1
      have h5 := h4.add hb12 (Nat.le_refl _) z12
      have c12 : ((V4.alloc (.cells zVault 74)).setRow V4.heap.size (vaultV 2 sl 4 6 g nx' st)).cell? ⟨V4.heap.size, 5, none⟩ = some (.int .i64 (nx' : Nat)) := cell_of_row _ _ 5 _ _ _ z12
      have c5 : ((V4.alloc (.cells zVault 74)).setRow V4.heap.size (vaultV 2 sl 4 6 g nx' st)).cell? ⟨b5, 5, none⟩ = some (.int .i64 (nx : Nat)) := cell_of_row _ _ 5 _ _ _ (h5.at (b := b5) (List.mem_cons_of_mem _ (List.mem_cons_of_mem _ List.mem_cons_self)))
      have H5 := Aside0.mk h5
      clear h4 h5 hb12
      rcases CS.out with ⟨cq, rfl, rfl, rfl⟩ | ⟨rfl, rfl, cq⟩
      · have eq1 : (q == 0) = false := by simpa using cq
        have z5 := H5.out.at (b := b5) (List.mem_cons_of_mem _ (List.mem_cons_of_mem _ List.mem_cons_self))
        have h6 := (H5.out.sub (Y := [(b5, .cells (vaultV 2 sl 4 6 g nx' st) 74 (0, 0)), (mb, .cells cur 78 (0, 0))]) (fun y hy => by simp only [List.mem_cons, List.not_mem_nil, or_false] at hy ⊢; rcases hy with h | h <;> simp [h])).row hw5 (vaultV 2 sl 4 6 g nx' st) (fun y hy => by simp only [List.mem_cons, List.not_mem_nil, or_false] at hy; subst hy; exact HL.out.2.2.1.symm)
        have HN := Aside0.mk (KV.again (i := j + 1) (x := x) h6 (by simp) HL.out HC.out ⟨NV.out.1, NV.out.2.1, NV.out.2.2.1, HV.out.2.2.2⟩ ⟨by have := HS.out.1; omega, by have := HS.out.2.1; omega, NV.out.2.2.2.2.1, NV.out.2.2.2.2.2.1, NV.out.2.2.2.2.2.2, NV.out.2.2.2.1⟩)
        clear cq h6 NV CS H5 HV HS
        go_wp2_with (first | refine wpList_store_row rfl 74 _ _ rfl V4.heap.size (vaultV 2 sl 4 6 g nx' st) rfl rfl 74 _ z12z i6 rfl o6 ?_ | refine wpList_load_row rfl 74 _ rfl V4.heap.size rfl 74 _ (0, 0) _ z12 Tryd.underlying74 rfl i6 ?_ | refine wpList_store_row rfl 74 _ _ rfl b5 (vaultV 2 sl 4 6 g nx' st) rfl rfl 74 _ z5 i6 rfl o6 ?_ | fail)
        go_roundw
        case rel => exact ⟨j + 1, by go_num, by omega, HN⟩
        case measure => simp [intOf]; omega
      have enx : decide ((nx : Int) < ((nx + 1 : Nat) : Int)) = true := decide_eq_true (by omega)
      have enx2 : decide ((nx : Int) < (nx : Int) + 1) = true := decide_eq_true (by omega)
      go_wp2_with (first | refine wpList_store_row rfl 74 _ _ rfl V4.heap.size (vaultV 2 sl 4 6 g (nx + 1) st) rfl rfl 74 _ z12z i6 rfl o6 ?_ | fail)
      have hlt5 : V4.heap.size < ((V4.alloc (.cells zVault 74)).setRow V4.heap.size (vaultV 2 sl 4 6 g (nx + 1) st)).heap.size := (Array.getElem?_eq_some_iff.1 z12).1
      clear z12z c12 c5 enx enx2 CS
      generalize (V4.alloc (.cells zVault 74)).setRow V4.heap.size (vaultV 2 sl 4 6 g (nx + 1) st) = V5 at H5 z12 hlt5 ⊢
      generalize V4.heap.size = b12 at H5 z12 hlt5 hlt4 ⊢
      generalize wr.heap.size = b11 at H5 hlt4 HL ⊢
      clear z12
      refine wp_region_held_drew (S := fun W => W.heap[b11]? = some (.cells #[.int .u8 0, .string d, .int .i64 n, .int .u8 b, .slice A' nk c'] 81 (0, 0))) (by kernel_rfl) (H5.out.at (b := b11) (List.mem_cons_of_mem _ List.mem_cons_self)) (fun hH => ?_)
      refine take_at (i := 0) (some 86) (.slice (some ⟨mb, 0, none⟩) (ts.length + 1) mc) rfl rfl (by kernel_rfl) (by kernel_rfl) (by kernel_rfl) (fun _ _ _ h => h) (Or.inl ⟨by rfl, fun w hSw => by go_simp⟩) hH ?_
      try simp only [Act.put, List.setIfInBounds_toArray, List.set_cons_zero, List.set_cons_succ]
      refine take_at (i := 1) (some 87) (.slice (some ⟨mb, 0, none⟩) (ts.length + 1) mc) rfl rfl (by kernel_rfl) (by kernel_rfl) (by kernel_rfl) (fun _ _ _ h => h) (Or.inl ⟨by rfl, fun w hSw => by go_simp⟩) hH ?_
      try simp only [Act.put, List.setIfInBounds_toArray, List.set_cons_zero, List.set_cons_succ]
      refine take_at (i := 2) (some 88) (.pointer (some ⟨mb, 0, none⟩)) rfl rfl (by kernel_rfl) (by kernel_rfl) (by kernel_rfl) (fun _ _ _ h => h) (Or.inl ⟨by rfl, fun w hSw => by go_simp⟩) hH ?_
      try simp only [Act.put, List.setIfInBounds_toArray, List.set_cons_zero, List.set_cons_succ]
      refine take_at (i := 3) (some 89) (.pointer (some ⟨mb, 1, none⟩)) rfl rfl (by kernel_rfl) (by kernel_rfl) (by kernel_rfl) (fun _ _ _ h => h) (Or.inl ⟨by rfl, fun w hSw => by go_simp⟩) hH ?_
      try simp only [Act.put, List.setIfInBounds_toArray, List.set_cons_zero, List.set_cons_succ]
      refine take_at (i := 5) (some 91) (.pointer (some ⟨b11, 1, none⟩)) rfl rfl (by kernel_rfl) (by kernel_rfl) (by kernel_rfl) (fun _ _ _ h => h) (Or.inl ⟨by rfl, fun w hSw => by go_simp⟩) hH ?_
      try simp only [Act.put, List.setIfInBounds_toArray, List.set_cons_zero, List.set_cons_succ]
      refine take_at (i := 6) (some 92) (.string d) rfl rfl (by kernel_rfl) (by kernel_rfl) (by kernel_rfl) (fun _ _ _ h => h) (Or.inl ⟨by rfl, fun w hSw => by have e2 : w.cell? ⟨b11, 1, none⟩ = some (.string d) := cell_of_row w b11 1 _ _ _ hSw; go_simp⟩) hH ?_
      try simp only [Act.put, List.setIfInBounds_toArray, List.set_cons_zero, List.set_cons_succ]
      have c1 : V5.drew.cell? ⟨mb, 1, none⟩ = some x.v := (cell_of_row V5.drew mb 1 _ _ _ (H5.out.at (b := mb) (List.mem_cons_of_mem _ (List.mem_cons_of_mem _ (List.mem_cons_of_mem _ List.mem_cons_self))))).trans (hc_at HC.out.2.2.2 1 _ rfl)
      have HE := Aside0.mk (H5.out.step (((Below.refl V5.heap.size V5).alloc (Nat.le_refl _) (.cells #[.string d] 9)).drew))
      have hc1 : (V5.alloc (.cells #[.string d] 9)).cell? ⟨mb, 1, none⟩ = some x.v := (cell_of_row (V5.alloc (.cells #[.string d] 9)).drew mb 1 _ _ _ (HE.out.at (b := mb) (List.mem_cons_of_mem _ (List.mem_cons_of_mem _ (List.mem_cons_of_mem _ List.mem_cons_self))))).trans (hc_at HC.out.2.2.2 1 _ rfl)
      obtain ⟨v', V7, hr, how, hgr, hfar⟩ := app_row (V5.alloc (.cells #[.string d] 9)).drew w.heap.size x.v x.all (by obtain ⟨F, _, _, _, r, _⟩ := HE.out; exact r) (by obtain ⟨F, _, b0, _⟩ := HE.out; exact b0.size) (by have := HS.out.2.2.1; omega) V5.heap.size d (heap_alloc_new V5 _)
      have h7 := HE.out.grown hgr how rfl hfar
      obtain ⟨Av, cv, rfl⟩ := owns_slice how
      have HR := Aside0.mk hr
      have H7 := Aside0.mk h7
      have hcm7 : V7.cell? ⟨mb, 1, none⟩ = some x.v := (cell_of_row V7 mb 1 _ _ _ (h7.at (b := mb) (List.mem_cons_of_mem _ (List.mem_cons_of_mem _ (List.mem_cons_of_mem _ List.mem_cons_self))))).trans (hc_at HC.out.2.2.2 1 _ rfl)
      have hfz7 : V7.frozen? ⟨mb, 1, none⟩ = false := frozen_of_row V7 mb 1 _ _ (h7.at (b := mb) (List.mem_cons_of_mem _ (List.mem_cons_of_mem _ (List.mem_cons_of_mem _ List.mem_cons_self))))
      have z7 := h7.at (b := b11) (List.mem_cons_of_mem _ List.mem_cons_self)
      have h8 := setc (h7.sub (Y := [(mb, .cells cur 78 (0, 0)), (b12, .cells (vaultV 2 sl 4 6 g (nx + 1) st) 74 (0, 0)), (b11, .cells #[.int .u8 0, .string d, .int .i64 n, .int .u8 b, .slice A' nk c'] 81 (0, 0)), (b5, .cells (vaultV 2 sl 4 6 g nx st) 74 (0, 0))]) (fun y hy => by simp only [List.mem_cons, List.not_mem_nil, or_false] at hy ⊢; rcases hy with h | h | h | h <;> simp [h])) HL.out.2.2.2.2 1 (.slice Av (x.all.length + 1) cv) (cur.setIfInBounds 1 (.slice Av (x.all.length + 1) cv)) rfl (fun y hy => by
        have := HL.out.2.1
        simp only [List.mem_cons, List.not_mem_nil, or_false] at hy
        rcases hy with rfl | rfl | rfl
        · show b12 ≠ mb; omega
        · show b11 ≠ mb; omega
        · exact HL.out.2.2.1)
      have z8 := h8.at (b := b11) (List.mem_cons_of_mem _ (List.mem_cons_of_mem _ List.mem_cons_self))
      have H8 := Aside0.mk h8
      clear h7 h8 how hgr hfar
      refine wpAnyH_ready (rs := [4, 7]) (by kernel_rfl) (by simp) (AllReadyH.cons rfl (fun K hK => ?_) (AllReadyH.cons rfl (fun K hK => ?_) AllReadyH.nil))
      · go_simp
        refine hK.out _ _ hH (fun hH => ?_)
        clear hK K
        try simp only [Act.put, List.setIfInBounds_toArray, List.set_cons_zero, List.set_cons_succ]
        refine wpAnyH_ready (rs := [7]) (by kernel_rfl) (by simp) (AllReadyH.cons rfl (fun K hK => ?_) AllReadyH.nil)
        go_simp
        refine hK.out _ _ (Own.keep hH ((Below.refl _ _).alloc (Nat.le_refl _) _)) (fun hH => ?_)
        clear hK K
        try simp only [Act.put, List.setIfInBounds_toArray, List.set_cons_zero, List.set_cons_succ]
        refine wpAnyH_ready (rs := [8]) (by kernel_rfl) (by simp) (AllReadyH.cons rfl (fun K hK => ?_) AllReadyH.nil)
        refine wp_append_run (.tmp 90) (.tmp 93) 22 rfl _ _ rfl rfl HR.out ?_
        refine hK.out _ _ z7 (fun hH => ?_)
        clear hK K
        try simp only [Act.put, List.setIfInBounds_toArray, List.set_cons_zero, List.set_cons_succ]
        refine take_at (i := 9) (some 95) (.pointer (some ⟨mb, 0, none⟩)) rfl rfl (by kernel_rfl) (by kernel_rfl) (by kernel_rfl) (fun _ _ _ h => h) (Or.inl ⟨by rfl, fun w hSw => by go_simp⟩) hH ?_
        try simp only [Act.put, List.setIfInBounds_toArray, List.set_cons_zero, List.set_cons_succ]
        refine take_at (i := 10) (some 96) (.pointer (some ⟨mb, 1, none⟩)) rfl rfl (by kernel_rfl) (by kernel_rfl) (by kernel_rfl) (fun _ _ _ h => h) (Or.inl ⟨by rfl, fun w hSw => by go_simp⟩) hH ?_
        try simp only [Act.put, List.setIfInBounds_toArray, List.set_cons_zero, List.set_cons_succ]
        refine wpAnyH_ready (rs := [11]) (by kernel_rfl) (by simp) (AllReadyH.cons rfl (fun K hK => ?_) AllReadyH.nil)
        go_simp
        refine hK.out _ _ z8 (fun hH => ?_)
        clear hK K hH
        refine wpAnyH_done (by kernel_rfl) ?_ _
        try simp only [Act.put, List.setIfInBounds_toArray, List.set_cons_zero, List.set_cons_succ]
        clear HR H7 hcm7 hfz7 z7 z8 c1 hc1 HE H5
        generalize V7.setCell ⟨mb, 1, none⟩ (.slice Av (x.all.length + 1) cv) = V8 at H8 ⊢
        have z12 := H8.out.at (b := b12) (List.mem_cons_of_mem _ List.mem_cons_self)
        have z5 := H8.out.at (b := b5) (List.mem_cons_of_mem _ (List.mem_cons_of_mem _ (List.mem_cons_of_mem _ List.mem_cons_self)))
        have h9 := (H8.out.sub (Y := [(b5, .cells (vaultV 2 sl 4 6 g nx st) 74 (0, 0)), (mb, .cells (cur.setIfInBounds 1 (.slice Av (x.all.length + 1) cv)) 78 (0, 0))]) (fun y hy => by simp only [List.mem_cons, List.not_mem_nil, or_false] at hy ⊢; rcases hy with h | h <;> simp [h])).row hw5 (vaultV 2 sl 4 6 g (nx + 1) st) (fun y hy => by simp only [List.mem_cons, List.not_mem_nil, or_false] at hy; subst hy; exact HL.out.2.2.1.symm)
        have hcm := hc_all HC.out.2.2.2 (.slice Av (x.all.length + 1) cv) (x.all ++ [d])
        rcases cq with ⟨cq, rfl⟩ | ⟨rfl, rfl⟩
        · have eq1 : (q == 0) = false := by simpa using cq
          have HN := Aside0.mk (KV.again (i := j + 1) (x := ⟨x.t, (.slice Av (x.all.length + 1) cv), x.all ++ [d], x.sure⟩) h9 (by simp) HL.out ⟨by rw [Array.size_setIfInBounds]; exact HC.out.1, HC.out.2.1, HC.out.2.2.1, hcm⟩ ⟨NV.out.1, NV.out.2.1, NV.out.2.2.1, HV.out.2.2.2⟩ ⟨by have := HS.out.1; omega, by have := HS.out.2.1; omega, NV.out.2.2.2.2.1, NV.out.2.2.2.2.2.1, NV.out.2.2.2.2.2.2, NV.out.2.2.2.1⟩)
          clear cq h9 hcm NV HV HS H8
          go_wp2_with (first | refine wpList_load_row rfl 74 _ rfl b12 rfl 74 _ (0, 0) _ z12 Tryd.underlying74 rfl i6 ?_ | refine wpList_store_row rfl 74 _ _ rfl b5 (vaultV 2 sl 4 6 g (nx + 1) st) rfl rfl 74 _ z5 i6 rfl o6 ?_ | fail)
          go_roundw
          case rel => exact ⟨j + 1, by go_num, by omega, HN⟩
          case measure => simp [intOf]; omega
        · have zm := h9.at (b := mb) (List.mem_cons_of_mem _ List.mem_cons_self)
          have c1 : (V8.setRow b5 (vaultV 2 sl 4 6 g (nx + 1) st)).cell? ⟨mb, 1, none⟩ = some (.slice Av (x.all.length + 1) cv) := (cell_of_row _ mb 1 _ _ _ zm).trans (hc_at hcm 1 _ rfl)
          have c2 : (V8.setRow b5 (vaultV 2 sl 4 6 g (nx + 1) st)).cell? ⟨mb, 2, none⟩ = some (.int .i64 (x.sure : Nat)) := (cell_of_row _ mb 2 _ _ _ zm).trans (hc_at hcm 2 _ rfl)
          have fz2 : (V8.setRow b5 (vaultV 2 sl 4 6 g (nx + 1) st)).frozen? ⟨mb, 2, none⟩ = false := frozen_of_row _ mb 2 _ _ zm
          have h10 := setc (h9.sub (Y := [(mb, .cells (cur.setIfInBounds 1 (.slice Av (x.all.length + 1) cv)) 78 (0, 0)), (b5, .cells (vaultV 2 sl 4 6 g (nx + 1) st) 74 (0, 0))]) (fun y hy => by simp only [List.mem_cons, List.not_mem_nil, or_false] at hy ⊢; exact hy.symm)) HL.out.2.2.2.2 2 (.int .i64 ((x.all.length + 1 : Nat) : Int)) ((cur.setIfInBounds 1 (.slice Av (x.all.length + 1) cv)).setIfInBounds 2 (.int .i64 ((x.all.length + 1 : Nat) : Int))) rfl (fun y hy => by simp only [List.mem_cons, List.not_mem_nil, or_false] at hy; subst hy; exact HL.out.2.2.1)
          have elen : (x.all ++ [d]).length = x.all.length + 1 := by rw [List.length_append]; rfl
          have HN := Aside0.mk (KV.again (i := j + 1) (x := ⟨x.t, (.slice Av (x.all.length + 1) cv), x.all ++ [d], x.all.length + 1⟩) h10 ⟨List.mem_cons_of_mem _ List.mem_cons_self, List.mem_cons_self⟩ HL.out ⟨by rw [Array.size_setIfInBounds, Array.size_setIfInBounds]; exact HC.out.1, HC.out.2.1, HC.out.2.2.1, hc_sure hcm (x.all.length + 1)⟩ (by rw [← elen]; exact ⟨NV.out.1, NV.out.2.1, NV.out.2.2.1, HV.out.2.2.2⟩) (by rw [← elen]; exact ⟨by have := HS.out.1; omega, by have := HS.out.2.1; omega, NV.out.2.2.2.2.1, NV.out.2.2.2.2.2.1, NV.out.2.2.2.2.2.2, NV.out.2.2.2.1⟩))
          clear h9 h10 hcm NV HV HS H8 zm
          go_wp2_with (first | refine wpList_load_row rfl 74 _ rfl b12 rfl 74 _ (0, 0) _ z12 Tryd.underlying74 rfl i6 ?_ | refine wpList_store_row rfl 74 _ _ rfl b5 (vaultV 2 sl 4 6 g (nx + 1) st) rfl rfl 74 _ z5 i6 rfl o6 ?_ | fail)
          go_roundw
          case rel => exact ⟨j + 1, by go_num, by omega, HN⟩
          case measure => simp [intOf]; omega
      · go_simp
        refine hK.out _ _ (Own.keep hH ((Below.refl _ _).alloc (Nat.le_refl _) _)) (fun hH => ?_)
        clear hK K
        try simp only [Act.put, List.setIfInBounds_toArray, List.set_cons_zero, List.set_cons_succ]
        refine wpAnyH_ready (rs := [4]) (by kernel_rfl) (by simp) (AllReadyH.cons rfl (fun K hK => ?_) AllReadyH.nil)
        go_simp
        refine hK.out _ _ hH (fun hH => ?_)
        clear hK K
        try simp only [Act.put, List.setIfInBounds_toArray, List.set_cons_zero, List.set_cons_succ]
        refine wpAnyH_ready (rs := [8]) (by kernel_rfl) (by simp) (AllReadyH.cons rfl (fun K hK => ?_) AllReadyH.nil)
        refine wp_append_run (.tmp 90) (.tmp 93) 22 rfl _ _ rfl rfl HR.out ?_
        refine hK.out _ _ z7 (fun hH => ?_)
        clear hK K
        try simp only [Act.put, List.setIfInBounds_toArray, List.set_cons_zero, List.set_cons_succ]
        refine take_at (i := 9) (some 95) (.pointer (some ⟨mb, 0, none⟩)) rfl rfl (by kernel_rfl) (by kernel_rfl) (by kernel_rfl) (fun _ _ _ h => h) (Or.inl ⟨by rfl, fun w hSw => by go_simp⟩) hH ?_
        try simp only [Act.put, List.setIfInBounds_toArray, List.set_cons_zero, List.set_cons_succ]
        refine take_at (i := 10) (some 96) (.pointer (some ⟨mb, 1, none⟩)) rfl rfl (by kernel_rfl) (by kernel_rfl) (by kernel_rfl) (fun _ _ _ h => h) (Or.inl ⟨by rfl, fun w hSw => by go_simp⟩) hH ?_
        try simp only [Act.put, List.setIfInBounds_toArray, List.set_cons_zero, List.set_cons_succ]
        refine wpAnyH_ready (rs := [11]) (by kernel_rfl) (by simp) (AllReadyH.cons rfl (fun K hK => ?_) AllReadyH.nil)
        go_simp
        refine hK.out _ _ z8 (fun hH => ?_)
        clear hK K hH
        refine wpAnyH_done (by kernel_rfl) ?_ _
        try simp only [Act.put, List.setIfInBounds_toArray, List.set_cons_zero, List.set_cons_succ]
        clear HR H7 hcm7 hfz7 z7 z8 c1 hc1 HE H5
        generalize V7.setCell ⟨mb, 1, none⟩ (.slice Av (x.all.length + 1) cv) = V8 at H8 ⊢
        have z12 := H8.out.at (b := b12) (List.mem_cons_of_mem _ List.mem_cons_self)
        have z5 := H8.out.at (b := b5) (List.mem_cons_of_mem _ (List.mem_cons_of_mem _ (List.mem_cons_of_mem _ List.mem_cons_self)))
        have h9 := (H8.out.sub (Y := [(b5, .cells (vaultV 2 sl 4 6 g nx st) 74 (0, 0)), (mb, .cells (cur.setIfInBounds 1 (.slice Av (x.all.length + 1) cv)) 78 (0, 0))]) (fun y hy => by simp only [List.mem_cons, List.not_mem_nil, or_false] at hy ⊢; rcases hy with h | h <;> simp [h])).row hw5 (vaultV 2 sl 4 6 g (nx + 1) st) (fun y hy => by simp only [List.mem_cons, List.not_mem_nil, or_false] at hy; subst hy; exact HL.out.2.2.1.symm)
        have hcm := hc_all HC.out.2.2.2 (.slice Av (x.all.length + 1) cv) (x.all ++ [d])
        rcases cq with ⟨cq, rfl⟩ | ⟨rfl, rfl⟩
        · have eq1 : (q == 0) = false := by simpa using cq
          have HN := Aside0.mk (KV.again (i := j + 1) (x := ⟨x.t, (.slice Av (x.all.length + 1) cv), x.all ++ [d], x.sure⟩) h9 (by simp) HL.out ⟨by rw [Array.size_setIfInBounds]; exact HC.out.1, HC.out.2.1, HC.out.2.2.1, hcm⟩ ⟨NV.out.1, NV.out.2.1, NV.out.2.2.1, HV.out.2.2.2⟩ ⟨by have := HS.out.1; omega, by have := HS.out.2.1; omega, NV.out.2.2.2.2.1, NV.out.2.2.2.2.2.1, NV.out.2.2.2.2.2.2, NV.out.2.2.2.1⟩)
          clear cq h9 hcm NV HV HS H8
          go_wp2_with (first | refine wpList_load_row rfl 74 _ rfl b12 rfl 74 _ (0, 0) _ z12 Tryd.underlying74 rfl i6 ?_ | refine wpList_store_row rfl 74 _ _ rfl b5 (vaultV 2 sl 4 6 g (nx + 1) st) rfl rfl 74 _ z5 i6 rfl o6 ?_ | fail)
          go_roundw
          case rel => exact ⟨j + 1, by go_num, by omega, HN⟩
          case measure => simp [intOf]; omega
        · have zm := h9.at (b := mb) (List.mem_cons_of_mem _ List.mem_cons_self)
          have c1 : (V8.setRow b5 (vaultV 2 sl 4 6 g (nx + 1) st)).cell? ⟨mb, 1, none⟩ = some (.slice Av (x.all.length + 1) cv) := (cell_of_row _ mb 1 _ _ _ zm).trans (hc_at hcm 1 _ rfl)
          have c2 : (V8.setRow b5 (vaultV 2 sl 4 6 g (nx + 1) st)).cell? ⟨mb, 2, none⟩ = some (.int .i64 (x.sure : Nat)) := (cell_of_row _ mb 2 _ _ _ zm).trans (hc_at hcm 2 _ rfl)
          have fz2 : (V8.setRow b5 (vaultV 2 sl 4 6 g (nx + 1) st)).frozen? ⟨mb, 2, none⟩ = false := frozen_of_row _ mb 2 _ _ zm
          have h10 := setc (h9.sub (Y := [(mb, .cells (cur.setIfInBounds 1 (.slice Av (x.all.length + 1) cv)) 78 (0, 0)), (b5, .cells (vaultV 2 sl 4 6 g (nx + 1) st) 74 (0, 0))]) (fun y hy => by simp only [List.mem_cons, List.not_mem_nil, or_false] at hy ⊢; exact hy.symm)) HL.out.2.2.2.2 2 (.int .i64 ((x.all.length + 1 : Nat) : Int)) ((cur.setIfInBounds 1 (.slice Av (x.all.length + 1) cv)).setIfInBounds 2 (.int .i64 ((x.all.length + 1 : Nat) : Int))) rfl (fun y hy => by simp only [List.mem_cons, List.not_mem_nil, or_false] at hy; subst hy; exact HL.out.2.2.1)
          have elen : (x.all ++ [d]).length = x.all.length + 1 := by rw [List.length_append]; rfl
          have HN := Aside0.mk (KV.again (i := j + 1) (x := ⟨x.t, (.slice Av (x.all.length + 1) cv), x.all ++ [d], x.all.length + 1⟩) h10 ⟨List.mem_cons_of_mem _ List.mem_cons_self, List.mem_cons_self⟩ HL.out ⟨by rw [Array.size_setIfInBounds, Array.size_setIfInBounds]; exact HC.out.1, HC.out.2.1, HC.out.2.2.1, hc_sure hcm (x.all.length + 1)⟩ (by rw [← elen]; exact ⟨NV.out.1, NV.out.2.1, NV.out.2.2.1, HV.out.2.2.2⟩) (by rw [← elen]; exact ⟨by have := HS.out.1; omega, by have := HS.out.2.1; omega, NV.out.2.2.2.2.1, NV.out.2.2.2.2.2.1, NV.out.2.2.2.2.2.2, NV.out.2.2.2.1⟩))
          clear h9 h10 hcm NV HV HS H8 zm
          go_wp2_with (first | refine wpList_load_row rfl 74 _ rfl b12 rfl 74 _ (0, 0) _ z12 Tryd.underlying74 rfl i6 ?_ | refine wpList_store_row rfl 74 _ _ rfl b5 (vaultV 2 sl 4 6 g (nx + 1) st) rfl rfl 74 _ z5 i6 rfl o6 ?_ | fail)
          go_roundw
          case rel => exact ⟨j + 1, by go_num, by omega, HN⟩
          case measure => simp [intOf]; omega
    by_cases k1 : k = 1
    · subst k1
      obtain ⟨S', V', q, KA0, ok1, cs⟩ := set_any (k := 900 - 10 * (j + 1)) (nx := nx) (st := st) HD.out HV.out.1 HV.out.2.1 (ok_mono HS.out.2.2.2.2.2 (by omega)) d hd110 (by have := HS.out.1; omega)
      have KA := Aside0.mk KA0
      have OK1 := Aside0.mk ok1
      have z5 := HD.out.at (b := b5) (List.mem_cons_of_mem _ List.mem_cons_self)
      have i5 := infoV 2 sl 4 6 g nx st
      have hV' : (Tryd.prog.info? 74).map (·.size) = some V'.size ∧ V'.all (·.oneCell') = true ∧ zVault.size = V'.size := by
        rcases cs with ⟨_, rfl, _⟩ | ⟨_, rfl, _⟩
        · exact ⟨infoV _ _ _ _ _ _ _, vaultV_one _ _ _ _ _ _ _, rfl⟩
        · exact ⟨infoV _ _ _ _ _ _ _, vaultV_one _ _ _ _ _ _ _, rfl⟩
      have CS := Aside0.mk cs
      have IV := Aside0.mk hV'
      clear KA0 ok1 cs hV'
      go_wp2_with (first | refine wpList_store_row rfl 81 _ _ rfl wr.heap.size #[.int .u8 1, .string d, .int .i64 n, .int .u8 b, .slice A' nk c'] rfl rfl 81 _ z11z iA rfl oA ?_ | refine wpList_load_row rfl 74 _ rfl b5 rfl 74 _ (0, 0) _ z5 Tryd.underlying74 rfl i5 ?_ | fail)
      refine KA.out.mono ?_
      rintro e V4 ⟨rfl, h4⟩
      clear KA HD f0 f1 f2 f4 z5 a0 a1 a2 a3 a4 i5
      obtain ⟨hb14, z14, z14z⟩ := box_new (V := V4) zVault V' 74
      have h5 := h4.add hb14 (Nat.le_refl _) z14
      have hlt4 : wr.heap.size < V4.heap.size := (Array.getElem?_eq_some_iff.1 (h4.at List.mem_cons_self)).1
      have z5 := h5.at (b := b5) (List.mem_cons_of_mem _ (List.mem_cons_of_mem _ List.mem_cons_self))
      have h6 := (h5.sub (Y := [(b5, .cells (vaultV 2 sl 4 6 g nx st) 74 (0, 0)), (wr.heap.size, .cells #[.int .u8 1, .string d, .int .i64 n, .int .u8 b, .slice A' nk c'] 81 (0, 0)), (mb, .cells cur 78 (0, 0))]) (fun y hy => by simp only [List.mem_cons, List.not_mem_nil, or_false] at hy ⊢; rcases hy with h | h | h <;> simp [h])).row hw5 V' (fun y hy => by
        have := HL.out.1
        simp only [List.mem_cons, List.not_mem_nil, or_false] at hy
        rcases hy with rfl | rfl
        · show wr.heap.size ≠ b5; omega
        · exact HL.out.2.2.1.symm)
      have z7 := h6.at (b := wr.heap.size) (List.mem_cons_of_mem _ List.mem_cons_self)
      have H6 := Aside0.mk h6
      clear h4 h5 h6 hb14
      have f1 : (((V4.alloc (.cells zVault 74)).setRow V4.heap.size V').setRow b5 V').cell? ⟨wr.heap.size, 1, none⟩ = some (.string d) := cell_of_row _ _ 1 _ _ _ z7
      rcases CS.out with ⟨cq, rfl, tr', M', vj', hM', lg', ht'⟩ | ⟨rfl, rfl, old', vj', lk'⟩
      · have eq1 : (q == 0) = false := by simpa using cq
        have ha := H6.out.step ((Below.refl _ _).alloc (Nat.le_refl _) (.cells #[.string d, .slice none 0 0, .int .i64 0] 78))
        obtain ⟨mb', mc', cur', V7, hr, h7, hwh, hc7⟩ := may_append (x := x) (ha.sub (Y := [(mb, .cells cur 78 (0, 0)), (b5, .cells (vaultV 2 sl 4 6 g nx true) 74 (0, 0))]) (fun y hy => by simp only [List.mem_cons, List.not_mem_nil, or_false] at hy ⊢; rcases hy with h | h <;> simp [h])) (fun y hy => by simp only [List.mem_cons, List.not_mem_nil, or_false] at hy; subst hy; exact HL.out.2.2.1) HL.out.2.2.2.2 HC.out (by have := HS.out.2.1; omega) (((V4.alloc (.cells zVault 74)).setRow V4.heap.size (vaultV 2 sl 4 6 g nx true)).setRow b5 (vaultV 2 sl 4 6 g nx true)).heap.size d (heap_alloc_new _ _)
        have HN := Aside0.mk (show KV w p b5 (j + 1) (.slice (some ⟨mb', 0, none⟩) (ts.length + 1 + 1) mc') V7 from by
          have hbb : b5 < (((V4.alloc (.cells zVault 74)).setRow V4.heap.size (vaultV 2 sl 4 6 g nx true)).setRow b5 (vaultV 2 sl 4 6 g nx true)).heap.size := (Array.getElem?_eq_some_iff.1 (H6.out.at List.mem_cons_self)).1
          have := KV.again (B := V7.heap.size) (i := j + 1) (x := x) (ts := ts ++ [d]) (st := true) (tr := tr') (M := M') (nx := nx) h7 (by simp) ⟨(Array.getElem?_eq_some_iff.1 (h7.at (b := b5) (List.mem_cons_of_mem _ List.mem_cons_self))).1, (Array.getElem?_eq_some_iff.1 (h7.at List.mem_cons_self)).1, (fun e => by
            rcases hwh with e2 | e2
            · exact HL.out.2.2.1 (e.trans e2)
            · simp at e2; simp at hbb; omega), hw5, (by
            have h1 := HL.out.2.2.2.2
            have h2 := H6.out.bel.size
            simp at h2 hwh
            omega)⟩ hc7 ⟨vj', lg', (fun e => by cases e), fun y hy => (ht' y hy).elim (fun e => List.mem_append_left _ (HV.out.2.2.2 y e)) (fun e => by rw [e]; simp)⟩ ⟨by have := HS.out.1; omega, by rw [List.length_append]; have := HS.out.2.1; simp; omega, HS.out.2.2.1, HS.out.2.2.2.1, HS.out.2.2.2.2.1, OK1.out⟩
          rw [List.length_append] at this
          exact this)
        have esz : (((V4.alloc (.cells zVault 74)).setRow V4.heap.size (vaultV 2 sl 4 6 g nx true)).setRow b5 (vaultV 2 sl 4 6 g nx true)).heap.size = V4.heap.size + 1 := by simp [World.setRow]
        rw [esz] at hr
        have HR := Aside0.mk hr
        clear esz cq ha h7 hwh hc7 hr vj' lg' ht' hM' CS HV HS H6 OK1 z7
        go_wp2_with (first | refine wpList_store_row rfl 74 _ _ rfl V4.heap.size (vaultV 2 sl 4 6 g nx true) rfl rfl 74 _ z14z IV.out.1 IV.out.2.2 IV.out.2.1 ?_ | refine wpList_load_row rfl 74 _ rfl V4.heap.size rfl 74 _ (0, 0) _ z14 Tryd.underlying74 rfl IV.out.1 ?_ | refine wpList_store_row rfl 74 _ _ rfl b5 (vaultV 2 sl 4 6 g nx true) rfl rfl 74 _ z5 IV.out.1 IV.out.2.2 IV.out.2.1 ?_ | refine wpList_append_run rfl _ _ 79 rfl _ _ rfl rfl HR.out ?_ | fail)
        go_roundw
        case rel => exact ⟨j + 1, by go_num, by omega, HN⟩
        case measure => simp [intOf]; omega
      · have hd0 := DY.none (H6.out.sub (Y := [(b5, .cells (vaultV 2 (1 - sl) 4 6 (M + 1) 0 false) 74 (0, 0))]) (fun y hy => by simp only [List.mem_cons, List.not_mem_nil, or_false] at hy ⊢; simp [hy]))
        have HN := Aside0.mk (KV.fresh (i := j + 1) (x := ⟨d, .slice none 0 0, [], 0⟩) hd0 #[.string d, .slice none 0 0, .int .i64 0] rfl hw5 vj' (Logs.of_lk lk' (by have := HS.out.1; omega)) (fun _ => ⟨lk', rfl⟩) (fun y hy => absurd hy (by simp)) (by have := HS.out.1; omega) (by simp) (by simp) (by decide) OK1.out)
        have esz : (((V4.alloc (.cells zVault 74)).setRow V4.heap.size (vaultV 2 (1 - sl) 4 6 (M + 1) 0 false)).setRow b5 (vaultV 2 (1 - sl) 4 6 (M + 1) 0 false)).heap.size = V4.heap.size + 1 := by simp [World.setRow]
        rw [esz] at HN
        clear esz hd0 vj' lk' CS HV HS H6 OK1 z7
        go_wp2_with (first | refine wpList_store_row rfl 74 _ _ rfl V4.heap.size (vaultV 2 (1 - sl) 4 6 (M + 1) 0 false) rfl rfl 74 _ z14z IV.out.1 IV.out.2.2 IV.out.2.1 ?_ | refine wpList_load_row rfl 74 _ rfl V4.heap.size rfl 74 _ (0, 0) _ z14 Tryd.underlying74 rfl IV.out.1 ?_ | refine wpList_store_row rfl 74 _ _ rfl b5 (vaultV 2 (1 - sl) 4 6 (M + 1) 0 false) rfl rfl 74 _ z5 IV.out.1 IV.out.2.2 IV.out.2.1 ?_ | fail)
        go_roundw
        case rel => exact ⟨j + 1, by go_num, by omega, HN⟩
        case measure => simp [intOf]; omega
    by_cases k2 : k = 2
    · subst k2
      have KC := DY.crash HD.out HV.out.1.ok (by have := HS.out.2.2.2.2.2.waits; omega) A' c' ks KK.out.1 (by rw [KK.out.2]; omega)
      rw [KK.out.2] at KC
      have HKC := Aside0.mk KC
      obtain ⟨k', g', t', recs, old', M', eo, hM', vj', lg', hr6, hcs⟩ := HV.out.1.opened HV.out.2.1 (fun j => ks.getD j false)
      have ok1 := ok_crash HS.out.2.2.2.2.2 (fun j => ks.getD j false)
      obtain ⟨S1, hS1⟩ : ∃ S1, S.crash (fun j => ks.getD j false) = S1 := ⟨_, rfl⟩
      rw [hS1] at HKC eo vj' lg' ok1
      obtain ⟨m, hm⟩ : ∃ m, recs.length = m := ⟨_, rfl⟩
      rw [hm] at eo hr6 hcs lg'
      have HM := Aside0.mk hm
      have EO := Aside0.mk eo
      have VJ1 := Aside0.mk (And.intro vj' (And.intro lg' (And.intro ok1 (And.intro hM' (And.intro hr6 hcs)))))
      clear KC eo vj' lg' ok1 hS1 hm hM' hr6 hcs
      go_wp2_with (first | refine wpList_store_row rfl 81 _ _ rfl wr.heap.size #[.int .u8 2, .string d, .int .i64 n, .int .u8 b, .slice A' nk c'] rfl rfl 81 _ z11z iA rfl oA ?_ | fail)
      refine HKC.out.mono ?_
      rintro e V4 ⟨rfl, h4⟩
      have H4 := Aside0.mk h4
      clear HKC HD f0 f1 f2 f4 a0 a1 a2 a3 a4 h4
      have KO := DY.vopen H4.out 2 (by decide) (by rw [VJ1.out.1.len]; decide) (by rw [VJ1.out.1.len]; decide) VJ1.out.1.full
      rw [EO.out] at KO
      dsimp only at KO
      rw [HM.out] at KO
      have HKO := Aside0.mk KO
      clear KO EO
      go_wp2_with fail
      refine HKO.out.mono ?_
      rintro e V5 ⟨u, rfl, hrow, hb⟩
      rw [← HM.out] at hrow
      have hrx := (DY.reads H4.out HS.out.2.2.1).below hb
      have h5 := H4.out.step hb
      have hsw := DY.swap H4.out hb hrow
      obtain ⟨Au, cu, rfl, hrs⟩ := row_reads hrow
      rw [HM.out] at hsw ⊢
      clear hrow hb HKO
      obtain ⟨hb16, z16, z16z⟩ := box_new (V := V5) zVault (vaultV 2 k' 4 6 g' m true) 74
      have H6 := Aside0.mk (hsw.add hb16 (Nat.le_refl _) z16)
      have hzm := Own.keep (h5.at (b := mb) (List.mem_cons_of_mem _ (List.mem_cons_of_mem _ List.mem_cons_self))) hb16
      have KF := fits_calls mb mc (x :: ts.map one) cur t' Au cu recs _ hzm (hc_every HC.out.2.2.2) (fun y hy => by
        rcases List.mem_cons.1 hy with rfl | hy
        · exact hrx.below hb16
        · obtain ⟨q, _, rfl⟩ := List.mem_map.1 hy
          exact .inl ⟨rfl, rfl⟩) (hrs.below hb16) (by rw [HM.out]; have := VJ1.out.2.2.2.2.1; omega) (by rw [List.length_cons, List.length_map]; have := HS.out.2.1; omega) (by rw [List.length_cons, List.length_map]; exact HC.out.2.1) (by
        rcases VJ1.out.2.2.2.2.2 with ⟨e1, e2, e3, e4⟩ | ⟨e1, y, hy, e2⟩
        · exact ⟨x, List.mem_cons_self, e1.symm, by rw [HM.out]; exact e2, by rw [HM.out]; exact e3, by rw [HM.out]; exact e4⟩
        · exact ⟨one y.2, List.mem_cons_of_mem _ (List.mem_map.2 ⟨y.2, HV.out.2.2.2 y hy, rfl⟩), e2.symm, Nat.zero_le _, by rw [e1]; exact Nat.le_refl _, by rw [e1]; rfl⟩)
      rw [List.length_cons, List.length_map, HM.out] at KF
      have HKF := Aside0.mk KF
      have i6 := infoV 2 k' 4 6 g' m true
      have o6 := vaultV_one 2 k' 4 6 g' m true
      clear KF hzm hrx h5 hsw hrs hb16 z16
      go_wp2_with (first | refine wpList_store_row rfl 74 _ _ rfl V5.heap.size (vaultV 2 k' 4 6 g' m true) rfl rfl 74 _ z16z i6 rfl o6 ?_ | fail)
      refine HKF.out.mono ?_
      rintro e V7 ⟨rfl, hb7⟩
      have H7 := Aside0.mk (H6.out.step hb7)
      clear HKF H6 hb7 z16z
      have z16 := H7.out.at List.mem_cons_self
      have z5 := H7.out.at (b := b5) (List.mem_cons_of_mem _ (List.mem_cons_of_mem _ List.mem_cons_self))
      have h8 := (H7.out.sub (Y := [(b5, .cells (vaultV 2 sl 4 6 g nx st) 74 (0, 0))]) (fun y hy => by simp only [List.mem_cons, List.not_mem_nil, or_false] at hy ⊢; simp [hy])).row hw5 (vaultV 2 k' 4 6 g' m true) (fun y hy => absurd hy (by simp))
      have HN := Aside0.mk (KV.fresh (i := j + 1) (x := ⟨t', .slice Au m cu, recs, m⟩) (tr := []) h8 #[.string t', .slice Au m cu, .int .i64 (m : Nat)] rfl hw5 VJ1.out.1 VJ1.out.2.1 (fun e => by cases e) (fun y hy => absurd hy (by simp)) (by have := VJ1.out.2.2.2.1; have := HS.out.1; omega) (by rw [HM.out]; exact VJ1.out.2.2.2.2.1) (by rw [HM.out]; exact Nat.le_refl _) VJ1.out.2.2.2.2.1 (ok_mono VJ1.out.2.2.1 (by omega)))
      have esz : (V7.setRow b5 (vaultV 2 k' 4 6 g' m true)).heap.size = V7.heap.size := by simp [World.setRow]
      rw [esz] at HN
      clear esz h8 H4 H7 HV HS VJ1
      go_wp2_with (first | refine wpList_load_row rfl 74 _ rfl V5.heap.size rfl 74 _ (0, 0) _ z16 Tryd.underlying74 rfl i6 ?_ | refine wpList_store_row rfl 74 _ _ rfl b5 (vaultV 2 k' 4 6 g' m true) rfl rfl 74 _ z5 i6 rfl o6 ?_ | fail)
      go_roundw
      case rel => exact ⟨j + 1, by go_num, by omega, HN⟩
      case measure => simp [intOf]; omega
    · have e0 : (k == 0) = false := by simpa using k0
      have e1 : (k == 1) = false := by simpa using k1
      have e2 : (k == 2) = false := by simpa using k2
      have e3 : (k == 3) = false := by simpa using k3
      have HN := Aside0.mk (KV.again HD.out (by simp) HL.out HC.out HV.out (hs_mono HS.out))
      clear k0 k1 k2 k3
      go_wp2_with (first | refine wpList_store_row rfl 81 _ _ rfl wr.heap.size #[.int .u8 k, .string d, .int .i64 n, .int .u8 b, .slice A' nk c'] rfl rfl 81 _ z11z iA rfl oA ?_ | fail)
      go_roundw
      case rel => exact ⟨j + 1, by go_num, by omega, HN⟩
      case measure => simp [intOf]; omega
end Go.Proofs.YtknbhgodhmcemaaDoor.Va
namespace Go.Proofs.YtknbhgodhmcemaaDoor.Lg
set_option linter.unusedVariables false
set_option maxRecDepth 100000
open Go.RowKit Go.Proofs.YtknbhgodhmcemaaDoor.Own Go.Proofs.YtknbhgodhmcemaaDoor.Cel
theorem plain_addr {W : World} {a : Addr} {v : Value} (h : W.cell? (a.add 0) = some v) : ∃ b o, a = ⟨b, o, none⟩ := by
  have h1 := World.cell?_spot h
  obtain ⟨b, o, spot⟩ := a
  have : spot = none := by simpa [Addr.add] using h1
  subst this
  exact ⟨b, o, rfl⟩
end Go.Proofs.YtknbhgodhmcemaaDoor.Lg
namespace Go.Proofs.YtknbhgodhmcemaaDoor.Va
set_option linter.unusedVariables false
set_option maxRecDepth 100000
open Go.RowKit Go.Proofs.YtknbhgodhmcemaaDoor.Own Go.Proofs.YtknbhgodhmcemaaDoor.Cel
open Go.Proofs.YtknbhgodhmcemaaDoor.Lg (ArgK plain_addr)
theorem list_of {α : Type} {P : Nat → α → Prop} : ∀ (n : Nat), (∀ i, i < n → ∃ x, P i x) → ∃ l : List α, l.length = n ∧ ∀ i (h : i < l.length), P i (l[i]'h)
  | 0, _ => ⟨[], rfl, fun i h => absurd h (by simp)⟩
  | n + 1, H => by
    obtain ⟨l, hl, hP⟩ := list_of n (fun i hi => H i (by omega))
    obtain ⟨x, hx⟩ := H n (by omega)
    refine ⟨l ++ [x], by rw [List.length_append, hl]; rfl, fun i h => ?_⟩
    by_cases e : i < l.length
    · rw [List.getElem_append_left e]; exact hP i e
    · have : i = n := by rw [List.length_append] at h; simp at h; omega
      subst this
      rw [List.getElem_append_right (by omega)]
      simp only [hl, Nat.sub_self, List.getElem_cons_zero]
      exact hx
theorem list5 : ∀ (cs : List Value), cs.length = 5 → ∃ a b c d e, cs = [a, b, c, d, e]
  | [a, b, c, d, e], _ => ⟨a, b, c, d, e, rfl⟩
theorem ks_of {H : Type} {enc : TypeId × Value → H} {W : World} {base : Nat} {spare : Nat → Bool} {held : Bool} {fuel : Nat} {x : Value} {y : DataW H × List MemPlace}
    (hf : DataW.trod enc Tryd.prog W base spare held fuel 23 [x] = some y) : ∃ A c ks, x = .slice A ks.length c ∧ ArgK A ks W ∧ ks.length ≤ 9223372036854775807 := by
  have hcz : Tryd.prog.cellsOf 4 = 1 := by kernel_rfl
  rcases DataW.trod_slice Tryd.underlying23 hf with ⟨hc, _⟩ | ⟨a', len', cap', elems, rest, n, _, hc, hx, hb, hl, hm, hlen, hel, hsp, hns⟩
  · simp at hc
    subst hc
    exact ⟨none, 0, [], rfl, fun j hj => absurd hj (by simp), by simp⟩
  · simp at hc
    subst hc
    have each : ∀ i, i < len' → ∃ z, W.cell? (a'.add i) = some (.bool z) := fun i hi => by
      have h2 := hel i hi
      rw [List.getElem?_eq_getElem (by omega), hcz, Nat.mul_one, Option.bind_eq_some_iff] at h2
      obtain ⟨cs', hcs, hy⟩ := h2
      obtain ⟨z, rfl, _⟩ := DataW.trod_bool Tryd.underlying4 hy
      exact ⟨z, Go.ChangeShapes.cell_of_cells?_one hcs⟩
    refine ⟨some a', cap', (List.range len').map (fun i => match W.cell? (a'.add i) with | some (.bool z) => z | _ => false), by rw [List.length_map, List.length_range], fun j hj => ?_, ?_⟩
    · have hj2 : j < len' := by simpa using hj
      obtain ⟨z0, hz0⟩ := each 0 (by omega)
      obtain ⟨b, o, rfl⟩ := plain_addr hz0
      obtain ⟨z, hz⟩ := each j hj2
      refine ⟨b, o, rfl, ?_⟩
      have hz' := hz
      rw [Seg.addr_add] at hz'
      rw [hz', List.getElem_map, List.getElem_range, hz]
    · rw [List.length_map, List.length_range]
      unfold maxLen at hm
      omega
theorem open_acts {H : Type} {enc : TypeId × Value → H} {W : World} {base : Nat} {spare : Nat → Bool} {held : Bool} {r : Reach} {b0 : Nat} {v : Value} {d : DataW H} {ps : List MemPlace}
    (hv : Value.okWide Tryd.prog W r b0 71 v) (h : DataW.Trod enc Tryd.prog W base spare held 71 v d ps) :
    ∃ A c l, v = .slice A l.length c ∧ Acts A l W ∧ l.length ≤ 9223372036854775807 := by
  obtain ⟨A, len, cap, rfl⟩ := Go.WideShapes.okWide_slice Tryd.underlying71 hv
  obtain ⟨fuel, hf⟩ := h
  have hz : Tryd.prog.cellsOf 81 = 5 := by kernel_rfl
  rcases DataW.trod_slice Tryd.underlying71 hf with ⟨hc, _⟩ | ⟨a, len', cap', es, rs, m, rfl, hc, _, hb, hl, hm, he, hr, _, _⟩
  · simp [Value.cells] at hc
    obtain ⟨rfl, rfl, rfl⟩ := hc
    exact ⟨none, 0, [], rfl, fun j hj => absurd hj (by simp), by simp⟩
  · simp [Value.cells] at hc
    obtain ⟨rfl, rfl, rfl⟩ := hc
    have key : ∀ i, i < len → ∃ x : A16, ∃ b o, some a = some ⟨b, o, none⟩ ∧ W.cell? ⟨b, o + i * 5, none⟩ = some (.int .u8 x.k) ∧ W.cell? ⟨b, o + i * 5 + 1, none⟩ = some (.string x.t) ∧ W.cell? ⟨b, o + i * 5 + 2, none⟩ = some (.int .i64 x.n) ∧
        W.cell? ⟨b, o + i * 5 + 3, none⟩ = some (.int .u8 x.b) ∧ W.cell? ⟨b, o + i * 5 + 4, none⟩ = some (.slice x.A x.ks.length x.c) ∧ ArgK x.A x.ks W ∧ x.ks.length ≤ 9223372036854775807 ∧ x.n ≤ 9223372036854775807 := by
      intro i hi
      have h1 := hr i hi
      rw [hz] at h1
      have h2 : es[i]? = some (es[i]'(by omega)) := List.getElem?_eq_getElem _
      rw [h2, Option.bind_eq_some_iff] at h1
      obtain ⟨cs, hcs, ht2⟩ := h1
      obtain ⟨_, hlen, hat⟩ := World.cells?_some hcs
      obtain ⟨zs, n, _, _, _, hzl, hy⟩ := DataW.trod_struct Tryd.underlying81 ht2
      have hl5 : zs.length = 5 := hzl
      obtain ⟨b0, b1, b2, b3, b4, rfl⟩ := list5 cs hlen
      have f0 : DataW.trod enc Tryd.prog W base spare held n 5 (List.take (Tryd.prog.cellsOf 5) (List.drop 0 [b0, b1, b2, b3, b4])) = zs[0]? := hy 0 _ rfl
      have f1 : DataW.trod enc Tryd.prog W base spare held n 9 (List.take (Tryd.prog.cellsOf 9) (List.drop 1 [b0, b1, b2, b3, b4])) = zs[1]? := hy 1 _ rfl
      have f2 : DataW.trod enc Tryd.prog W base spare held n 3 (List.take (Tryd.prog.cellsOf 3) (List.drop 2 [b0, b1, b2, b3, b4])) = zs[2]? := hy 2 _ rfl
      have f3 : DataW.trod enc Tryd.prog W base spare held n 5 (List.take (Tryd.prog.cellsOf 5) (List.drop 3 [b0, b1, b2, b3, b4])) = zs[3]? := hy 3 _ rfl
      have f4 : DataW.trod enc Tryd.prog W base spare held n 23 (List.take (Tryd.prog.cellsOf 23) (List.drop 4 [b0, b1, b2, b3, b4])) = zs[4]? := hy 4 _ rfl
      rw [show Tryd.prog.cellsOf 5 = 1 by kernel_rfl, List.getElem?_eq_getElem (show 0 < zs.length by omega)] at f0
      rw [show Tryd.prog.cellsOf 9 = 1 by kernel_rfl, List.getElem?_eq_getElem (show 1 < zs.length by omega)] at f1
      rw [show Tryd.prog.cellsOf 3 = 1 by kernel_rfl, List.getElem?_eq_getElem (show 2 < zs.length by omega)] at f2
      rw [show Tryd.prog.cellsOf 5 = 1 by kernel_rfl, List.getElem?_eq_getElem (show 3 < zs.length by omega)] at f3
      rw [show Tryd.prog.cellsOf 23 = 1 by kernel_rfl, List.getElem?_eq_getElem (show 4 < zs.length by omega)] at f4
      obtain ⟨x0, e0, _, _⟩ := DataW.trod_int Tryd.underlying5 f0
      obtain ⟨x1, e1, _⟩ := DataW.trod_string Tryd.underlying9 f1
      obtain ⟨x2, e2, _, w2⟩ := DataW.trod_int Tryd.underlying3 f2
      obtain ⟨x3, e3, _, _⟩ := DataW.trod_int Tryd.underlying5 f3
      obtain ⟨Ak, ck, ks, e4, hk, hkl⟩ := ks_of f4
      simp at e0 e1 e2 e3
      subst e0 e1 e2 e3 e4
      have q0 := hat 0 (by omega)
      have q1 := hat 1 (by omega)
      have q2 := hat 2 (by omega)
      have q3 := hat 3 (by omega)
      have q4 := hat 4 (by omega)
      have hpl : ∃ b o, a = ⟨b, o, none⟩ := by
        have h0 := hr 0 (by omega)
        rw [hz, List.getElem?_eq_getElem (show 0 < es.length by omega), Option.bind_eq_some_iff] at h0
        obtain ⟨cs, hcs, _⟩ := h0
        obtain ⟨_, hl0, hat0⟩ := World.cells?_some hcs
        obtain ⟨y0, y1, y2, y3, y4, rfl⟩ := list5 cs hl0
        have h1 := World.cell?_spot (hat0 0 (by omega))
        obtain ⟨b, o, spot⟩ := a
        cases spot with
        | none => exact ⟨b, o, rfl⟩
        | some s => simp [Addr.add] at h1
      clear hy ht2 hat f0 f1 f2 f3 f4 hlen hcs hr hf hv
      obtain ⟨b, o, rfl⟩ := hpl
      rw [Seg.addr_add, Seg.addr_add] at q0 q1 q2 q3 q4
      simp [Lit.wf, IntKind.min, IntKind.max, IntKind.signed, IntKind.bits] at w2
      exact ⟨⟨x0, x1, x2, x3, Ak, ck, ks⟩, b, o, rfl, q0, q1, q2, q3, q4, hk, hkl, by dsimp only; omega⟩
    obtain ⟨l, rfl, hp⟩ := list_of len key
    exact ⟨some a, cap, l, rfl, fun j hj => hp j hj, by unfold maxLen at hm; omega⟩
end Go.Proofs.YtknbhgodhmcemaaDoor.Va
namespace Go.Proofs.YtknbhgodhmcemaaDoor
open Go.RowKit
mutual
def flat : DataW Unit → List Value
  | .lit (.int k n) => [.int k n]
  | .agg parts => flats parts
  | _ => []
def flats : List (DataW Unit) → List Value
  | [] => []
  | d :: r => flat d ++ flats r
end
def layObj (d : DataW Unit) : Obj → Obj
  | .cells _ t fr => .cells (flat d).toArray t fr
  | o => o
noncomputable def laidWorld (os : Os) : World :=
  let w0 := World.holding Tryd.prog os ⟨#[], #[], []⟩
  { w0 with heap := (w0.heap.modify 1 (layObj Rows.laid_unicode_utf8_first)).modify 2 (layObj Rows.laid_unicode_utf8_acceptRanges) }
end Go.Proofs.YtknbhgodhmcemaaDoor
