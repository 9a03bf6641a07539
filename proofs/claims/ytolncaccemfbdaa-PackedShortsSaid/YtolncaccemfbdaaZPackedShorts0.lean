/- Texts of this seat, one behind the other: what concordance's PackedShorts reaches. -/
import Derived.Test.YtolncaccemfbdaaProg
import Derived.Below
import Derived.Deep.Draws
import Derived.Deep.AppendLies
import Derived.Maps.AppendAt
import Derived.OwnWalk
import Derived.Laws.BytesArg
import Derived.Laws.MakeOwn
import Derived.Laws.OwnMore
import Derived.Deep.OwnRows
import Derived.Tactics
import Derived.Lib.ConvBytes
import Derived.Laws.Slices
import Derived.WalkKit
import Derived.KernelRfl
import Derived.RowKit3
import Derived.Deep.LoopGhost
import Derived.Deep.QuietTactic
import Derived.BigQuiet
import Derived.WideLaws
import Derived.Deep.DeepCutAuto
import Derived.Deep.CutBlock
import Derived.Deep.RegionHeld3
import Derived.Laws.Rows
import Derived.Lib.AppendStr
import Derived.ArgAppend
import Derived.Laws.IdiomCopy
import Derived.OrdersHeld
import Derived.Laws.BitsLemmas
import Derived.RowKit
import Derived.Test.YtolncaccemfbdaaWWords
import Derived.Test.YtolncaccemfbdaaWLast
import Derived.Test.YtolncaccemfbdaaWTab
import Derived.Test.YtolncaccemfbdaaWFour
import Derived.Test.YtolncaccemfbdaaWQPut
import Derived.Test.YtolncaccemfbdaaWApart
import Derived.Test.YtolncaccemfbdaaWArr
import Derived.Test.YtolncaccemfbdaaWZeros
import Derived.Test.YtolncaccemfbdaaWFoot
import Derived.Test.YtolncaccemfbdaaWKept
import Derived.Test.YtolncaccemfbdaaWShare
import Derived.Test.YtolncaccemfbdaaWN
import Derived.Test.YtolncaccemfbdaaWFootNe
import Derived.Test.YtolncaccemfbdaaWAt
import Derived.Test.YtolncaccemfbdaaWEqStruct
import Derived.Test.YtolncaccemfbdaaWRepsOne
import Derived.Test.YtolncaccemfbdaaWInv
import Derived.Test.YtolncaccemfbdaaWInvWords
import Derived.Test.YtolncaccemfbdaaWGuard
import Derived.Test.YtolncaccemfbdaaWNEv
import Derived.Test.YtolncaccemfbdaaWMore
import Derived.Laws.BitsAllLaws
import Derived.WalkSpells
import Derived.Lib.Small
import Derived.Lib.Walk
import Derived.Lib.BitFns
import Derived.Lib.AppendZeros
/- Printed by a program of this session (drv.py) from the translation of this seat: functions, their contracts, rows. -/
namespace Go.Proofs.Ytolncaccemfbdaa.PPk
open Go.RowKit Go.Proofs.YtolncaccemfbdaaW.PrintWords Go.Proofs.YtolncaccemfbdaaW.PrintLast Go.Proofs.YtolncaccemfbdaaW.PrintMore
attribute [local go_sem] max2_int min2_int max_two min_two max_three min_three max_four min_four   -- for this text's walks alone
set_option linter.unusedVariables false
set_option linter.unusedSimpArgs false



def errW : Option Int → Value
  | none => .nilIface
  | some c => .iface 0 (.int .i64 c)
theorem errW_none : errW none = .nilIface := rfl
theorem errW_some (c : Int) : errW (some c) = .iface 0 (.int .i64 c) := rfl

theorem info5 : (Try.prog.info? 5).map (fun i => (i.zero, i.size, i.bytes)) = some (some (.int .u8 0), 1, 1) := by kernel_rfl
theorem info30 : (Try.prog.info? 30).map (fun i => (i.zero, i.size, i.bytes)) = some (some (.int .u64 0), 1, 8) := by kernel_rfl
-- the values' own types
def rd_L2 (xs : List (List Int)) (i : Int) : (List Int) := xs.getD i.toNat ([] : List Int)
theorem at_L2 {w : World} {A : Option Addr} {n : Nat} {xs : List (List Int)} (h : Kd.C (Kd.slice 5 (Kd.int .u8)) w A n xs) (i : Int) (h0 : 0 ≤ i) (h1 : i < n) : ∃ ad A0 c0, A = some ad ∧ w.cell? (ad.add i.toNat) = some (.slice A0 (rd_L2 xs i).length c0) ∧ (rd_L2 xs i).length ≤ c0 ∧ (Kd.int .u8).C w A0 (rd_L2 xs i).length (rd_L2 xs i) := by
  obtain ⟨ad, c, e, _, hK, hc0⟩ := Kd.C_get h ([] : List Int) i h0 h1
  have hc : ∀ j u, c[j]? = some u → w.cell? (ad.add (i.toNat * 1 + j)) = some u := hc0
  obtain ⟨A0, c0, rfl, l0, g0⟩ := hK
  exact ⟨ad, A0, c0, e, by have hq := hc 0 _ rfl; rwa [Nat.mul_one, Nat.add_zero] at hq, l0, g0⟩

end Go.Proofs.Ytolncaccemfbdaa.PPk

/- Printed by a program of this session (drv.py) from the translation of this seat: functions, their contracts, rows. -/
namespace Go.Proofs.Ytolncaccemfbdaa.PPk
open Go.RowKit Go.Proofs.YtolncaccemfbdaaW.PrintWords Go.Proofs.YtolncaccemfbdaaW.PrintLast Go.Proofs.YtolncaccemfbdaaW.PrintMore
attribute [local go_sem] max2_int min2_int max_two min_two max_three min_three max_four min_four   -- for this text's walks alone
set_option linter.unusedVariables false
set_option linter.unusedSimpArgs false

/-! ### num_Take: function 66 -/
mutual
def num_Take.l0 : Nat → List Int → Int → Int → Option (Int × Int × Int)
  | 0, _, _, _ => none
  | k + 1, x0, x2, x7 => if x7 < 10 then (if x7 ≥ (x0.length : Int) then (some (0, 0, 4)) else (if 0 ≤ x7 then (if x7 < (x0.length : Int) then (if x7 = 9 then (num_Take.j1 k x0 x2 x7 (rd x0 x7) x7 (decide ((rd x0 x7) > 1))) else (num_Take.j1 k x0 x2 x7 (rd x0 x7) x7 false)) else (none)) else (none))) else (some (0, 0, 3))
def num_Take.j1 : Nat → List Int → Int → Int → Int → Int → Bool → Option (Int × Int × Int)
  | 0, _, _, _, _, _, _ => none
  | k + 1, x0, x2, x5, x6, x7, x23 => if x23 = true then (some (0, 0, 3)) else (if 0 ≤ (wrap64 (7 * x5)) then (if x6 < 128 then (if x6 = 0 then (if x5 > 0 then (some (0, 0, 3)) else (some (Go.bits .or .u64 x2 (shl .u64 (IntKind.u64.wrap (Go.bits .and .u8 x6 127)) (wrap64 (7 * x5))), wrap64 (x5 + 1), 0))) else (some (Go.bits .or .u64 x2 (shl .u64 (IntKind.u64.wrap (Go.bits .and .u8 x6 127)) (wrap64 (7 * x5))), wrap64 (x5 + 1), 0))) else (num_Take.l0 k x0 (Go.bits .or .u64 x2 (shl .u64 (IntKind.u64.wrap (Go.bits .and .u8 x6 127)) (wrap64 (7 * x5)))) (wrap64 (x7 + 1)))) else (none))
end
def num_Take.f (k : Nat) (l0 : List Int) : Option (Int × Int × Int) := num_Take.l0 k l0 0 0
theorem num_Take.mono_l : ∀ k, (∀ y0 y1 y2, LeO (num_Take.l0 k y0 y1 y2) (num_Take.l0 (k + 1) y0 y1 y2)) ∧ (∀ y0 y1 y2 y3 y4 y5, LeO (num_Take.j1 k y0 y1 y2 y3 y4 y5) (num_Take.j1 (k + 1) y0 y1 y2 y3 y4 y5))
  | 0 => ⟨fun _ _ _ r h => by simp [num_Take.l0] at h, fun _ _ _ _ _ _ r h => by simp [num_Take.j1] at h⟩
  | k + 1 => by
    obtain ⟨ih0, ih1⟩ := num_Take.mono_l k
    refine ⟨?_, ?_⟩
    · intro y0 y1 y2
      unfold num_Take.l0
      repeat' first
      | (with_reducible exact ih0 _ _ _)
      | (with_reducible exact ih1 _ _ _ _ _ _)
      | (with_reducible exact LeO.refl _)
      | (with_reducible exact LeO.none _)
      | (with_reducible refine LeO.ite ?_ ?_)
      | (with_reducible refine LeO.bind ?_ (fun _ => ?_))
      | exact ih0 _ _ _
      | exact ih1 _ _ _ _ _ _
      | exact LeO.none _
      | refine LeO.ite ?_ ?_
      | refine LeO.bind ?_ (fun _ => ?_)
    · intro y0 y1 y2 y3 y4 y5
      unfold num_Take.j1
      repeat' first
      | (with_reducible exact ih0 _ _ _)
      | (with_reducible exact ih1 _ _ _ _ _ _)
      | (with_reducible exact LeO.refl _)
      | (with_reducible exact LeO.none _)
      | (with_reducible refine LeO.ite ?_ ?_)
      | (with_reducible refine LeO.bind ?_ (fun _ => ?_))
      | exact ih0 _ _ _
      | exact ih1 _ _ _ _ _ _
      | exact LeO.none _
      | refine LeO.ite ?_ ?_
      | refine LeO.bind ?_ (fun _ => ?_)
theorem num_Take.mono : ∀ a0 k, LeO (num_Take.f k a0) (num_Take.f (k + 1) a0) := by
  intro a0 k
  obtain ⟨ih0, ih1⟩ := num_Take.mono_l k
  unfold num_Take.f
  repeat' first
      | (with_reducible exact ih0 _ _ _)
      | (with_reducible exact ih1 _ _ _ _ _ _)
      | (with_reducible exact LeO.refl _)
      | (with_reducible exact LeO.none _)
      | (with_reducible refine LeO.ite ?_ ?_)
      | (with_reducible refine LeO.bind ?_ (fun _ => ?_))
      | exact ih0 _ _ _
      | exact ih1 _ _ _ _ _ _
      | exact LeO.none _
      | refine LeO.ite ?_ ?_
      | refine LeO.bind ?_ (fun _ => ?_)
set_option maxHeartbeats 8000000 in
set_option maxRecDepth 100000 in
theorem num_Take.calls (k : Nat) (A0 : Option Addr) (c0 : Nat) (l0 : List Int) (r1 : Int) (r2 : Int) (r3 : Int) (w : World) (hr0 : Kd.C (Kd.int .u8) w A0 l0.length l0) (hc0 : l0.length ≤ c0) (h : num_Take.f k l0 = some (r1, r2, r3)) :
    Calls Try.prog 66 #[.slice A0 l0.length c0] w fun e w' => e = .returned (.tuple #[.int .u64 r1, .int .i64 r2, .int .i64 r3]) ∧ Drawn0 w w' := by
  have HR0 := Aside0.mk hr0
  have HC0 := Aside0.mk hc0
  clear hr0 hc0
  have H : (num_Take.l0 k l0 0 0) = some (r1, r2, r3) := h
  clear h
  have H' := Aside0.mk H
  clear H
  go_enter Try.func66, Try.ntmps66
  go_wp2
  go_loopg [2, 7] k (fun kq v2 v7 w' => ∃ (x2_1 : Int) (x7_1 : Int), v2 = .int .u64 x2_1 ∧ v7 = .int .i64 x7_1 ∧ Aside0 (num_Take.l0 kq l0 x2_1 x7_1 = some (r1, r2, r3)) ∧ Aside0 (kq ≤ k) ∧ Drawn0 w w')
  case atStart => exact ⟨(0), (0), (by first | rfl | (simp; done) | (simp [*]; done)), (by first | rfl | (simp; done) | (simp [*]; done)), H', ⟨Nat.le_refl _⟩, by repeat (first | exact Drawn0.refl _ | apply Drawn0.step)⟩
  case round =>
    clear H'
    obtain ⟨x2_1, x7_1, rfl, rfl, HA, HK1, ⟨m1, rfl⟩⟩ := hrel
    cases gk with
    | zero => exact absurd HA.out (by simp [num_Take.l0])
    | succ k1 =>
      have H := HA.out
      clear HA
      simp only [num_Take.l0] at H
      by_cases c2 : x7_1 < 10
      · rw [if_pos c2] at H
        have c2b0 : decide (x7_1 < 10) = true := decide_eq_true c2
        clear c2
        by_cases c3 : x7_1 ≥ (l0.length : Int)
        · rw [if_pos c3] at H
          have c3b0 : decide ((l0.length : Int) ≤ x7_1) = true := decide_eq_true c3
          clear c3
          simp only [Option.some.injEq, Prod.mk.injEq] at H
          obtain ⟨rfl, rfl, rfl⟩ := H
          go_wp2
          go_ret3
          exact ⟨by first | rfl | (simp; done) | (simp [*]; done), by repeat (first | exact Drawn0.refl _ | apply Drawn0.step)⟩
        · rw [if_neg c3] at H
          have c3b0 : decide ((l0.length : Int) ≤ x7_1) = false := decide_eq_false c3
          clear c3
          by_cases c4 : 0 ≤ x7_1
          · rw [if_pos c4] at H
            have c4b0 : decide (0 ≤ x7_1) = true := decide_eq_true c4
            clear c4
            by_cases c5 : x7_1 < (l0.length : Int)
            · rw [if_pos c5] at H
              have c5b0 : decide (x7_1 < (l0.length : Int)) = true := decide_eq_true c5
              clear c5
              have HC6 := Aside0.mk H
              clear H
              have p106 : 0 ≤ (x7_1 : Int) := of_decide_eq_true (by first | (with_reducible assumption) | assumption)
              have q106 : x7_1 < (l0.length : Int) := of_decide_eq_true (by first | (with_reducible assumption) | assumption)
              obtain ⟨ad106, e106, hx106_0⟩ := Kd.at_int HR0.out x7_1 p106 q106
              cases e106
              replace p106 := eq_true p106
              replace q106 := eq_true q106
              go_upto_region 7 with (fail)
              go_cut [23] (fun v23 wc => ∃ (kq : Nat) (x23_5 : Bool), v23 = .bool x23_5 ∧ Aside0 (num_Take.j1 kq l0 x2_1 x7_1 (rd l0 x7_1) x7_1 x23_5 = some (r1, r2, r3)) ∧ Aside0 (kq ≤ k1) ∧ Drawn0 w wc)
              case first =>
                have H := HC6.out
                clear HC6
                by_cases c7 : x7_1 = 9
                · rw [if_pos c7] at H
                  have c7b0 : (x7_1 == 9) = true := beq_iff_eq.mpr c7
                  have c7b1 : (x7_1 != 9) = false := bne_eq_false_iff_eq.mpr c7
                  clear c7
                  (first | rw [c7b0] | (simp only [i64_w, i32_w]; rw [c7b0]) | skip)
                  have H' := Aside0.mk H
                  clear H
                  go_wp2
                  go_meet
                  case rel => exact ⟨_, (decide ((rd l0 x7_1) > 1)), (by first | rfl | (simp; done) | (simp [*]; done)), H', ⟨by have := HK1.out; first | omega | exact Nat.le_refl _⟩, by repeat (first | exact Drawn0.refl _ | apply Drawn0.step)⟩
                · rw [if_neg c7] at H
                  have c7b0 : (x7_1 == 9) = false := beq_eq_false_iff_ne.mpr c7
                  have c7b1 : (x7_1 != 9) = true := bne_iff_ne.mpr c7
                  (first | rw [c7b0] | (simp only [i64_w, i32_w]; rw [c7b0]) | skip)
                  have H' := Aside0.mk H
                  clear H
                  go_wp2
                  go_meet
                  case rel => exact ⟨_, (false), (by first | rfl | (simp; done) | (simp [*]; done)), H', ⟨by have := HK1.out; first | omega | exact Nat.le_refl _⟩, by repeat (first | exact Drawn0.refl _ | apply Drawn0.step)⟩
              case rest =>
                clear HC6
                try clear p1
                try clear q1
                try clear hx1
                try clear c2
                try clear c2b0
                try clear p2
                try clear c3
                try clear c3b0
                try clear c4
                try clear c4b0
                try clear c5
                try clear c5b0
                try clear c6
                try clear c7
                try clear c7b0
                try clear c7b1
                try clear hx106_0
                try clear p106
                try clear q106
                obtain ⟨kq, x23_5, rfl, HA, HJ5, ⟨mc5, rfl⟩⟩ := hcut
                cases kq with
                | zero => exact absurd HA.out (by simp [num_Take.j1])
                | succ kj5 =>
                  have H := HA.out
                  clear HA
                  simp only [num_Take.j1] at H
                  by_cases c8 : x23_5 = true
                  · subst c8
                    have H1 : (some (0, 0, 3)) = some (r1, r2, r3) := by rw [if_pos rfl] at H; exact H
                    clear H
                    have H := H1
                    clear H1
                    simp only [Option.some.injEq, Prod.mk.injEq] at H
                    obtain ⟨rfl, rfl, rfl⟩ := H
                    go_wp2
                    go_ret3
                    exact ⟨by first | rfl | (simp; done) | (simp [*]; done), by repeat (first | exact Drawn0.refl _ | apply Drawn0.step)⟩
                  · replace c8 := Bool.eq_false_iff.mpr c8
                    subst c8
                    have H1 : (if 0 ≤ (wrap64 (7 * x7_1)) then (if (rd l0 x7_1) < 128 then (if (rd l0 x7_1) = 0 then (if x7_1 > 0 then (some (0, 0, 3)) else (some (Go.bits .or .u64 x2_1 (shl .u64 (IntKind.u64.wrap (Go.bits .and .u8 (rd l0 x7_1) 127)) (wrap64 (7 * x7_1))), wrap64 (x7_1 + 1), 0))) else (some (Go.bits .or .u64 x2_1 (shl .u64 (IntKind.u64.wrap (Go.bits .and .u8 (rd l0 x7_1) 127)) (wrap64 (7 * x7_1))), wrap64 (x7_1 + 1), 0))) else (num_Take.l0 kj5 l0 (Go.bits .or .u64 x2_1 (shl .u64 (IntKind.u64.wrap (Go.bits .and .u8 (rd l0 x7_1) 127)) (wrap64 (7 * x7_1)))) (wrap64 (x7_1 + 1)))) else (none)) = some (r1, r2, r3) := by rw [if_neg (show ¬ (false = true) by decide)] at H; exact H
                    clear H
                    have H := H1
                    clear H1
                    obtain ⟨ji9, hji9⟩ : ∃ j_ : Int, (wrap64 (7 * x7_1)) = j_ := ⟨_, rfl⟩
                    replace H : (if 0 ≤ (ji9) then (if (rd l0 x7_1) < 128 then (if (rd l0 x7_1) = 0 then (if x7_1 > 0 then (some (0, 0, 3)) else (some (Go.bits .or .u64 x2_1 (shl .u64 (IntKind.u64.wrap (Go.bits .and .u8 (rd l0 x7_1) 127)) (ji9)), wrap64 (x7_1 + 1), 0))) else (some (Go.bits .or .u64 x2_1 (shl .u64 (IntKind.u64.wrap (Go.bits .and .u8 (rd l0 x7_1) 127)) (ji9)), wrap64 (x7_1 + 1), 0))) else (num_Take.l0 kj5 l0 (Go.bits .or .u64 x2_1 (shl .u64 (IntKind.u64.wrap (Go.bits .and .u8 (rd l0 x7_1) 127)) (ji9))) (wrap64 (x7_1 + 1)))) else (none)) = some (r1, r2, r3) := by first | (rw [hji9] at H; exact H) | (simp only [hji9] at H ⊢; exact H)
                    have hji9w : (IntKind.i64.wrap (7 * x7_1)) = ji9 := (i64_w _).trans hji9
                    by_cases c10 : 0 ≤ (ji9)
                    · rw [if_pos c10] at H
                      have c10b0 := eq_true c10
                      have c10b1 : decide (0 ≤ (ji9)) = true := decide_eq_true c10
                      clear c10
                      obtain ⟨ji11, hji11⟩ : ∃ j_ : Int, (shl .u64 (IntKind.u64.wrap (Go.bits .and .u8 (rd l0 x7_1) 127)) (ji9)) = j_ := ⟨_, rfl⟩
                      replace H : (if (rd l0 x7_1) < 128 then (if (rd l0 x7_1) = 0 then (if x7_1 > 0 then (some (0, 0, 3)) else (some (Go.bits .or .u64 x2_1 (ji11), wrap64 (x7_1 + 1), 0))) else (some (Go.bits .or .u64 x2_1 (ji11), wrap64 (x7_1 + 1), 0))) else (num_Take.l0 kj5 l0 (Go.bits .or .u64 x2_1 (ji11)) (wrap64 (x7_1 + 1)))) = some (r1, r2, r3) := by first | (rw [hji11] at H; exact H) | (simp only [hji11] at H ⊢; exact H)
                      have hji11_ : (IntKind.u64.wrap ((IntKind.u64.wrap (Go.bits .and .u8 (rd l0 x7_1) 127)) * 2 ^ min (ji9).toNat 64)) = ji11 := hji11
                      have hji11z : (ji9) ≤ 64 → (IntKind.u64.wrap ((IntKind.u64.wrap (Go.bits .and .u8 (rd l0 x7_1) 127)) * 2 ^ (ji9).toNat)) = ji11 := shl_small hji11
                      by_cases c12 : (rd l0 x7_1) < 128
                      · rw [if_pos c12] at H
                        have c12b0 : decide ((rd l0 x7_1) < 128) = true := decide_eq_true c12
                        clear c12
                        by_cases c13 : (rd l0 x7_1) = 0
                        · rw [if_pos c13] at H
                          have c13b0 : ((rd l0 x7_1) == 0) = true := beq_iff_eq.mpr c13
                          have c13b1 : ((rd l0 x7_1) != 0) = false := bne_eq_false_iff_eq.mpr c13
                          clear c13
                          by_cases c14 : x7_1 > 0
                          · rw [if_pos c14] at H
                            have c14b0 : decide (0 < x7_1) = true := decide_eq_true c14
                            clear c14
                            simp only [Option.some.injEq, Prod.mk.injEq] at H
                            obtain ⟨rfl, rfl, rfl⟩ := H
                            go_wp2
                            go_ret3
                            exact ⟨by first | rfl | (simp; done) | (simp only [← hji9, ← hji11] <;> (first | rfl | simp)) | (simp [*]; done), by repeat (first | exact Drawn0.refl _ | apply Drawn0.step)⟩
                          · rw [if_neg c14] at H
                            have c14b0 : decide (0 < x7_1) = false := decide_eq_false c14
                            clear c14
                            simp only [Option.some.injEq, Prod.mk.injEq] at H
                            obtain ⟨rfl, rfl, rfl⟩ := H
                            go_wp2
                            go_ret3
                            exact ⟨by first | rfl | (simp; done) | (simp only [← hji9, ← hji11] <;> (first | rfl | simp)) | (simp [*]; done), by repeat (first | exact Drawn0.refl _ | apply Drawn0.step)⟩
                        · rw [if_neg c13] at H
                          have c13b0 : ((rd l0 x7_1) == 0) = false := beq_eq_false_iff_ne.mpr c13
                          have c13b1 : ((rd l0 x7_1) != 0) = true := bne_iff_ne.mpr c13
                          simp only [Option.some.injEq, Prod.mk.injEq] at H
                          obtain ⟨rfl, rfl, rfl⟩ := H
                          go_wp2
                          go_ret3
                          exact ⟨by first | rfl | (simp; done) | (simp only [← hji9, ← hji11] <;> (first | rfl | simp)) | (simp [*]; done), by repeat (first | exact Drawn0.refl _ | apply Drawn0.step)⟩
                      · rw [if_neg c12] at H
                        have c12b0 : decide ((rd l0 x7_1) < 128) = false := decide_eq_false c12
                        clear c12
                        have H' := Aside0.mk H
                        clear H
                        go_wp2
                        go_roundg kj5
                        case measure => have := HK1.out; have := HJ5.out; omega
                        case rel => exact ⟨(Go.bits .or .u64 x2_1 (ji11)), (wrap64 (x7_1 + 1)), (by first | rfl | (simp; done) | (simp only [← hji11] <;> (first | rfl | simp)) | (simp [*]; done)), (by first | rfl | (simp; done) | (simp [*]; done)), H', ⟨by have := HK1.out; have := HJ5.out; omega⟩, by repeat (first | exact Drawn0.refl _ | apply Drawn0.step)⟩
                    · rw [if_neg c10] at H
                      exact absurd H (by simp)
            · rw [if_neg c5] at H
              exact absurd H (by simp)
          · rw [if_neg c4] at H
            exact absurd H (by simp)
      · rw [if_neg c2] at H
        have c2b0 : decide (x7_1 < 10) = false := decide_eq_false c2
        clear c2
        simp only [Option.some.injEq, Prod.mk.injEq] at H
        obtain ⟨rfl, rfl, rfl⟩ := H
        go_wp2
        go_ret3
        exact ⟨by first | rfl | (simp; done) | (simp [*]; done), by repeat (first | exact Drawn0.refl _ | apply Drawn0.step)⟩

end Go.Proofs.Ytolncaccemfbdaa.PPk

/- Printed by a program of this session (drv.py) from the translation of this seat: functions, their contracts, rows. -/
namespace Go.Proofs.Ytolncaccemfbdaa.PPk
open Go.RowKit Go.Proofs.YtolncaccemfbdaaW.PrintWords Go.Proofs.YtolncaccemfbdaaW.PrintLast Go.Proofs.YtolncaccemfbdaaW.PrintMore
attribute [local go_sem] max2_int min2_int max_two min_two max_three min_three max_four min_four   -- for this text's walks alone
set_option linter.unusedVariables false
set_option linter.unusedSimpArgs false

/-! ### packed_header: function 54 -/
def packed_header.f (k : Nat) (l0 : List Int) : Option (Int × Int × Int × Int) := (num_Take.f k l0).bind fun bt107 => (if bt107.2.2 = 0 then (if bt107.1 > 100000 then (some (0, 0, 0, 2)) else (if bt107.2.1 ≥ (l0.length : Int) then (some (0, 0, 0, 4)) else (if 0 ≤ bt107.2.1 then (if bt107.2.1 < (l0.length : Int) then (if (rd l0 bt107.2.1) > 64 then (some (0, 0, 0, 3)) else (some (wrap64 (bt107.1), wrap64 (rd l0 bt107.2.1), wrap64 (bt107.2.1 + 1), 0))) else (none)) else (none)))) else (some (0, 0, 0, bt107.2.2)))
theorem packed_header.mono : ∀ a0 k, LeO (packed_header.f k a0) (packed_header.f (k + 1) a0) := by
  intro a0 k
  unfold packed_header.f
  repeat' first
      | (with_reducible exact num_Take.mono _ _)
      | (with_reducible exact LeO.refl _)
      | (with_reducible exact LeO.none _)
      | (with_reducible refine LeO.ite ?_ ?_)
      | (with_reducible refine LeO.bind ?_ (fun _ => ?_))
      | exact num_Take.mono _ _
      | exact LeO.none _
      | refine LeO.ite ?_ ?_
      | refine LeO.bind ?_ (fun _ => ?_)
set_option maxHeartbeats 8000000 in
set_option maxRecDepth 100000 in
theorem packed_header.calls (k : Nat) (A0 : Option Addr) (c0 : Nat) (l0 : List Int) (r1 : Int) (r2 : Int) (r3 : Int) (r4 : Int) (w : World) (hr0 : Kd.C (Kd.int .u8) w A0 l0.length l0) (hc0 : l0.length ≤ c0) (h : packed_header.f k l0 = some (r1, r2, r3, r4)) :
    Calls Try.prog 54 #[.slice A0 l0.length c0] w fun e w' => e = .returned (.tuple #[.int .i64 r1, .int .i64 r2, .int .i64 r3, .int .i64 r4]) ∧ Drawn0 w w' := by
  have HR0 := Aside0.mk hr0
  have HC0 := Aside0.mk hc0
  clear hr0 hc0
  have H : ((num_Take.f k l0).bind fun bt107 => (if bt107.2.2 = 0 then (if bt107.1 > 100000 then (some (0, 0, 0, 2)) else (if bt107.2.1 ≥ (l0.length : Int) then (some (0, 0, 0, 4)) else (if 0 ≤ bt107.2.1 then (if bt107.2.1 < (l0.length : Int) then (if (rd l0 bt107.2.1) > 64 then (some (0, 0, 0, 3)) else (some (wrap64 (bt107.1), wrap64 (rd l0 bt107.2.1), wrap64 (bt107.2.1 + 1), 0))) else (none)) else (none)))) else (some (0, 0, 0, bt107.2.2)))) = some (r1, r2, r3, r4) := h
  clear h
  replace H := Option.bind_eq_some_iff.mp H
  obtain ⟨⟨t107, t108, t109⟩, A20, H⟩ := H
  replace H : (if t109 = 0 then (if t107 > 100000 then (some (0, 0, 0, 2)) else (if t108 ≥ (l0.length : Int) then (some (0, 0, 0, 4)) else (if 0 ≤ t108 then (if t108 < (l0.length : Int) then (if (rd l0 t108) > 64 then (some (0, 0, 0, 3)) else (some (wrap64 (t107), wrap64 (rd l0 t108), wrap64 (t108 + 1), 0))) else (none)) else (none)))) else (some (0, 0, 0, t109))) = some (r1, r2, r3, r4) := H
  have A2 := Aside0.mk A20
  clear A20
  by_cases c3 : t109 = 0
  · rw [if_pos c3] at H
    have c3b0 : (t109 == 0) = true := beq_iff_eq.mpr c3
    have c3b1 : (t109 != 0) = false := bne_eq_false_iff_eq.mpr c3
    clear c3
    by_cases c4 : t107 > 100000
    · rw [if_pos c4] at H
      have c4b0 : decide (100000 < t107) = true := decide_eq_true c4
      clear c4
      simp only [Option.some.injEq, Prod.mk.injEq] at H
      obtain ⟨rfl, rfl, rfl, rfl⟩ := H
      go_enter Try.func54, Try.ntmps54
      go_wp2_with (first | (go_at_call 66; (with_reducible refine (num_Take.calls k _ _ l0 t107 t108 t109 _ ?side1 ?side2 A2.out).mono ?_); (case side1 => repeat (first | exact HR0.out | (with_reducible refine Kd.C_alloc ?_ _) | (with_reducible refine Kd.C_drewN ?_ _) | (with_reducible refine Kd.C_drew ?_))); (case side2 => exact HC0.out); rintro e w' ⟨rfl, ⟨nd, rfl⟩⟩; (try first | exact ⟨rfl, _, World.drewN_drewN _ _ _⟩ | exact ⟨rfl, _, Eq.trans (World.drewN_drewN _ _ _) (congrArg (World.drewN _) (Nat.add_assoc _ _ _))⟩)))
      repeat (go_quiet (first | (go_at_call 66; (with_reducible refine (num_Take.calls k _ _ l0 t107 t108 t109 _ ?side1 ?side2 A2.out).mono ?_); (case side1 => repeat (first | exact HR0.out | (with_reducible refine Kd.C_alloc ?_ _) | (with_reducible refine Kd.C_drewN ?_ _) | (with_reducible refine Kd.C_drew ?_))); (case side2 => exact HC0.out); rintro e w' ⟨rfl, ⟨nd, rfl⟩⟩; (try first | exact ⟨rfl, _, World.drewN_drewN _ _ _⟩ | exact ⟨rfl, _, Eq.trans (World.drewN_drewN _ _ _) (congrArg (World.drewN _) (Nat.add_assoc _ _ _))⟩))); try go_wp2_with (first | (go_at_call 66; (with_reducible refine (num_Take.calls k _ _ l0 t107 t108 t109 _ ?side1 ?side2 A2.out).mono ?_); (case side1 => repeat (first | exact HR0.out | (with_reducible refine Kd.C_alloc ?_ _) | (with_reducible refine Kd.C_drewN ?_ _) | (with_reducible refine Kd.C_drew ?_))); (case side2 => exact HC0.out); rintro e w' ⟨rfl, ⟨nd, rfl⟩⟩; (try first | exact ⟨rfl, _, World.drewN_drewN _ _ _⟩ | exact ⟨rfl, _, Eq.trans (World.drewN_drewN _ _ _) (congrArg (World.drewN _) (Nat.add_assoc _ _ _))⟩))))
      refine bodyPost_ret (results_list (rs := [.tmp 2, .tmp 3, .tmp 4, .tmp 5]) rfl (by simp) (.tmp (.tmp (.tmp (.tmp .nil))))) rfl ?_
      exact ⟨by first | rfl | (simp; done) | (simp [*]; done), by repeat (first | exact Drawn0.refl _ | apply Drawn0.step)⟩
    · rw [if_neg c4] at H
      have c4b0 : decide (100000 < t107) = false := decide_eq_false c4
      clear c4
      by_cases c5 : t108 ≥ (l0.length : Int)
      · rw [if_pos c5] at H
        have c5b0 : decide ((l0.length : Int) ≤ t108) = true := decide_eq_true c5
        clear c5
        simp only [Option.some.injEq, Prod.mk.injEq] at H
        obtain ⟨rfl, rfl, rfl, rfl⟩ := H
        go_enter Try.func54, Try.ntmps54
        go_wp2_with (first | (go_at_call 66; (with_reducible refine (num_Take.calls k _ _ l0 t107 t108 t109 _ ?side1 ?side2 A2.out).mono ?_); (case side1 => repeat (first | exact HR0.out | (with_reducible refine Kd.C_alloc ?_ _) | (with_reducible refine Kd.C_drewN ?_ _) | (with_reducible refine Kd.C_drew ?_))); (case side2 => exact HC0.out); rintro e w' ⟨rfl, ⟨nd, rfl⟩⟩; (try first | exact ⟨rfl, _, World.drewN_drewN _ _ _⟩ | exact ⟨rfl, _, Eq.trans (World.drewN_drewN _ _ _) (congrArg (World.drewN _) (Nat.add_assoc _ _ _))⟩)))
        repeat (go_quiet (first | (go_at_call 66; (with_reducible refine (num_Take.calls k _ _ l0 t107 t108 t109 _ ?side1 ?side2 A2.out).mono ?_); (case side1 => repeat (first | exact HR0.out | (with_reducible refine Kd.C_alloc ?_ _) | (with_reducible refine Kd.C_drewN ?_ _) | (with_reducible refine Kd.C_drew ?_))); (case side2 => exact HC0.out); rintro e w' ⟨rfl, ⟨nd, rfl⟩⟩; (try first | exact ⟨rfl, _, World.drewN_drewN _ _ _⟩ | exact ⟨rfl, _, Eq.trans (World.drewN_drewN _ _ _) (congrArg (World.drewN _) (Nat.add_assoc _ _ _))⟩))); try go_wp2_with (first | (go_at_call 66; (with_reducible refine (num_Take.calls k _ _ l0 t107 t108 t109 _ ?side1 ?side2 A2.out).mono ?_); (case side1 => repeat (first | exact HR0.out | (with_reducible refine Kd.C_alloc ?_ _) | (with_reducible refine Kd.C_drewN ?_ _) | (with_reducible refine Kd.C_drew ?_))); (case side2 => exact HC0.out); rintro e w' ⟨rfl, ⟨nd, rfl⟩⟩; (try first | exact ⟨rfl, _, World.drewN_drewN _ _ _⟩ | exact ⟨rfl, _, Eq.trans (World.drewN_drewN _ _ _) (congrArg (World.drewN _) (Nat.add_assoc _ _ _))⟩))))
        refine bodyPost_ret (results_list (rs := [.tmp 2, .tmp 3, .tmp 4, .tmp 5]) rfl (by simp) (.tmp (.tmp (.tmp (.tmp .nil))))) rfl ?_
        exact ⟨by first | rfl | (simp; done) | (simp [*]; done), by repeat (first | exact Drawn0.refl _ | apply Drawn0.step)⟩
      · rw [if_neg c5] at H
        have c5b0 : decide ((l0.length : Int) ≤ t108) = false := decide_eq_false c5
        clear c5
        by_cases c6 : 0 ≤ t108
        · rw [if_pos c6] at H
          have c6b0 : decide (0 ≤ t108) = true := decide_eq_true c6
          clear c6
          by_cases c7 : t108 < (l0.length : Int)
          · rw [if_pos c7] at H
            have c7b0 : decide (t108 < (l0.length : Int)) = true := decide_eq_true c7
            clear c7
            by_cases c8 : (rd l0 t108) > 64
            · rw [if_pos c8] at H
              have c8b0 : decide (64 < (rd l0 t108)) = true := decide_eq_true c8
              clear c8
              simp only [Option.some.injEq, Prod.mk.injEq] at H
              obtain ⟨rfl, rfl, rfl, rfl⟩ := H
              go_enter Try.func54, Try.ntmps54
              go_wp2_with (first | (go_at_call 66; (with_reducible refine (num_Take.calls k _ _ l0 t107 t108 t109 _ ?side1 ?side2 A2.out).mono ?_); (case side1 => repeat (first | exact HR0.out | (with_reducible refine Kd.C_alloc ?_ _) | (with_reducible refine Kd.C_drewN ?_ _) | (with_reducible refine Kd.C_drew ?_))); (case side2 => exact HC0.out); rintro e w' ⟨rfl, ⟨nd, rfl⟩⟩; (try first | exact ⟨rfl, _, World.drewN_drewN _ _ _⟩ | exact ⟨rfl, _, Eq.trans (World.drewN_drewN _ _ _) (congrArg (World.drewN _) (Nat.add_assoc _ _ _))⟩); have p110 : 0 ≤ (t108 : Int) := of_decide_eq_true (by first | (with_reducible assumption) | assumption); have q110 : t108 < (l0.length : Int) := of_decide_eq_true (by first | (with_reducible assumption) | assumption); obtain ⟨ad110, e110, hx110_0⟩ := Kd.at_int HR0.out t108 p110 q110; cases e110; replace p110 := eq_true p110; replace q110 := eq_true q110))
              repeat (go_quiet (first | (go_at_call 66; (with_reducible refine (num_Take.calls k _ _ l0 t107 t108 t109 _ ?side1 ?side2 A2.out).mono ?_); (case side1 => repeat (first | exact HR0.out | (with_reducible refine Kd.C_alloc ?_ _) | (with_reducible refine Kd.C_drewN ?_ _) | (with_reducible refine Kd.C_drew ?_))); (case side2 => exact HC0.out); rintro e w' ⟨rfl, ⟨nd, rfl⟩⟩; (try first | exact ⟨rfl, _, World.drewN_drewN _ _ _⟩ | exact ⟨rfl, _, Eq.trans (World.drewN_drewN _ _ _) (congrArg (World.drewN _) (Nat.add_assoc _ _ _))⟩); have p110 : 0 ≤ (t108 : Int) := of_decide_eq_true (by first | (with_reducible assumption) | assumption); have q110 : t108 < (l0.length : Int) := of_decide_eq_true (by first | (with_reducible assumption) | assumption); obtain ⟨ad110, e110, hx110_0⟩ := Kd.at_int HR0.out t108 p110 q110; cases e110; replace p110 := eq_true p110; replace q110 := eq_true q110)); try go_wp2_with (first | (go_at_call 66; (with_reducible refine (num_Take.calls k _ _ l0 t107 t108 t109 _ ?side1 ?side2 A2.out).mono ?_); (case side1 => repeat (first | exact HR0.out | (with_reducible refine Kd.C_alloc ?_ _) | (with_reducible refine Kd.C_drewN ?_ _) | (with_reducible refine Kd.C_drew ?_))); (case side2 => exact HC0.out); rintro e w' ⟨rfl, ⟨nd, rfl⟩⟩; (try first | exact ⟨rfl, _, World.drewN_drewN _ _ _⟩ | exact ⟨rfl, _, Eq.trans (World.drewN_drewN _ _ _) (congrArg (World.drewN _) (Nat.add_assoc _ _ _))⟩); have p110 : 0 ≤ (t108 : Int) := of_decide_eq_true (by first | (with_reducible assumption) | assumption); have q110 : t108 < (l0.length : Int) := of_decide_eq_true (by first | (with_reducible assumption) | assumption); obtain ⟨ad110, e110, hx110_0⟩ := Kd.at_int HR0.out t108 p110 q110; cases e110; replace p110 := eq_true p110; replace q110 := eq_true q110)))
              refine bodyPost_ret (results_list (rs := [.tmp 2, .tmp 3, .tmp 4, .tmp 5]) rfl (by simp) (.tmp (.tmp (.tmp (.tmp .nil))))) rfl ?_
              exact ⟨by first | rfl | (simp; done) | (simp [*]; done), by repeat (first | exact Drawn0.refl _ | apply Drawn0.step)⟩
            · rw [if_neg c8] at H
              have c8b0 : decide (64 < (rd l0 t108)) = false := decide_eq_false c8
              clear c8
              simp only [Option.some.injEq, Prod.mk.injEq] at H
              obtain ⟨rfl, rfl, rfl, rfl⟩ := H
              go_enter Try.func54, Try.ntmps54
              go_wp2_with (first | (go_at_call 66; (with_reducible refine (num_Take.calls k _ _ l0 t107 t108 t109 _ ?side1 ?side2 A2.out).mono ?_); (case side1 => repeat (first | exact HR0.out | (with_reducible refine Kd.C_alloc ?_ _) | (with_reducible refine Kd.C_drewN ?_ _) | (with_reducible refine Kd.C_drew ?_))); (case side2 => exact HC0.out); rintro e w' ⟨rfl, ⟨nd, rfl⟩⟩; (try first | exact ⟨rfl, _, World.drewN_drewN _ _ _⟩ | exact ⟨rfl, _, Eq.trans (World.drewN_drewN _ _ _) (congrArg (World.drewN _) (Nat.add_assoc _ _ _))⟩); have p110 : 0 ≤ (t108 : Int) := of_decide_eq_true (by first | (with_reducible assumption) | assumption); have q110 : t108 < (l0.length : Int) := of_decide_eq_true (by first | (with_reducible assumption) | assumption); obtain ⟨ad110, e110, hx110_0⟩ := Kd.at_int HR0.out t108 p110 q110; cases e110; replace p110 := eq_true p110; replace q110 := eq_true q110; have p111 : 0 ≤ (t108 : Int) := of_decide_eq_true (by first | (with_reducible assumption) | assumption); have q111 : t108 < (l0.length : Int) := of_decide_eq_true (by first | (with_reducible assumption) | assumption); obtain ⟨ad111, e111, hx111_0⟩ := Kd.at_int HR0.out t108 p111 q111; obtain rfl : ad110 = ad111 := (by injection e111); replace p111 := eq_true p111; replace q111 := eq_true q111))
              repeat (go_quiet (first | (go_at_call 66; (with_reducible refine (num_Take.calls k _ _ l0 t107 t108 t109 _ ?side1 ?side2 A2.out).mono ?_); (case side1 => repeat (first | exact HR0.out | (with_reducible refine Kd.C_alloc ?_ _) | (with_reducible refine Kd.C_drewN ?_ _) | (with_reducible refine Kd.C_drew ?_))); (case side2 => exact HC0.out); rintro e w' ⟨rfl, ⟨nd, rfl⟩⟩; (try first | exact ⟨rfl, _, World.drewN_drewN _ _ _⟩ | exact ⟨rfl, _, Eq.trans (World.drewN_drewN _ _ _) (congrArg (World.drewN _) (Nat.add_assoc _ _ _))⟩); have p110 : 0 ≤ (t108 : Int) := of_decide_eq_true (by first | (with_reducible assumption) | assumption); have q110 : t108 < (l0.length : Int) := of_decide_eq_true (by first | (with_reducible assumption) | assumption); obtain ⟨ad110, e110, hx110_0⟩ := Kd.at_int HR0.out t108 p110 q110; cases e110; replace p110 := eq_true p110; replace q110 := eq_true q110; have p111 : 0 ≤ (t108 : Int) := of_decide_eq_true (by first | (with_reducible assumption) | assumption); have q111 : t108 < (l0.length : Int) := of_decide_eq_true (by first | (with_reducible assumption) | assumption); obtain ⟨ad111, e111, hx111_0⟩ := Kd.at_int HR0.out t108 p111 q111; obtain rfl : ad110 = ad111 := (by injection e111); replace p111 := eq_true p111; replace q111 := eq_true q111)); try go_wp2_with (first | (go_at_call 66; (with_reducible refine (num_Take.calls k _ _ l0 t107 t108 t109 _ ?side1 ?side2 A2.out).mono ?_); (case side1 => repeat (first | exact HR0.out | (with_reducible refine Kd.C_alloc ?_ _) | (with_reducible refine Kd.C_drewN ?_ _) | (with_reducible refine Kd.C_drew ?_))); (case side2 => exact HC0.out); rintro e w' ⟨rfl, ⟨nd, rfl⟩⟩; (try first | exact ⟨rfl, _, World.drewN_drewN _ _ _⟩ | exact ⟨rfl, _, Eq.trans (World.drewN_drewN _ _ _) (congrArg (World.drewN _) (Nat.add_assoc _ _ _))⟩); have p110 : 0 ≤ (t108 : Int) := of_decide_eq_true (by first | (with_reducible assumption) | assumption); have q110 : t108 < (l0.length : Int) := of_decide_eq_true (by first | (with_reducible assumption) | assumption); obtain ⟨ad110, e110, hx110_0⟩ := Kd.at_int HR0.out t108 p110 q110; cases e110; replace p110 := eq_true p110; replace q110 := eq_true q110; have p111 : 0 ≤ (t108 : Int) := of_decide_eq_true (by first | (with_reducible assumption) | assumption); have q111 : t108 < (l0.length : Int) := of_decide_eq_true (by first | (with_reducible assumption) | assumption); obtain ⟨ad111, e111, hx111_0⟩ := Kd.at_int HR0.out t108 p111 q111; obtain rfl : ad110 = ad111 := (by injection e111); replace p111 := eq_true p111; replace q111 := eq_true q111)))
              refine bodyPost_ret (results_list (rs := [.tmp 2, .tmp 3, .tmp 4, .tmp 5]) rfl (by simp) (.tmp (.tmp (.tmp (.tmp .nil))))) rfl ?_
              exact ⟨by first | rfl | (simp; done) | (simp [*]; done), by repeat (first | exact Drawn0.refl _ | apply Drawn0.step)⟩
          · rw [if_neg c7] at H
            exact absurd H (by simp)
        · rw [if_neg c6] at H
          exact absurd H (by simp)
  · rw [if_neg c3] at H
    have c3b0 : (t109 == 0) = false := beq_eq_false_iff_ne.mpr c3
    have c3b1 : (t109 != 0) = true := bne_iff_ne.mpr c3
    simp only [Option.some.injEq, Prod.mk.injEq] at H
    obtain ⟨rfl, rfl, rfl, rfl⟩ := H
    go_enter Try.func54, Try.ntmps54
    go_wp2_with (first | (go_at_call 66; (with_reducible refine (num_Take.calls k _ _ l0 t107 t108 t109 _ ?side1 ?side2 A2.out).mono ?_); (case side1 => repeat (first | exact HR0.out | (with_reducible refine Kd.C_alloc ?_ _) | (with_reducible refine Kd.C_drewN ?_ _) | (with_reducible refine Kd.C_drew ?_))); (case side2 => exact HC0.out); rintro e w' ⟨rfl, ⟨nd, rfl⟩⟩; (try first | exact ⟨rfl, _, World.drewN_drewN _ _ _⟩ | exact ⟨rfl, _, Eq.trans (World.drewN_drewN _ _ _) (congrArg (World.drewN _) (Nat.add_assoc _ _ _))⟩)))
    repeat (go_quiet (first | (go_at_call 66; (with_reducible refine (num_Take.calls k _ _ l0 t107 t108 t109 _ ?side1 ?side2 A2.out).mono ?_); (case side1 => repeat (first | exact HR0.out | (with_reducible refine Kd.C_alloc ?_ _) | (with_reducible refine Kd.C_drewN ?_ _) | (with_reducible refine Kd.C_drew ?_))); (case side2 => exact HC0.out); rintro e w' ⟨rfl, ⟨nd, rfl⟩⟩; (try first | exact ⟨rfl, _, World.drewN_drewN _ _ _⟩ | exact ⟨rfl, _, Eq.trans (World.drewN_drewN _ _ _) (congrArg (World.drewN _) (Nat.add_assoc _ _ _))⟩))); try go_wp2_with (first | (go_at_call 66; (with_reducible refine (num_Take.calls k _ _ l0 t107 t108 t109 _ ?side1 ?side2 A2.out).mono ?_); (case side1 => repeat (first | exact HR0.out | (with_reducible refine Kd.C_alloc ?_ _) | (with_reducible refine Kd.C_drewN ?_ _) | (with_reducible refine Kd.C_drew ?_))); (case side2 => exact HC0.out); rintro e w' ⟨rfl, ⟨nd, rfl⟩⟩; (try first | exact ⟨rfl, _, World.drewN_drewN _ _ _⟩ | exact ⟨rfl, _, Eq.trans (World.drewN_drewN _ _ _) (congrArg (World.drewN _) (Nat.add_assoc _ _ _))⟩))))
    refine bodyPost_ret (results_list (rs := [.tmp 2, .tmp 3, .tmp 4, .tmp 5]) rfl (by simp) (.tmp (.tmp (.tmp (.tmp .nil))))) rfl ?_
    exact ⟨by first | rfl | (simp; done) | (simp [*]; done), by repeat (first | exact Drawn0.refl _ | apply Drawn0.step)⟩

end Go.Proofs.Ytolncaccemfbdaa.PPk

/- Printed by a program of this session (drv.py) from the translation of this seat: functions, their contracts, rows. -/
namespace Go.Proofs.Ytolncaccemfbdaa.PPk
open Go.RowKit Go.Proofs.YtolncaccemfbdaaW.PrintWords Go.Proofs.YtolncaccemfbdaaW.PrintLast Go.Proofs.YtolncaccemfbdaaW.PrintMore
attribute [local go_sem] max2_int min2_int max_two min_two max_three min_three max_four min_four   -- for this text's walks alone
set_option linter.unusedVariables false
set_option linter.unusedSimpArgs false

/-! ### packed_bit: function 55 -/
def packed_bit.f (l0 : List Int) (a1 : Int) : Option (Int) := if 0 ≤ (wrap64 (Int.tdiv a1 8)) then (if (wrap64 (Int.tdiv a1 8)) < (l0.length : Int) then (if 0 ≤ (Int.tmod a1 8) then (some (Go.bits .and .u64 (IntKind.u64.wrap (shr .u8 (rd l0 (wrap64 (Int.tdiv a1 8))) (Int.tmod a1 8))) 1)) else (none)) else (none)) else (none)
set_option maxHeartbeats 8000000 in
set_option maxRecDepth 100000 in
theorem packed_bit.calls (A0 : Option Addr) (c0 : Nat) (l0 : List Int) (a1 : Int) (r : Int) (w : World) (hr0 : Kd.C (Kd.int .u8) w A0 l0.length l0) (hc0 : l0.length ≤ c0) (h : packed_bit.f l0 a1 = some r) :
    Calls Try.prog 55 #[.slice A0 l0.length c0, .int .i64 a1] w fun e w' => e = .returned (.int .u64 r) ∧ Drawn0 w w' := by
  have HR0 := Aside0.mk hr0
  have HC0 := Aside0.mk hc0
  clear hr0 hc0
  have H : (if 0 ≤ (wrap64 (Int.tdiv a1 8)) then (if (wrap64 (Int.tdiv a1 8)) < (l0.length : Int) then (if 0 ≤ (Int.tmod a1 8) then (some (Go.bits .and .u64 (IntKind.u64.wrap (shr .u8 (rd l0 (wrap64 (Int.tdiv a1 8))) (Int.tmod a1 8))) 1)) else (none)) else (none)) else (none)) = some r := h
  clear h
  obtain ⟨ji3, hji3⟩ : ∃ j_ : Int, (wrap64 (Int.tdiv a1 8)) = j_ := ⟨_, rfl⟩
  replace H : (if 0 ≤ (ji3) then (if (ji3) < (l0.length : Int) then (if 0 ≤ (Int.tmod a1 8) then (some (Go.bits .and .u64 (IntKind.u64.wrap (shr .u8 (rd l0 (ji3)) (Int.tmod a1 8))) 1)) else (none)) else (none)) else (none)) = some r := by first | (rw [hji3] at H; exact H) | (simp only [hji3] at H ⊢; exact H)
  have hji3w : (IntKind.i64.wrap (Int.tdiv a1 8)) = ji3 := (i64_w _).trans hji3
  by_cases c4 : 0 ≤ (ji3)
  · rw [if_pos c4] at H
    have c4b0 : decide (0 ≤ (ji3)) = true := decide_eq_true c4
    clear c4
    by_cases c5 : (ji3) < (l0.length : Int)
    · rw [if_pos c5] at H
      have c5b0 : decide ((ji3) < (l0.length : Int)) = true := decide_eq_true c5
      clear c5
      obtain ⟨ji6, hji6⟩ : ∃ j_ : Int, (Int.tmod a1 8) = j_ := ⟨_, rfl⟩
      replace H : (if 0 ≤ (ji6) then (some (Go.bits .and .u64 (IntKind.u64.wrap (shr .u8 (rd l0 (ji3)) (ji6))) 1)) else (none)) = some r := by first | (rw [hji6] at H; exact H) | (simp only [hji6] at H ⊢; exact H)
      by_cases c7 : 0 ≤ (ji6)
      · rw [if_pos c7] at H
        have c7b0 := eq_true c7
        have c7b1 : decide (0 ≤ (ji6)) = true := decide_eq_true c7
        clear c7
        obtain ⟨ji8, hji8⟩ : ∃ j_ : Int, (shr .u8 (rd l0 (ji3)) (ji6)) = j_ := ⟨_, rfl⟩
        replace H : (some (Go.bits .and .u64 (IntKind.u64.wrap (ji8)) 1)) = some r := by first | (rw [hji8] at H; exact H) | (simp only [hji8] at H ⊢; exact H)
        have hji8_ : ((rd l0 (ji3)) / 2 ^ min (ji6).toNat 8) = ji8 := hji8
        have hji8z : (ji6) ≤ 8 → ((rd l0 (ji3)) / 2 ^ (ji6).toNat) = ji8 := shr_small hji8
        obtain rfl := Option.some.inj H
        have p112 : 0 ≤ ((ji3) : Int) := of_decide_eq_true (by first | (with_reducible assumption) | assumption)
        have q112 : (ji3) < (l0.length : Int) := of_decide_eq_true (by first | (with_reducible assumption) | assumption)
        obtain ⟨ad112, e112, hx112_0⟩ := Kd.at_int HR0.out (ji3) p112 q112
        cases e112
        replace p112 := eq_true p112
        replace q112 := eq_true q112
        go_enter Try.func55, Try.ntmps55
        go_wp2
        go_ret
        exact ⟨by first | rfl | (simp; done) | (simp only [← hji3, ← hji6, ← hji8] <;> (first | rfl | simp)) | (simp [*]; done), by repeat (first | exact Drawn0.refl _ | apply Drawn0.step)⟩
      · rw [if_neg c7] at H
        exact absurd H (by simp)
    · rw [if_neg c5] at H
      exact absurd H (by simp)
  · rw [if_neg c4] at H
    exact absurd H (by simp)

end Go.Proofs.Ytolncaccemfbdaa.PPk

/- Printed by a program of this session (drv.py) from the translation of this seat: functions, their contracts, rows. -/
namespace Go.Proofs.Ytolncaccemfbdaa.PPk
open Go.RowKit Go.Proofs.YtolncaccemfbdaaW.PrintWords Go.Proofs.YtolncaccemfbdaaW.PrintLast Go.Proofs.YtolncaccemfbdaaW.PrintMore
attribute [local go_sem] max2_int min2_int max_two min_two max_three min_three max_four min_four   -- for this text's walks alone
set_option linter.unusedVariables false
set_option linter.unusedSimpArgs false

/-! ### concordanceref1_Take: function 61 -/
mutual
def concordanceref1_Take.l0 : Nat → ByteArray → Int → Int → Option (Int × Int × Int)
  | 0, _, _, _ => none
  | k + 1, x0, x5, x6 => if x6 < 10 then (if x6 ≥ (x0.size : Int) then (some (0, 0, 4)) else (if 0 ≤ x6 then (if x6 < (x0.size : Int) then (if x6 = 9 then (concordanceref1_Take.j1 k x0 x5 x6 (IntKind.u64.wrap (bt x0 x6)) (decide ((IntKind.u64.wrap (bt x0 x6)) > 1))) else (concordanceref1_Take.j1 k x0 x5 x6 (IntKind.u64.wrap (bt x0 x6)) false)) else (none)) else (none))) else (some (0, 0, 3))
def concordanceref1_Take.j1 : Nat → ByteArray → Int → Int → Int → Bool → Option (Int × Int × Int)
  | 0, _, _, _, _, _ => none
  | k + 1, x0, x5, x6, x7, x25 => if x25 = true then (some (0, 0, 3)) else (if 0 ≤ (wrap64 (7 * x6)) then (if x7 < 128 then (if x6 > 0 then (if x7 = 0 then (some (0, 0, 3)) else (some (Go.bits .or .u64 x5 (shl .u64 (Go.bits .and .u64 x7 127) (wrap64 (7 * x6))), wrap64 (x6 + 1), 0))) else (some (Go.bits .or .u64 x5 (shl .u64 (Go.bits .and .u64 x7 127) (wrap64 (7 * x6))), wrap64 (x6 + 1), 0))) else (concordanceref1_Take.l0 k x0 (Go.bits .or .u64 x5 (shl .u64 (Go.bits .and .u64 x7 127) (wrap64 (7 * x6)))) (wrap64 (x6 + 1)))) else (none))
end
def concordanceref1_Take.f (k : Nat) (a0 : ByteArray) : Option (Int × Int × Int) := concordanceref1_Take.l0 k a0 0 0
theorem concordanceref1_Take.mono_l : ∀ k, (∀ y0 y1 y2, LeO (concordanceref1_Take.l0 k y0 y1 y2) (concordanceref1_Take.l0 (k + 1) y0 y1 y2)) ∧ (∀ y0 y1 y2 y3 y4, LeO (concordanceref1_Take.j1 k y0 y1 y2 y3 y4) (concordanceref1_Take.j1 (k + 1) y0 y1 y2 y3 y4))
  | 0 => ⟨fun _ _ _ r h => by simp [concordanceref1_Take.l0] at h, fun _ _ _ _ _ r h => by simp [concordanceref1_Take.j1] at h⟩
  | k + 1 => by
    obtain ⟨ih0, ih1⟩ := concordanceref1_Take.mono_l k
    refine ⟨?_, ?_⟩
    · intro y0 y1 y2
      unfold concordanceref1_Take.l0
      repeat' first
      | (with_reducible exact ih0 _ _ _)
      | (with_reducible exact ih1 _ _ _ _ _)
      | (with_reducible exact LeO.refl _)
      | (with_reducible exact LeO.none _)
      | (with_reducible refine LeO.ite ?_ ?_)
      | (with_reducible refine LeO.bind ?_ (fun _ => ?_))
      | exact ih0 _ _ _
      | exact ih1 _ _ _ _ _
      | exact LeO.none _
      | refine LeO.ite ?_ ?_
      | refine LeO.bind ?_ (fun _ => ?_)
    · intro y0 y1 y2 y3 y4
      unfold concordanceref1_Take.j1
      repeat' first
      | (with_reducible exact ih0 _ _ _)
      | (with_reducible exact ih1 _ _ _ _ _)
      | (with_reducible exact LeO.refl _)
      | (with_reducible exact LeO.none _)
      | (with_reducible refine LeO.ite ?_ ?_)
      | (with_reducible refine LeO.bind ?_ (fun _ => ?_))
      | exact ih0 _ _ _
      | exact ih1 _ _ _ _ _
      | exact LeO.none _
      | refine LeO.ite ?_ ?_
      | refine LeO.bind ?_ (fun _ => ?_)
theorem concordanceref1_Take.mono : ∀ a0 k, LeO (concordanceref1_Take.f k a0) (concordanceref1_Take.f (k + 1) a0) := by
  intro a0 k
  obtain ⟨ih0, ih1⟩ := concordanceref1_Take.mono_l k
  unfold concordanceref1_Take.f
  repeat' first
      | (with_reducible exact ih0 _ _ _)
      | (with_reducible exact ih1 _ _ _ _ _)
      | (with_reducible exact LeO.refl _)
      | (with_reducible exact LeO.none _)
      | (with_reducible refine LeO.ite ?_ ?_)
      | (with_reducible refine LeO.bind ?_ (fun _ => ?_))
      | exact ih0 _ _ _
      | exact ih1 _ _ _ _ _
      | exact LeO.none _
      | refine LeO.ite ?_ ?_
      | refine LeO.bind ?_ (fun _ => ?_)
set_option maxHeartbeats 8000000 in
set_option maxRecDepth 100000 in
theorem concordanceref1_Take.calls (k : Nat) (a0 : ByteArray) (r1 : Int) (r2 : Int) (r3 : Int) (w : World) (h : concordanceref1_Take.f k a0 = some (r1, r2, r3)) :
    Calls Try.prog 61 #[.string a0] w fun e w' => e = .returned (.tuple #[.int .u64 r1, .int .i64 r2, .int .i64 r3]) ∧ Drawn0 w w' := by
  have H : (concordanceref1_Take.l0 k a0 0 0) = some (r1, r2, r3) := h
  clear h
  have H' := Aside0.mk H
  clear H
  go_enter Try.func61, Try.ntmps61
  go_wp2
  go_loopg [5, 6] k (fun kq v5 v6 w' => ∃ (x5_1 : Int) (x6_1 : Int), v5 = .int .u64 x5_1 ∧ v6 = .int .i64 x6_1 ∧ Aside0 (concordanceref1_Take.l0 kq a0 x5_1 x6_1 = some (r1, r2, r3)) ∧ Aside0 (kq ≤ k) ∧ Drawn0 w w')
  case atStart => exact ⟨(0), (0), (by first | rfl | (simp; done) | (simp [*]; done)), (by first | rfl | (simp; done) | (simp [*]; done)), H', ⟨Nat.le_refl _⟩, by repeat (first | exact Drawn0.refl _ | apply Drawn0.step)⟩
  case round =>
    clear H'
    obtain ⟨x5_1, x6_1, rfl, rfl, HA, HK1, ⟨m1, rfl⟩⟩ := hrel
    cases gk with
    | zero => exact absurd HA.out (by simp [concordanceref1_Take.l0])
    | succ k1 =>
      have H := HA.out
      clear HA
      simp only [concordanceref1_Take.l0] at H
      by_cases c2 : x6_1 < 10
      · rw [if_pos c2] at H
        have c2b0 : decide (x6_1 < 10) = true := decide_eq_true c2
        clear c2
        by_cases c3 : x6_1 ≥ (a0.size : Int)
        · rw [if_pos c3] at H
          have c3b0 : decide ((a0.size : Int) ≤ x6_1) = true := decide_eq_true c3
          clear c3
          simp only [Option.some.injEq, Prod.mk.injEq] at H
          obtain ⟨rfl, rfl, rfl⟩ := H
          go_wp2
          go_ret3
          exact ⟨by first | rfl | (simp; done) | (simp [*]; done), by repeat (first | exact Drawn0.refl _ | apply Drawn0.step)⟩
        · rw [if_neg c3] at H
          have c3b0 : decide ((a0.size : Int) ≤ x6_1) = false := decide_eq_false c3
          clear c3
          by_cases c4 : 0 ≤ x6_1
          · rw [if_pos c4] at H
            have c4b0 : decide (0 ≤ x6_1) = true := decide_eq_true c4
            clear c4
            by_cases c5 : x6_1 < (a0.size : Int)
            · rw [if_pos c5] at H
              have c5b0 : decide (x6_1 < (a0.size : Int)) = true := decide_eq_true c5
              clear c5
              have HC7 := Aside0.mk H
              clear H
              have p6 : 0 ≤ (x6_1 : Int) := of_decide_eq_true (by first | (with_reducible assumption) | assumption)
              have q6 : x6_1 < (a0.size : Int) := of_decide_eq_true (by first | (with_reducible assumption) | assumption)
              have hx6 := bt_at a0 x6_1
              replace p6 := eq_true p6
              replace q6 := eq_true q6
              go_upto_region 8 with (fail)
              go_cut [25] (fun v25 wc => ∃ (kq : Nat) (x25_6 : Bool), v25 = .bool x25_6 ∧ Aside0 (concordanceref1_Take.j1 kq a0 x5_1 x6_1 (IntKind.u64.wrap (bt a0 x6_1)) x25_6 = some (r1, r2, r3)) ∧ Aside0 (kq ≤ k1) ∧ Drawn0 w wc)
              case first =>
                have H := HC7.out
                clear HC7
                by_cases c8 : x6_1 = 9
                · rw [if_pos c8] at H
                  have c8b0 : (x6_1 == 9) = true := beq_iff_eq.mpr c8
                  have c8b1 : (x6_1 != 9) = false := bne_eq_false_iff_eq.mpr c8
                  clear c8
                  (first | rw [c8b0] | (simp only [i64_w, i32_w]; rw [c8b0]) | skip)
                  have H' := Aside0.mk H
                  clear H
                  go_wp2
                  go_meet
                  case rel => exact ⟨_, (decide ((IntKind.u64.wrap (bt a0 x6_1)) > 1)), (by first | rfl | (simp; done) | (simp [*]; done)), H', ⟨by have := HK1.out; first | omega | exact Nat.le_refl _⟩, by repeat (first | exact Drawn0.refl _ | apply Drawn0.step)⟩
                · rw [if_neg c8] at H
                  have c8b0 : (x6_1 == 9) = false := beq_eq_false_iff_ne.mpr c8
                  have c8b1 : (x6_1 != 9) = true := bne_iff_ne.mpr c8
                  (first | rw [c8b0] | (simp only [i64_w, i32_w]; rw [c8b0]) | skip)
                  have H' := Aside0.mk H
                  clear H
                  go_wp2
                  go_meet
                  case rel => exact ⟨_, (false), (by first | rfl | (simp; done) | (simp [*]; done)), H', ⟨by have := HK1.out; first | omega | exact Nat.le_refl _⟩, by repeat (first | exact Drawn0.refl _ | apply Drawn0.step)⟩
              case rest =>
                clear HC7
                try clear c2
                try clear c2b0
                try clear p2
                try clear c3
                try clear c3b0
                try clear c4
                try clear c4b0
                try clear c5
                try clear c5b0
                try clear c6
                try clear p6
                try clear q6
                try clear hx6
                try clear c8
                try clear c8b0
                try clear c8b1
                try clear p6
                try clear q6
                obtain ⟨kq, x25_6, rfl, HA, HJ6, ⟨mc6, rfl⟩⟩ := hcut
                cases kq with
                | zero => exact absurd HA.out (by simp [concordanceref1_Take.j1])
                | succ kj6 =>
                  have H := HA.out
                  clear HA
                  simp only [concordanceref1_Take.j1] at H
                  by_cases c9 : x25_6 = true
                  · subst c9
                    have H1 : (some (0, 0, 3)) = some (r1, r2, r3) := by rw [if_pos rfl] at H; exact H
                    clear H
                    have H := H1
                    clear H1
                    simp only [Option.some.injEq, Prod.mk.injEq] at H
                    obtain ⟨rfl, rfl, rfl⟩ := H
                    go_wp2
                    go_ret3
                    exact ⟨by first | rfl | (simp; done) | (simp [*]; done), by repeat (first | exact Drawn0.refl _ | apply Drawn0.step)⟩
                  · replace c9 := Bool.eq_false_iff.mpr c9
                    subst c9
                    have H1 : (if 0 ≤ (wrap64 (7 * x6_1)) then (if (IntKind.u64.wrap (bt a0 x6_1)) < 128 then (if x6_1 > 0 then (if (IntKind.u64.wrap (bt a0 x6_1)) = 0 then (some (0, 0, 3)) else (some (Go.bits .or .u64 x5_1 (shl .u64 (Go.bits .and .u64 (IntKind.u64.wrap (bt a0 x6_1)) 127) (wrap64 (7 * x6_1))), wrap64 (x6_1 + 1), 0))) else (some (Go.bits .or .u64 x5_1 (shl .u64 (Go.bits .and .u64 (IntKind.u64.wrap (bt a0 x6_1)) 127) (wrap64 (7 * x6_1))), wrap64 (x6_1 + 1), 0))) else (concordanceref1_Take.l0 kj6 a0 (Go.bits .or .u64 x5_1 (shl .u64 (Go.bits .and .u64 (IntKind.u64.wrap (bt a0 x6_1)) 127) (wrap64 (7 * x6_1)))) (wrap64 (x6_1 + 1)))) else (none)) = some (r1, r2, r3) := by rw [if_neg (show ¬ (false = true) by decide)] at H; exact H
                    clear H
                    have H := H1
                    clear H1
                    obtain ⟨ji10, hji10⟩ : ∃ j_ : Int, (wrap64 (7 * x6_1)) = j_ := ⟨_, rfl⟩
                    replace H : (if 0 ≤ (ji10) then (if (IntKind.u64.wrap (bt a0 x6_1)) < 128 then (if x6_1 > 0 then (if (IntKind.u64.wrap (bt a0 x6_1)) = 0 then (some (0, 0, 3)) else (some (Go.bits .or .u64 x5_1 (shl .u64 (Go.bits .and .u64 (IntKind.u64.wrap (bt a0 x6_1)) 127) (ji10)), wrap64 (x6_1 + 1), 0))) else (some (Go.bits .or .u64 x5_1 (shl .u64 (Go.bits .and .u64 (IntKind.u64.wrap (bt a0 x6_1)) 127) (ji10)), wrap64 (x6_1 + 1), 0))) else (concordanceref1_Take.l0 kj6 a0 (Go.bits .or .u64 x5_1 (shl .u64 (Go.bits .and .u64 (IntKind.u64.wrap (bt a0 x6_1)) 127) (ji10))) (wrap64 (x6_1 + 1)))) else (none)) = some (r1, r2, r3) := by first | (rw [hji10] at H; exact H) | (simp only [hji10] at H ⊢; exact H)
                    have hji10w : (IntKind.i64.wrap (7 * x6_1)) = ji10 := (i64_w _).trans hji10
                    by_cases c11 : 0 ≤ (ji10)
                    · rw [if_pos c11] at H
                      have c11b0 := eq_true c11
                      have c11b1 : decide (0 ≤ (ji10)) = true := decide_eq_true c11
                      clear c11
                      obtain ⟨ji12, hji12⟩ : ∃ j_ : Int, (shl .u64 (Go.bits .and .u64 (IntKind.u64.wrap (bt a0 x6_1)) 127) (ji10)) = j_ := ⟨_, rfl⟩
                      replace H : (if (IntKind.u64.wrap (bt a0 x6_1)) < 128 then (if x6_1 > 0 then (if (IntKind.u64.wrap (bt a0 x6_1)) = 0 then (some (0, 0, 3)) else (some (Go.bits .or .u64 x5_1 (ji12), wrap64 (x6_1 + 1), 0))) else (some (Go.bits .or .u64 x5_1 (ji12), wrap64 (x6_1 + 1), 0))) else (concordanceref1_Take.l0 kj6 a0 (Go.bits .or .u64 x5_1 (ji12)) (wrap64 (x6_1 + 1)))) = some (r1, r2, r3) := by first | (rw [hji12] at H; exact H) | (simp only [hji12] at H ⊢; exact H)
                      have hji12_ : (IntKind.u64.wrap ((Go.bits .and .u64 (IntKind.u64.wrap (bt a0 x6_1)) 127) * 2 ^ min (ji10).toNat 64)) = ji12 := hji12
                      have hji12z : (ji10) ≤ 64 → (IntKind.u64.wrap ((Go.bits .and .u64 (IntKind.u64.wrap (bt a0 x6_1)) 127) * 2 ^ (ji10).toNat)) = ji12 := shl_small hji12
                      by_cases c13 : (IntKind.u64.wrap (bt a0 x6_1)) < 128
                      · rw [if_pos c13] at H
                        have c13b0 : decide ((IntKind.u64.wrap (bt a0 x6_1)) < 128) = true := decide_eq_true c13
                        clear c13
                        by_cases c14 : x6_1 > 0
                        · rw [if_pos c14] at H
                          have c14b0 : decide (0 < x6_1) = true := decide_eq_true c14
                          clear c14
                          by_cases c15 : (IntKind.u64.wrap (bt a0 x6_1)) = 0
                          · rw [if_pos c15] at H
                            have c15b0 : ((IntKind.u64.wrap (bt a0 x6_1)) == 0) = true := beq_iff_eq.mpr c15
                            have c15b1 : ((IntKind.u64.wrap (bt a0 x6_1)) != 0) = false := bne_eq_false_iff_eq.mpr c15
                            clear c15
                            simp only [Option.some.injEq, Prod.mk.injEq] at H
                            obtain ⟨rfl, rfl, rfl⟩ := H
                            go_wp2
                            go_ret3
                            exact ⟨by first | rfl | (simp; done) | (simp only [← hji10, ← hji12] <;> (first | rfl | simp)) | (simp [*]; done), by repeat (first | exact Drawn0.refl _ | apply Drawn0.step)⟩
                          · rw [if_neg c15] at H
                            have c15b0 : ((IntKind.u64.wrap (bt a0 x6_1)) == 0) = false := beq_eq_false_iff_ne.mpr c15
                            have c15b1 : ((IntKind.u64.wrap (bt a0 x6_1)) != 0) = true := bne_iff_ne.mpr c15
                            simp only [Option.some.injEq, Prod.mk.injEq] at H
                            obtain ⟨rfl, rfl, rfl⟩ := H
                            go_wp2
                            go_ret3
                            exact ⟨by first | rfl | (simp; done) | (simp only [← hji10, ← hji12] <;> (first | rfl | simp)) | (simp [*]; done), by repeat (first | exact Drawn0.refl _ | apply Drawn0.step)⟩
                        · rw [if_neg c14] at H
                          have c14b0 : decide (0 < x6_1) = false := decide_eq_false c14
                          clear c14
                          simp only [Option.some.injEq, Prod.mk.injEq] at H
                          obtain ⟨rfl, rfl, rfl⟩ := H
                          go_wp2
                          go_ret3
                          exact ⟨by first | rfl | (simp; done) | (simp only [← hji10, ← hji12] <;> (first | rfl | simp)) | (simp [*]; done), by repeat (first | exact Drawn0.refl _ | apply Drawn0.step)⟩
                      · rw [if_neg c13] at H
                        have c13b0 : decide ((IntKind.u64.wrap (bt a0 x6_1)) < 128) = false := decide_eq_false c13
                        clear c13
                        have H' := Aside0.mk H
                        clear H
                        go_wp2
                        go_roundg kj6
                        case measure => have := HK1.out; have := HJ6.out; omega
                        case rel => exact ⟨(Go.bits .or .u64 x5_1 (ji12)), (wrap64 (x6_1 + 1)), (by first | rfl | (simp; done) | (simp only [← hji12] <;> (first | rfl | simp)) | (simp [*]; done)), (by first | rfl | (simp; done) | (simp [*]; done)), H', ⟨by have := HK1.out; have := HJ6.out; omega⟩, by repeat (first | exact Drawn0.refl _ | apply Drawn0.step)⟩
                    · rw [if_neg c11] at H
                      exact absurd H (by simp)
            · rw [if_neg c5] at H
              exact absurd H (by simp)
          · rw [if_neg c4] at H
            exact absurd H (by simp)
      · rw [if_neg c2] at H
        have c2b0 : decide (x6_1 < 10) = false := decide_eq_false c2
        clear c2
        simp only [Option.some.injEq, Prod.mk.injEq] at H
        obtain ⟨rfl, rfl, rfl⟩ := H
        go_wp2
        go_ret3
        exact ⟨by first | rfl | (simp; done) | (simp [*]; done), by repeat (first | exact Drawn0.refl _ | apply Drawn0.step)⟩

end Go.Proofs.Ytolncaccemfbdaa.PPk

/- Printed by a program of this session (drv.py) from the translation of this seat: functions, their contracts, rows. -/
namespace Go.Proofs.Ytolncaccemfbdaa.PPk
open Go.RowKit Go.Proofs.YtolncaccemfbdaaW.PrintWords Go.Proofs.YtolncaccemfbdaaW.PrintLast Go.Proofs.YtolncaccemfbdaaW.PrintMore
attribute [local go_sem] max2_int min2_int max_two min_two max_three min_three max_four min_four   -- for this text's walks alone
set_option linter.unusedVariables false
set_option linter.unusedSimpArgs false

/-! ### concordanceref1_Num: function 59 -/
def concordanceref1_Num.l0 : Nat → Int → List Int → Option (ByteArray)
  | 0, _, _ => none
  | k + 1, x0, x3 => if x0 > 127 then (if x3.length < 140737488355328 then (concordanceref1_Num.l0 k (x0 / 128) (x3 ++ [Go.bits .or .u8 ((x0) % 256) 128])) else (none)) else (if x3.length < 140737488355328 then (some (strOfNums (x3 ++ [(x0) % 256]))) else (none))
def concordanceref1_Num.f (k : Nat) (a0 : Int) : Option (ByteArray) := concordanceref1_Num.l0 k a0 ([] : List Int)
theorem concordanceref1_Num.mono_l : ∀ k, (∀ y0 y1, LeO (concordanceref1_Num.l0 k y0 y1) (concordanceref1_Num.l0 (k + 1) y0 y1))
  | 0 => fun _ _ r h => by simp [concordanceref1_Num.l0] at h
  | k + 1 => by
    have ih0 := concordanceref1_Num.mono_l k
    · intro y0 y1
      unfold concordanceref1_Num.l0
      repeat' first
      | (with_reducible exact ih0 _ _)
      | (with_reducible exact LeO.refl _)
      | (with_reducible exact LeO.none _)
      | (with_reducible refine LeO.ite ?_ ?_)
      | (with_reducible refine LeO.bind ?_ (fun _ => ?_))
      | exact ih0 _ _
      | exact LeO.none _
      | refine LeO.ite ?_ ?_
      | refine LeO.bind ?_ (fun _ => ?_)
theorem concordanceref1_Num.mono : ∀ a0 k, LeO (concordanceref1_Num.f k a0) (concordanceref1_Num.f (k + 1) a0) := by
  intro a0 k
  have ih0 := concordanceref1_Num.mono_l k
  unfold concordanceref1_Num.f
  repeat' first
      | (with_reducible exact ih0 _ _)
      | (with_reducible exact LeO.refl _)
      | (with_reducible exact LeO.none _)
      | (with_reducible refine LeO.ite ?_ ?_)
      | (with_reducible refine LeO.bind ?_ (fun _ => ?_))
      | exact ih0 _ _
      | exact LeO.none _
      | refine LeO.ite ?_ ?_
      | refine LeO.bind ?_ (fun _ => ?_)
set_option maxHeartbeats 8000000 in
set_option maxRecDepth 100000 in
theorem concordanceref1_Num.calls (k : Nat) (a0 : Int) (r : ByteArray) (w : World) (h : concordanceref1_Num.f k a0 = some r) :
    Calls Try.prog 59 #[.int .u64 a0] w fun e w' => e = .returned (.string r) ∧ Below w.heap.size w w' := by
  have HB := Aside0.mk (Below.refl w.heap.size w)
  have H : (concordanceref1_Num.l0 k a0 ([] : List Int)) = some r := h
  clear h
  have H' := Aside0.mk H
  clear H
  go_enter Try.func59, Try.ntmps59
  go_wp2
  go_loopg [0, 3] k (fun kq v0 v3 w' => ∃ (x0_1 : Int) (x3_1 : List Int), v0 = .int .u64 x0_1 ∧ Aside0 (concordanceref1_Num.l0 kq x0_1 x3_1 = some r) ∧ Aside0 (kq ≤ k) ∧ Aside0 (Kd.R (Kd.int .u8) 5 w' w.heap.size (fun _ => True) v3 x3_1) ∧ Aside0 (Below w.heap.size w w'))
  case atStart => exact ⟨(a0), (([] : List Int)), (by first | rfl | (simp; done) | (simp [*]; done)), H', ⟨Nat.le_refl _⟩, ⟨by first | exact Kd.R_nil _ _ _ _ _ | exact Kd.N_nil _ _ _ _ _ | exact Kd.V_nil _ _ _ _ _ | exact Kd.Q_nil _ _ _ _ _ | exact Kd.S_nil _ _ _ _ _⟩, ⟨by repeat (first | (with_reducible first | exact HB.out | apply below_alloc | apply pw_below_drewN | apply below_drew1) | exact HB.out)⟩⟩
  case round =>
    clear H'
    obtain ⟨x0_1, x3_1, rfl, HA, HK1, HO_3, HB⟩ := hrel
    cases gk with
    | zero => exact absurd HA.out (by simp [concordanceref1_Num.l0])
    | succ k1 =>
      have H := HA.out
      clear HA
      simp only [concordanceref1_Num.l0] at H
      by_cases c2 : x0_1 > 127
      · rw [if_pos c2] at H
        have c2b0 : decide (127 < x0_1) = true := decide_eq_true c2
        clear c2
        by_cases c3 : x3_1.length < 140737488355328
        · rw [if_pos c3] at H
          have LMc3 := Aside0.mk c3
          clear c3
          obtain ⟨y120, hy120⟩ : ∃ y_ : List Int, y_ = (x3_1 ++ [Go.bits .or .u8 ((x0_1) % 256) 128]) := ⟨_, rfl⟩
          replace H : (concordanceref1_Num.l0 k1 (x0_1 / 128) y120) = some r := by first | (rw [hy120]; with_reducible exact H) | (have H2_ := (Option.bind_some _ _).symm.trans H; rw [hy120]; with_reducible exact H2_) | (have H2_ := (Option.bind_some _ _).symm.trans H; with_reducible exact H2_) | with_reducible exact H | (rw [hy120]; exact H) | exact H
          have Ny120 := Aside0.mk hy120
          clear hy120
          have H' := Aside0.mk H
          clear H
          go_wp2_with (first | ((with_reducible refine gate_builtin (b := .append) (xs := #[.tmp 6, .tmp 10]) rfl ?_); at_builtin; refine Kd.R_append (Kd.int .u8) (w0 := w) w.heap.size rfl (.tmp 6) (.tmp 10) 23 5 (.int .u8 0) 1 rfl Try.underlying23 info5 rfl (by decide) (by omega) u3 x3_1 (Go.bits .or .u8 ((x0_1) % 256) 128) [.int .u8 (Go.bits .or .u8 ((x0_1) % 256) 128)] (fun _ => True) (fun _ => False) rfl rfl ?aP (fun _ hk => hk.elim) ?aF ?aO ?aB ?aS ?aL ?_; (case aP => exact rfl); (case aB => exact (by repeat (first | (with_reducible first | exact HB.out | apply below_alloc | apply pw_below_drewN | apply below_drew1) | exact HB.out))); (case aF => exact (fun _ _ => trivial)); (case aO => exact (by (with_reducible repeat (first | apply Kd.R_alloc | apply Kd.R_drewN | apply Kd.R_drew)); exact HO_3.out)); (case aS => exact (below_size (by repeat (first | (with_reducible first | exact HB.out | apply below_alloc | apply pw_below_drewN | apply below_drew1) | exact HB.out)))); (case aL => have := LMc3.out; omega); intro v121 w4 ho hb hg hat; rw [← Ny120.out] at ho; have n0_ := Aside0.mk (hb); have n1_ := Aside0.mk (ho); clear HB; clear HO_3; have HB := n0_; have HO122 := n1_; clear n0_ n1_; clear ho hb hg hat))
          go_roundg k1
          case measure => have := HK1.out; omega
          case rel => exact ⟨(x0_1 / 128), (y120), (by first | rfl | (simp; done) | (simp [*]; done)), H', ⟨by have := HK1.out; omega⟩, ⟨by (with_reducible repeat (first | apply Kd.R_alloc | apply Kd.R_drewN | apply Kd.R_drew)); exact HO122.out⟩, ⟨by repeat (first | (with_reducible first | exact HB.out | apply below_alloc | apply pw_below_drewN | apply below_drew1) | exact HB.out)⟩⟩
        · rw [if_neg c3] at H
          exact absurd H (by simp)
      · rw [if_neg c2] at H
        have c2b0 : decide (127 < x0_1) = false := decide_eq_false c2
        clear c2
        by_cases c5 : x3_1.length < 140737488355328
        · rw [if_pos c5] at H
          have LMc5 := Aside0.mk c5
          clear c5
          obtain ⟨y123, hy123⟩ : ∃ y_ : List Int, y_ = (x3_1 ++ [(x0_1) % 256]) := ⟨_, rfl⟩
          replace H : (some (strOfNums y123)) = some r := by first | (rw [hy123]; with_reducible exact H) | (have H2_ := (Option.bind_some _ _).symm.trans H; rw [hy123]; with_reducible exact H2_) | (have H2_ := (Option.bind_some _ _).symm.trans H; with_reducible exact H2_) | with_reducible exact H | (rw [hy123]; exact H) | exact H
          have Ny123 := Aside0.mk hy123
          clear hy123
          obtain rfl := Option.some.inj H
          go_wp2_with (first | ((with_reducible refine gate_builtin (b := .append) (xs := #[.tmp 14, .tmp 17]) rfl ?_); at_builtin; refine Kd.R_append (Kd.int .u8) (w0 := w) w.heap.size rfl (.tmp 14) (.tmp 17) 23 5 (.int .u8 0) 1 rfl Try.underlying23 info5 rfl (by decide) (by omega) u3 x3_1 ((x0_1) % 256) [.int .u8 ((x0_1) % 256)] (fun _ => True) (fun _ => False) rfl rfl ?aP (fun _ hk => hk.elim) ?aF ?aO ?aB ?aS ?aL ?_; (case aP => exact rfl); (case aB => exact (by repeat (first | (with_reducible first | exact HB.out | apply below_alloc | apply pw_below_drewN | apply below_drew1) | exact HB.out))); (case aF => exact (fun _ _ => trivial)); (case aO => exact (by (with_reducible repeat (first | apply Kd.R_alloc | apply Kd.R_drewN | apply Kd.R_drew)); exact HO_3.out)); (case aS => exact (below_size (by repeat (first | (with_reducible first | exact HB.out | apply below_alloc | apply pw_below_drewN | apply below_drew1) | exact HB.out)))); (case aL => have := LMc5.out; omega); intro v124 w6 ho hb hg hat; rw [← Ny123.out] at ho; have n0_ := Aside0.mk (hb); have n1_ := Aside0.mk (ho); clear HB; clear HO_3; have HB := n0_; have HO125 := n1_; clear n0_ n1_; clear ho hb hg hat; have hcv7 := own_string (P := Try.prog) Try.underlying23 Try.underlying5 Try.underlying9 (Kd.own_of_R HO125.out); have hcvd7 := fun nd_ : Nat => own_string (P := Try.prog) Try.underlying23 Try.underlying5 Try.underlying9 (Kd.own_of_R (Kd.R_drewN HO125.out nd_))))
          go_ret
          exact ⟨by first | rfl | (simp [errW_none, errW_some] <;> rfl) | (simp [*, errW_none, errW_some] <;> rfl), by repeat (first | (with_reducible first | exact HB.out | apply below_alloc | apply pw_below_drewN | apply below_drew1) | exact HB.out)⟩
        · rw [if_neg c5] at H
          exact absurd H (by simp)

end Go.Proofs.Ytolncaccemfbdaa.PPk

/- Plain facts on numbers as bytes, without any program: the groups of seven bits of a number (encN), the bytes of a fixed size (fixL), and what reads them again. -/
namespace Go.Proofs.Ytolncaccemfbdaa.Plain

/-- The document's encoding: groups of seven bits, the least first. -/
def encN (n : Nat) : List Int := if h : n < 128 then [(n : Int)] else ((n % 128 + 128 : Nat) : Int) :: encN (n / 128)
termination_by n
decreasing_by omega

theorem encN_lt {n : Nat} (h : n < 128) : encN n = [(n : Int)] := by rw [encN, dif_pos h]
theorem encN_ge {n : Nat} (h : 128 ≤ n) : encN n = ((n % 128 + 128 : Nat) : Int) :: encN (n / 128) := by rw [encN, dif_neg (by omega)]
theorem or128 (x : Int) (h : 0 ≤ x) : Go.bits .or .u8 (x % 256) 128 = ((x.toNat % 128 + 128 : Nat) : Int) := by
  obtain ⟨n, rfl⟩ := Int.eq_ofNat_of_zero_le h
  have e : ((n : Int) % 256) = ((n % 256 : Nat) : Int) := by omega
  rw [e, show (128 : Int) = ((128 : Nat) : Int) from rfl, Go.u8_or_nat _ 128 (by omega) (by omega), Int.toNat_natCast]
  have k : ∀ m : Nat, m < 256 → m ||| 128 = m % 128 + 128 := by decide +kernel
  rw [k _ (by omega)]
  congr 2
  omega
theorem encN_step {x : Int} (h : 128 ≤ x) : encN x.toNat = Go.bits .or .u8 (x % 256) 128 :: encN (x / 128).toNat := by
  rw [encN_ge (by omega), or128 x (by omega)]
  congr 2
  omega
theorem encN_last {x : Int} (h0 : 0 ≤ x) (h : x < 128) : encN x.toNat = [x % 256] := by
  rw [encN_lt (by omega)]
  congr 1
  omega

theorem encN_length_le (k : Nat) : ∀ n : Nat, n < 2 ^ (7 * k + 7) → (encN n).length ≤ k + 1 := by
  induction k with
  | zero =>
    intro n h
    rw [encN_lt (by omega)]
    simp
  | succ k ih =>
    intro n h
    by_cases hn : n < 128
    · rw [encN_lt hn]; simp
    · rw [encN_ge (by omega)]
      have := ih (n / 128) (by
        rw [Nat.div_lt_iff_lt_mul (by omega)]
        have e : 2 ^ (7 * (k + 1) + 7) = 2 ^ (7 * k + 7) * 128 := by rw [show 7 * (k + 1) + 7 = (7 * k + 7) + 7 from by omega, Nat.pow_add]
        omega)
      simp only [List.length_cons]
      omega
theorem encN_len64 {n : Nat} (h : n < 18446744073709551616) : (encN n).length ≤ 10 := encN_length_le 9 n (by omega)
theorem encN_pos (n : Nat) : 0 < (encN n).length := by
  rw [encN]
  split <;> simp

/-- The size lowest bytes of a number, the greatest first. -/
def fixL (n : Nat) : Nat → List Int
  | 0 => []
  | s + 1 => ((n / 256 ^ s % 256 : Nat) : Int) :: fixL n s
theorem fixL_length (n s : Nat) : (fixL n s).length = s := by
  induction s with
  | zero => rfl
  | succ s ih => simp [fixL, ih]

theorem fixL_step (n : Nat) {i : Int} (h : 0 ≤ i) : fixL n (i + 1).toNat = ((n : Int) / 2 ^ (8 * i).toNat % 256) :: fixL n i.toNat := by
  obtain ⟨m, rfl⟩ := Int.eq_ofNat_of_zero_le h
  rw [show ((m : Int) + 1).toNat = m + 1 from by omega, show (8 * (m : Int)).toNat = 8 * m from by omega, Int.toNat_natCast]
  show ((n / 256 ^ m % 256 : Nat) : Int) :: fixL n m = _
  congr 1
  rw [show (256 : Nat) = 2 ^ 8 from rfl, ← Nat.pow_mul]
  rw [Int.natCast_emod, Int.natCast_ediv, Int.natCast_pow]
  rfl
/-- What a row of bytes tells, the greatest first, behind n. -/
def valB (n : Nat) : List Int → Nat
  | [] => n
  | c :: r => valB (n * 256 + c.toNat) r

/-- What a row of bytes begins with, from group i on, n being told so far: the number, its size, the error (4: it ends; 3: it is none). -/
def takeL : Nat → Nat → List Int → Int × Int × Int
  | _, _, [] => (0, 0, 4)
  | i, n, c :: r => if i = 9 ∧ c > 1 then (0, 0, 3) else if c < 128 then (if c = 0 ∧ i > 0 then (0, 0, 3) else (((n + c.toNat * 128 ^ i : Nat) : Int), (i : Int) + 1, 0)) else takeL (i + 1) (n + c.toNat % 128 * 128 ^ i) r
def takeT (l : List Int) : Int × Int × Int := takeL 0 0 l

theorem encN_take_go (m : Nat) : ∀ (i n : Nat) (r : List Int), n < 128 ^ i → i ≤ 9 → n + m * 128 ^ i < 18446744073709551616 → (0 < m ∨ i = 0) → takeL i n (encN m ++ r) = (((n + m * 128 ^ i : Nat) : Int), (i : Int) + (encN m).length, 0) := by
  induction m using Nat.strongRecOn with
  | _ m ih =>
    intro i n r hn hi hlt hpos
    have hp : 0 < 128 ^ i := Nat.pow_pos (by omega)
    by_cases hm : m < 128
    · rw [encN_lt hm]
      simp only [List.cons_append, List.nil_append, takeL]
      rw [if_neg (by
        rintro ⟨rfl, h1⟩
        have : m * 128 ^ 9 < 18446744073709551616 := by omega
        have e : (128 : Nat) ^ 9 = 9223372036854775808 := by decide
        rw [e] at this
        omega), if_pos (by omega), if_neg (by omega), Int.toNat_natCast]
      simp
    · rw [encN_ge (by omega)]
      simp only [List.cons_append, takeL]
      have hi9 : i < 9 := by
        rcases Nat.lt_or_ge i 9 with h | h
        · exact h
        · have : i = 9 := by omega
          subst this
          have e : (128 : Nat) ^ 9 = 9223372036854775808 := by decide
          rw [e] at hlt
          omega
      rw [if_neg (by omega), if_neg (by omega), Int.toNat_natCast]
      have e1 : (m % 128 + 128) % 128 = m % 128 := by omega
      have e2 : 128 ^ (i + 1) = 128 * 128 ^ i := by rw [Nat.pow_succ, Nat.mul_comm]
      have e3 : n + m % 128 * 128 ^ i + m / 128 * 128 ^ (i + 1) = n + m * 128 ^ i := by
        rw [e2, ← Nat.mul_assoc, Nat.add_assoc, ← Nat.add_mul]
        congr 2
        omega
      rw [e1, ih (m / 128) (by omega) (i + 1) _ r ?_ (by omega) (by rw [e3]; exact hlt) (by omega), e3]
      · simp only [List.length_cons, Prod.mk.injEq, true_and, and_true]
        omega
      · rw [e2]
        have : m % 128 * 128 ^ i ≤ 127 * 128 ^ i := Nat.mul_le_mul_right _ (by omega)
        omega
/-- Taken is what was put. -/
theorem encN_take {m : Nat} (h : m < 18446744073709551616) (r : List Int) : takeT (encN m ++ r) = ((m : Int), ((encN m).length : Int), 0) := by
  unfold takeT
  rw [encN_take_go m 0 0 r (by simp) (by omega) (by simpa using h) (.inr rfl)]
  simp

/-- An encoding that is cut is torn. -/
theorem encN_torn_go (m : Nat) : ∀ (i n : Nat) (k : Nat), i ≤ 9 → n + m * 128 ^ i < 18446744073709551616 → k < (encN m).length → takeL i n ((encN m).take k) = (0, 0, 4) := by
  induction m using Nat.strongRecOn with
  | _ m ih =>
    intro i n k hi hlt hk
    cases k with
    | zero => rw [List.take_zero]; rfl
    | succ k =>
      by_cases hm : m < 128
      · rw [encN_lt hm] at hk
        simp at hk
      · rw [encN_ge (by omega)] at hk ⊢
        simp only [List.take_succ_cons, takeL]
        have hi9 : i < 9 := by
          rcases Nat.lt_or_ge i 9 with h | h
          · exact h
          · have : i = 9 := by omega
            subst this
            have e : (128 : Nat) ^ 9 = 9223372036854775808 := by decide
            rw [e] at hlt
            omega
        rw [if_neg (by omega), if_neg (by omega), Int.toNat_natCast]
        have e1 : (m % 128 + 128) % 128 = m % 128 := by omega
        have e2 : 128 ^ (i + 1) = 128 * 128 ^ i := by rw [Nat.pow_succ, Nat.mul_comm]
        have e3 : n + m % 128 * 128 ^ i + m / 128 * 128 ^ (i + 1) = n + m * 128 ^ i := by
          rw [e2, ← Nat.mul_assoc, Nat.add_assoc, ← Nat.add_mul]
          congr 2
          omega
        rw [e1]
        exact ih (m / 128) (by omega) (i + 1) _ k (by omega) (by rw [e3]; exact hlt) (by simpa using hk)
theorem encN_torn {m : Nat} (h : m < 18446744073709551616) {k : Nat} (hk : k < (encN m).length) : takeT ((encN m).take k) = (0, 0, 4) :=
  encN_torn_go m 0 0 k (by omega) (by simpa using h) hk

theorem encN_bytes (m : Nat) : ∀ x ∈ encN m, 0 ≤ x ∧ x < 256 := by
  induction m using Nat.strongRecOn with
  | _ m ih =>
    intro x hx
    by_cases hm : m < 128
    · rw [encN_lt hm] at hx
      simp at hx
      omega
    · rw [encN_ge (by omega)] at hx
      rcases List.mem_cons.1 hx with rfl | hx
      · omega
      · exact ih (m / 128) (by omega) x hx
end Go.Proofs.Ytolncaccemfbdaa.Plain

/- Plain facts on rows of bytes and on whole numbers of a kind, without any program. -/
namespace Go.Proofs.Ytolncaccemfbdaa.Plain
open Go.RowKit Go.Proofs.YtolncaccemfbdaaW.PrintWords Go.Proofs.YtolncaccemfbdaaW.PrintLast Go.Proofs.YtolncaccemfbdaaW.PrintMore
set_option linter.unusedVariables false
set_option linter.unusedSimpArgs false

def isB (l : List Int) : Prop := ∀ x ∈ l, 0 ≤ x ∧ x < 256
theorem w64 {x : Int} (h0 : -9223372036854775808 ≤ x) (h1 : x < 9223372036854775808) : wrap64 x = x := by unfold wrap64; omega
theorem wrap_u64 (n : Int) : IntKind.u64.wrap n = n % 18446744073709551616 := by simp [IntKind.wrap, IntKind.bits, IntKind.signed]
theorem rd_at (l : List Int) (i : Nat) (h : i < l.length) : rd l (i : Int) = l[i] := by
  unfold rd
  rw [Int.toNat_natCast, List.getD_eq_getElem?_getD, List.getElem?_eq_getElem h]
  rfl

theorem isB_drop {l : List Int} (h : isB l) (i : Nat) : isB (l.drop i) := fun x hx => h x (List.mem_of_mem_drop hx)
theorem isB_take {l : List Int} (h : isB l) (i : Nat) : isB (l.take i) := fun x hx => h x (List.mem_of_mem_take hx)
theorem isB_append {l r : List Int} (h : isB l) (h' : isB r) : isB (l ++ r) := fun x hx => (List.mem_append.1 hx).elim (h x) (h' x)
theorem isB_bytesOf (s : ByteArray) : isB (bytesOf s) := by
  intro x hx
  obtain ⟨b, _, rfl⟩ := List.mem_map.1 hx
  have := b.toNat_lt
  omega
theorem bytesOf_strOfNums {l : List Int} (h : isB l) : bytesOf (strOfNums l) = l := by
  unfold bytesOf
  rw [strOfNums_data, List.map_map]
  conv => rhs; rw [← List.map_id l]
  refine List.map_congr_left fun x hx => ?_
  have := h x hx
  show (((UInt8.ofNat x.toNat).toNat : Nat) : Int) = x
  rw [UInt8.toNat_ofNat']
  omega
theorem strOfNums_inj {l r : List Int} (h : isB l) (h' : isB r) (e : (strOfNums l).toList = (strOfNums r).toList) : l = r := by
  have := congrArg (fun s : List UInt8 => s.map fun b => (b.toNat : Int)) e
  rw [ByteArray.toList_eq, ByteArray.toList_eq] at this
  have e2 : bytesOf (strOfNums l) = bytesOf (strOfNums r) := this
  rwa [bytesOf_strOfNums h, bytesOf_strOfNums h'] at e2
theorem strOfNums_append (l r : List Int) : strOfNums l ++ strOfNums r = strOfNums (l ++ r) := by
  apply ByteArray.ext
  rw [ByteArray.data_append]
  apply Array.ext'
  simp [strOfNums]

theorem wf_i64 {a : Int} (h : (Lit.int .i64 a).wf = true) : -9223372036854775808 ≤ a ∧ a < 9223372036854775808 := by
  have h : IntKind.i64.min ≤ a ∧ a ≤ IntKind.i64.max := by simpa [Lit.wf] using h
  rw [show IntKind.i64.min = -9223372036854775808 from by decide, show IntKind.i64.max = 9223372036854775807 from by decide] at h
  omega
theorem wf_u64 {a : Int} (h : (Lit.int .u64 a).wf = true) : 0 ≤ a ∧ a < 18446744073709551616 := by
  have h : IntKind.u64.min ≤ a ∧ a ≤ IntKind.u64.max := by simpa [Lit.wf] using h
  rw [show IntKind.u64.min = 0 from by decide, show IntKind.u64.max = 18446744073709551615 from by decide] at h
  omega
theorem wf_u8 {a : Int} (h : (Lit.int .u8 a).wf = true) : 0 ≤ a ∧ a < 256 := by
  have h : IntKind.u8.min ≤ a ∧ a ≤ IntKind.u8.max := by simpa [Lit.wf] using h
  rw [show IntKind.u8.min = 0 from by decide, show IntKind.u8.max = 255 from by decide] at h
  omega

theorem wf_u32 {a : Int} (h : (Lit.int .u32 a).wf = true) : 0 ≤ a ∧ a < 4294967296 := by
  have h : IntKind.u32.min ≤ a ∧ a ≤ IntKind.u32.max := by simpa [Lit.wf] using h
  rw [show IntKind.u32.min = 0 from by decide, show IntKind.u32.max = 4294967295 from by decide] at h
  omega
/-- A row of low bits, taken out of a whole number. -/
theorem and_low (a : Int) (j : Nat) (hj : j < 63) : Go.bits .and .i64 a ((2 ^ j - 1 : Nat) : Int) = a % ((2 ^ j : Nat) : Int) := by
  show IntKind.i64.wrap ((BitVec.ofInt 64 a &&& BitVec.ofInt 64 ((2 ^ j - 1 : Nat) : Int)).toNat : Int) = _
  have hp : 2 ^ j ≤ 2 ^ 62 := Nat.pow_le_pow_right (by omega) (by omega)
  have hp0 : 0 < 2 ^ j := Nat.pow_pos (by omega)
  have e : (BitVec.ofInt 64 a &&& BitVec.ofInt 64 ((2 ^ j - 1 : Nat) : Int)).toNat = (a % 18446744073709551616).toNat % 2 ^ j := by
    rw [BitVec.toNat_and, BitVec.toNat_ofInt, Go.ofInt_u64 _ (by omega)]
    exact Nat.and_two_pow_sub_one_eq_mod _ j
  have hd : (2 : Int) ^ 64 = ((2 ^ j : Nat) : Int) * ((2 ^ (64 - j) : Nat) : Int) := by
    rw [← Int.natCast_mul, ← Nat.pow_add, show j + (64 - j) = 64 from by omega]
    rfl
  have hm : a % 18446744073709551616 % ((2 ^ j : Nat) : Int) = a % ((2 ^ j : Nat) : Int) := by
    refine Int.emod_emod_of_dvd a ⟨((2 ^ (64 - j) : Nat) : Int), ?_⟩
    rw [← hd]
    rfl
  have h0 : 0 ≤ a % ((2 ^ j : Nat) : Int) := Int.emod_nonneg _ (by omega)
  have h1 : a % ((2 ^ j : Nat) : Int) < ((2 ^ j : Nat) : Int) := Int.emod_lt_of_pos _ (by omega)
  rw [e]
  have e2 : (((a % 18446744073709551616).toNat % 2 ^ j : Nat) : Int) = a % ((2 ^ j : Nat) : Int) := by
    rw [Int.natCast_emod, Int.toNat_of_nonneg (by omega), hm]
  rw [e2, Go.IntKind.wrap_i64]
  generalize a % ((2 ^ j : Nat) : Int) = q at h0 h1
  generalize 2 ^ j = p at hp h1
  omega
end Go.Proofs.Ytolncaccemfbdaa.Plain

/- Plain facts on the printed num.Take and on the document's Take and Num: what a row of bytes begins with. -/
namespace Go.Proofs.Ytolncaccemfbdaa.Plain
open Go.RowKit Go.Proofs.YtolncaccemfbdaaW.PrintWords Go.Proofs.YtolncaccemfbdaaW.PrintLast Go.Proofs.YtolncaccemfbdaaW.PrintMore
open Go.Proofs.Ytolncaccemfbdaa.PPk
set_option linter.unusedVariables false
set_option linter.unusedSimpArgs false
theorem shl7 (x i : Nat) (hi : i ≤ 9) (hx : x * 128 ^ i < 18446744073709551616) : shl .u64 (x : Int) (7 * (i : Int)) = ((x * 128 ^ i : Nat) : Int) := by
  unfold shl
  rw [show IntKind.u64.bits = 64 from rfl, show min (7 * (i : Int)).toNat 64 = 7 * i from by omega]
  have e : (2 : Nat) ^ (7 * i) = 128 ^ i := by rw [Nat.pow_mul]
  rw [show (2 : Int) ^ (7 * i) = ((128 ^ i : Nat) : Int) from by rw [← e, Int.natCast_pow]; rfl, ← Int.natCast_mul, wrap_u64]
  omega
theorem and127 (c : Nat) (hc : c < 256) : Go.bits .and .u8 (c : Int) 127 = ((c % 128 : Nat) : Int) := by
  rw [show (127 : Int) = ((127 : Nat) : Int) from rfl, Go.u8_and_nat _ 127 hc (by omega), Go.nat_mask7]
theorem or_join (n x i : Nat) (hn : n < 128 ^ i) (h : n + x * 128 ^ i < 18446744073709551616) : Go.bits .or .u64 (n : Int) ((x * 128 ^ i : Nat) : Int) = ((n + x * 128 ^ i : Nat) : Int) := by
  rw [Go.u64_or_nat _ _ (by omega) (by omega), Nat.or_comm]
  congr 1
  rw [show 128 ^ i = 2 ^ (7 * i) from by rw [Nat.pow_mul]] at *
  rw [Go.nat_join (7 * i) _ _ (Nat.mul_mod_left _ _) hn, Nat.add_comm]

/-- One group more, as the machine reckons it. -/
theorem take_or (n c i : Nat) (hi : i ≤ 9) (hn : n < 128 ^ i) (hc : c < 256) (h9 : i = 9 → c ≤ 1) :
    Go.bits .or .u64 (n : Int) (shl .u64 (IntKind.u64.wrap (Go.bits .and .u8 (c : Int) 127)) (7 * (i : Int))) = ((n + c % 128 * 128 ^ i : Nat) : Int) := by
  have hb : n + c % 128 * 128 ^ i < 18446744073709551616 := by
    rcases Nat.lt_or_ge i 9 with h | h
    · have h1 : c % 128 * 128 ^ i ≤ 127 * 128 ^ i := Nat.mul_le_mul_right _ (by omega)
      have h2 : 128 ^ i ≤ 128 ^ 8 := Nat.pow_le_pow_right (by omega) (by omega)
      have e : (128 : Nat) ^ 8 = 72057594037927936 := by decide
      rw [e] at h2
      omega
    · have : i = 9 := by omega
      subst this
      have h1 := h9 rfl
      have e : (128 : Nat) ^ 9 = 9223372036854775808 := by decide
      rw [e] at hn ⊢
      have : c % 128 ≤ 1 := by omega
      have : c % 128 * 9223372036854775808 ≤ 1 * 9223372036854775808 := Nat.mul_le_mul_right _ this
      omega
  rw [and127 c hc, wrap_u64, show ((c % 128 : Nat) : Int) % 18446744073709551616 = ((c % 128 : Nat) : Int) from by omega, shl7 _ _ hi (by omega), or_join _ _ _ hn hb]

theorem take_next (n c i : Nat) (hi : i < 9) (hn : n < 128 ^ i) : n + c % 128 * 128 ^ i < 128 ^ (i + 1) := by
  have e2 : 128 ^ (i + 1) = 128 * 128 ^ i := by rw [Nat.pow_succ, Nat.mul_comm]
  have : c % 128 * 128 ^ i ≤ 127 * 128 ^ i := Nat.mul_le_mul_right _ (by omega)
  omega

theorem num_take_l0 (l : List Int) (hb : isB l) : ∀ (d i n k : Nat), i + d = 10 → i ≤ 9 → n < 128 ^ i → i ≤ l.length → 2 * d < k →
    num_Take.l0 k l (n : Int) (i : Int) = some (takeL i n (l.drop i)) := by
  intro d
  induction d with
  | zero =>
    intro i n k hd hi hn hl hk
    omega
  | succ d ih =>
    intro i n k hd hi hn hl hk
    obtain ⟨k, rfl⟩ : ∃ m, k = m + 1 := ⟨k - 1, by omega⟩
    obtain ⟨k, rfl⟩ : ∃ m, k = m + 1 := ⟨k - 1, by omega⟩
    simp only [num_Take.l0]
    rw [if_pos (by omega)]
    by_cases h1 : (i : Int) ≥ (l.length : Int)
    · rw [if_pos h1, List.drop_of_length_le (by omega)]
      rfl
    · have hlt : i < l.length := by omega
      rw [if_neg h1, if_pos (by omega), if_pos (by omega), List.drop_eq_getElem_cons hlt, rd_at l i hlt]
      obtain ⟨c, hc⟩ := Int.eq_ofNat_of_zero_le (hb l[i] (List.getElem_mem hlt)).1
      have hc2 := (hb l[i] (List.getElem_mem hlt)).2
      rw [hc] at hc2 ⊢
      simp only [takeL]
      have e1 : wrap64 (7 * (i : Int)) = 7 * (i : Int) := w64 (by omega) (by omega)
      have e2 : wrap64 ((i : Int) + 1) = ((i + 1 : Nat) : Int) := by rw [w64 (by omega) (by omega)]; omega
      by_cases h9 : i = 9 ∧ (c : Int) > 1
      · rw [if_pos h9, if_pos (by omega)]
        simp only [num_Take.j1]
        rw [if_pos (by simpa using h9.2)]
      · rw [if_neg h9]
        have hj : ∀ b : Bool, b = false → num_Take.j1 (k + 1) l (n : Int) (i : Int) (c : Int) (i : Int) b = some (if (c : Int) < 128 then (if (c : Int) = 0 ∧ i > 0 then (0, 0, 3) else (((n + (c : Int).toNat * 128 ^ i : Nat) : Int), (i : Int) + 1, 0)) else takeL (i + 1) (n + (c : Int).toNat % 128 * 128 ^ i) (l.drop (i + 1))) := by
          rintro _ rfl
          simp only [num_Take.j1]
          rw [if_neg (by decide), e1, e2, if_pos (by omega), take_or n c i (by omega) hn (by omega) (by omega), Int.toNat_natCast]
          by_cases h2 : (c : Int) < 128
          · rw [if_pos h2, if_pos h2]
            by_cases h3 : (c : Int) = 0
            · rw [if_pos h3]
              by_cases h4 : (i : Int) > 0
              · rw [if_pos h4, if_pos ⟨h3, by omega⟩]
              · rw [if_neg h4, if_neg (by omega), show c % 128 = c from by omega]
                rfl
            · rw [if_neg h3, if_neg (by omega), show c % 128 = c from by omega]
              rfl
          · rw [if_neg h2, if_neg h2]
            have hi9 : i < 9 := by omega
            exact ih (i + 1) _ k (by omega) (by omega) (take_next n c i hi9 hn) (by omega) (by omega)
        by_cases h5 : (i : Int) = 9
        · rw [if_pos h5]
          exact hj _ (by simp; omega)
        · rw [if_neg h5]
          exact hj _ rfl
/-- num.Take tells what the bytes begin with. -/
theorem num_take (l : List Int) (hb : isB l) {k : Nat} (hk : 21 ≤ k) : num_Take.f k l = some (takeT l) := by
  have := num_take_l0 l hb 10 0 0 k (by omega) (by omega) (by simp) (by omega) (by omega)
  rw [List.drop_zero] at this
  exact this

theorem ref_take_l0 (s : ByteArray) (hs : s.size ≤ 9223372036854775807) : ∀ (d i n k : Nat), i + d = 10 → i ≤ 9 → n < 128 ^ i → i ≤ s.size → 2 * d < k →
    concordanceref1_Take.l0 k s (n : Int) (i : Int) = some (takeL i n ((bytesOf s).drop i)) := by
  intro d
  have hb := isB_bytesOf s
  have hlen := bytesOf_length s
  have hbt := rd_bytesOf s
  generalize bytesOf s = l at hb hlen hbt ⊢
  have hsz : ∀ _ : Unit, s.size = l.length := fun _ => hlen.symm
  rw [hsz ()]
  clear hlen hs
  induction d with
  | zero =>
    intro i n k hd hi hn hl hk
    omega
  | succ d ih =>
    intro i n k hd hi hn hl hk
    obtain ⟨k, rfl⟩ : ∃ m, k = m + 1 := ⟨k - 1, by omega⟩
    obtain ⟨k, rfl⟩ : ∃ m, k = m + 1 := ⟨k - 1, by omega⟩
    simp only [concordanceref1_Take.l0]
    rw [hsz (), if_pos (by omega)]
    by_cases h1 : (i : Int) ≥ (l.length : Int)
    · rw [if_pos h1, List.drop_of_length_le (by omega)]
      rfl
    · have hlt : i < l.length := by omega
      rw [if_neg h1, if_pos (by omega), if_pos (by omega), List.drop_eq_getElem_cons hlt, ← hbt, rd_at _ i hlt]
      obtain ⟨c, hc⟩ := Int.eq_ofNat_of_zero_le (hb _ (List.getElem_mem hlt)).1
      have hc2 := (hb _ (List.getElem_mem hlt)).2
      rw [hc] at hc2 ⊢
      simp only [takeL]
      rw [wrap_u64, show (c : Int) % 18446744073709551616 = (c : Int) from by omega]
      have e1 : wrap64 (7 * (i : Int)) = 7 * (i : Int) := w64 (by omega) (by omega)
      have e2 : wrap64 ((i : Int) + 1) = ((i + 1 : Nat) : Int) := by rw [w64 (by omega) (by omega)]; omega
      by_cases h9 : i = 9 ∧ (c : Int) > 1
      · have h99 : (i : Int) = 9 := by rw [h9.1]; rfl
        rw [if_pos h9, if_pos h99]
        simp only [concordanceref1_Take.j1]
        rw [if_pos (by simpa using h9.2)]
      · rw [if_neg h9]
        have hj : ∀ b : Bool, b = false → concordanceref1_Take.j1 (k + 1) s (n : Int) (i : Int) (c : Int) b = some (if (c : Int) < 128 then (if (c : Int) = 0 ∧ i > 0 then (0, 0, 3) else (((n + (c : Int).toNat * 128 ^ i : Nat) : Int), (i : Int) + 1, 0)) else takeL (i + 1) (n + (c : Int).toNat % 128 * 128 ^ i) (l.drop (i + 1))) := by
          rintro _ rfl
          have hor := take_or n c i (by omega) hn (by omega) (by omega)
          rw [and127 c (by omega), wrap_u64, show ((c % 128 : Nat) : Int) % 18446744073709551616 = ((c % 128 : Nat) : Int) from by omega] at hor
          have h127 : Go.bits .and .u64 (c : Int) 127 = ((c % 128 : Nat) : Int) := by
            rw [show (127 : Int) = ((127 : Nat) : Int) from rfl, Go.u64_and_nat _ 127 (by omega) (by omega), Go.nat_mask7]
          simp only [concordanceref1_Take.j1]
          rw [if_neg (by decide), e1, e2, if_pos (by omega), h127, hor, Int.toNat_natCast]
          by_cases h2 : (c : Int) < 128
          · rw [if_pos h2, if_pos h2]
            by_cases h3 : (i : Int) > 0
            · rw [if_pos h3]
              by_cases h4 : (c : Int) = 0
              · rw [if_pos h4, if_pos ⟨h4, by omega⟩]
              · rw [if_neg h4, if_neg (by omega), show c % 128 = c from by omega]
                rfl
            · rw [if_neg h3, if_neg (by omega), show c % 128 = c from by omega]
              rfl
          · rw [if_neg h2, if_neg h2]
            have hi9 : i < 9 := by omega
            exact ih (i + 1) _ k (by omega) (by omega) (take_next n c i hi9 hn) (by omega) (by omega)
        by_cases h5 : (i : Int) = 9
        · rw [if_pos h5]
          exact hj _ (by simp; omega)
        · rw [if_neg h5]
          exact hj _ rfl
/-- The document's Take tells the same. -/
theorem ref_take (s : ByteArray) (hs : s.size ≤ 9223372036854775807) {k : Nat} (hk : 21 ≤ k) : concordanceref1_Take.f k s = some (takeT (bytesOf s)) := by
  have := ref_take_l0 s hs 10 0 0 k (by omega) (by omega) (by simp) (by omega) (by omega)
  rw [List.drop_zero] at this
  exact this
theorem ref_take_nums {l : List Int} (h : isB l) (hs : l.length ≤ 9223372036854775807) {k : Nat} (hk : 21 ≤ k) : concordanceref1_Take.f k (strOfNums l) = some (takeT l) := by
  rw [ref_take _ (by rw [strOfNums_size]; exact hs) hk, bytesOf_strOfNums h]

theorem ref_num_l0 : ∀ (k : Nat) (x : Int) (acc : List Int), 0 ≤ x → (encN x.toNat).length ≤ k → acc.length + k < 1000 → concordanceref1_Num.l0 k x acc = some (strOfNums (acc ++ encN x.toNat)) := by
  intro k
  induction k with
  | zero =>
    intro x acc hx hl hk
    have := encN_pos x.toNat
    omega
  | succ k ih =>
    intro x acc hx hl hk
    simp only [concordanceref1_Num.l0]
    by_cases h : x > 127
    · rw [if_pos h, if_pos (by omega), encN_step (by omega)]
      rw [encN_step (by omega)] at hl
      rw [ih (x / 128) _ (by omega) (by simpa using hl) (by simp; omega)]
      rw [List.append_assoc]
      rfl
    · rw [if_neg h, if_pos (by omega), encN_last hx (by omega)]
/-- The document's Num: the encoding. -/
theorem ref_num {x : Int} (h0 : 0 ≤ x) (h1 : x < 18446744073709551616) {k : Nat} (hk : 10 ≤ k) : concordanceref1_Num.f k x = some (strOfNums (encN x.toNat)) := by
  refine at_rounds (g := fun k => concordanceref1_Num.f k x) (concordanceref1_Num.mono (a0 := x)) hk ?_
  show concordanceref1_Num.l0 10 x [] = _
  rw [ref_num_l0 10 x [] h0 (encN_len64 (by omega)) (by simp)]
  rfl

theorem takeL_facts : ∀ (l : List Int) (i n : Nat), (takeL i n l).2.2 = 0 → 0 ≤ (takeL i n l).1 ∧ (i : Int) + 1 ≤ (takeL i n l).2.1 ∧ (takeL i n l).2.1 ≤ (i : Int) + l.length
  | [], i, n, h => by simp [takeL] at h
  | c :: r, i, n, h => by
    rw [takeL] at h ⊢
    by_cases h1 : i = 9 ∧ c > 1
    · rw [if_pos h1] at h
      simp at h
    rw [if_neg h1] at h ⊢
    by_cases h2 : c < 128
    · rw [if_pos h2] at h ⊢
      by_cases h3 : c = 0 ∧ i > 0
      · rw [if_pos h3] at h
        simp at h
      · rw [if_neg h3]
        simp only [List.length_cons]
        omega
    · rw [if_neg h2] at h ⊢
      have := takeL_facts r (i + 1) _ h
      rw [List.length_cons]
      omega
theorem takeT_facts {l : List Int} (h : (takeT l).2.2 = 0) : 0 ≤ (takeT l).1 ∧ 1 ≤ (takeT l).2.1 ∧ (takeT l).2.1 ≤ l.length := by
  have := takeL_facts l 0 0 h
  unfold takeT
  omega
end Go.Proofs.Ytolncaccemfbdaa.Plain

/- Contracts, proved by hand, of slices.Clone and slices.Clip at bytes: Clone hands back a row of the call's own with the same bytes (no more than 2^47 of them); Clip hands back what it is given, its capacity cut to its length. -/
namespace Go.Proofs.Ytolncaccemfbdaa.Hand
open Go.RowKit Go.Proofs.YtolncaccemfbdaaW.PrintWords Go.Proofs.YtolncaccemfbdaaW.PrintLast Go.Proofs.YtolncaccemfbdaaW.PrintMore
set_option linter.unusedVariables false
set_option linter.unusedSimpArgs false

theorem hinfo_u8 : (Try.prog.info? 5).map (fun i => (i.zero, i.size, i.bytes)) = some (some (.int .u8 0), 1, 1) := by kernel_rfl

theorem C_none {α : Type} {d : Kd α} {w : World} {n : Nat} {xs : List α} (h : d.C w none n xs) : n = 0 := by
  rcases Nat.eq_zero_or_pos n with h0 | h0
  · exact h0
  · obtain ⟨ad, e, _⟩ := h.2.2 h0
    cases e

set_option maxHeartbeats 800000 in
set_option maxRecDepth 100000 in
theorem clone_calls (A0 : Option Addr) (c0 : Nat) (l0 : List Int) (w : World) (hr0 : Kd.C (Kd.int .u8) w A0 l0.length l0) (hl : l0.length ≤ 140737488355328) :
    Calls Try.prog 63 #[.slice A0 l0.length c0] w fun e w' => ∃ v0_ : Value, e = .returned v0_ ∧ Kd.R (Kd.int .u8) 5 w' w.heap.size (fun _ => True) v0_ l0 ∧ Below w.heap.size w w' := by
  cases A0 with
  | none =>
    have h0 := C_none hr0
    obtain rfl : l0 = [] := List.eq_nil_of_length_eq_zero h0
    clear h0
    have hnil := fun W => Lib.run_eql_slice_nil (P := Try.prog) W 23 5 none 0 c0 0 0 Try.underlying23
    go_enter Try.func63, Try.ntmps63
    go_wp2
    go_ret
    exact ⟨_, rfl, Kd.R_nil _ _ _ _ _, Below.refl _ _⟩
  | some ad =>
    have hnil := fun W => Lib.run_eql_slice_nil (P := Try.prog) W 23 5 (some ad) l0.length c0 0 0 Try.underlying23
    have HR0 := Aside0.mk hr0
    have HL := Aside0.mk hl
    have HB := Aside0.mk (Below.refl w.heap.size w)
    clear hr0 hl
    go_enter Try.func63, Try.ntmps63
    go_wp2_with (first | ((with_reducible refine gate_dst (N := 5) rfl ?_); refine Kd.R_lit (Kd.int .u8) _ 5 ?hg (N := 5) ?hd (xs := ([] : List Int)) (inner := []) (ok := fun _ => True) (okp := fun _ => True) ?hr ?hp (fun _ hk => hk) trivial (Below.refl _ _) (Nat.le_refl _) (by simp) ?_; (case hd => rfl); (case hg => rfl); (case hr => first | (go_simp; done) | (go_simp; rfl)); (case hp => exact Reps.none _ _); intro v1 w1 ho hb hg_ hnew_; clear hg_ hnew_; have HO := Aside0.mk ho; clear HB; have HB := Aside0.mk hb; clear ho hb) | ((with_reducible refine gate_builtin (b := .append) (xs := #[.tmp 5, .tmp 6]) rfl ?_); at_builtin; refine Kd.R_append_rows (Kd.int .u8) (w0 := w) w.heap.size rfl (.tmp 5) (.tmp 6) 23 5 (.int .u8 0) 1 rfl Try.underlying23 hinfo_u8 rfl (by decide) (by omega) v1 [] l0 _ _ _ (fun _ => True) (fun _ => False) rfl rfl ?aO ?aR (fun _ _ h => h) (fun _ h => h.elim) ?aF ?aB ?aS ?aL ?_; (case aR => exact (Kd.C_below HR0.out HB.out)); (case aB => exact HB.out); (case aF => exact (fun _ _ => trivial)); (case aO => exact HO.out); (case aS => exact (below_size HB.out)); (case aL => have := HL.out; simp only [List.length_nil]; omega); intro v2 w2 ho hb hg hat; clear HB HO; have HO := Aside0.mk ho; have HB := Aside0.mk hb; clear ho hb hg hat))
    go_ret
    exact ⟨_, rfl, HO.out, HB.out⟩

/-- What a row of one's own becomes by Clip: the same cells, the capacity cut to the length. -/
def Clipped (e : Nat) (w : World) (base : Nat) (v : Value) (xs : List Int) : Prop :=
  ∃ A c, v = .slice A xs.length xs.length ∧ Kd.R (Kd.int .u8) e w base (fun _ => True) (.slice A xs.length c) xs

theorem Clipped.V {e : Nat} {w : World} {base base' : Nat} {v : Value} {xs : List Int} (h : Clipped e w base v xs) : Kd.V (Kd.int .u8) e w base' (fun k_ => base ≤ k_) v xs := by
  obtain ⟨A, c, rfl, h⟩ := h
  have h2 := Kd.R_mono (Kd.R_bound h) (ok' := fun k_ => base ≤ k_) (fun k hk => hk.2.1)
  exact ⟨A, xs.length, rfl, Nat.le_refl _, Kd.R_F h2⟩

/-- A string made of a row that is only read. -/
theorem V_string {P : Program} {w : World} {src dst e : TypeId} {ok : Nat → Prop} {v : Value} {xs : List Int} (hs : P.underlying src = some (.slice e)) (he : P.underlying e = some (.int .u8)) (hd : P.underlying dst = some .string)
    (h : Kd.V (Kd.int .u8) 0 w 0 ok v xs) : (convert src dst v).run P w = .ok (.string (strOfNums xs)) w := by
  obtain ⟨A, c, rfl, _, hf⟩ := h
  exact Kd.C_string hs he hd (Kd.F_now hf)

set_option maxHeartbeats 800000 in
set_option maxRecDepth 100000 in
theorem clip_calls (v : Value) (xs : List Int) (w : World) (base : Nat) (ho : Kd.R (Kd.int .u8) 5 w base (fun _ => True) v xs) :
    Calls Try.prog 64 #[v] w fun e w' => (∃ v0_ : Value, e = .returned v0_ ∧ Clipped 5 w' base v0_ xs) ∧ w = w' := by
  obtain ⟨A, c, rfl⟩ := Kd.R_slice ho
  have hrd := Kd.R_reads' ho
  have hle : xs.length ≤ c := hrd.2.1
  have hmax : xs.length ≤ 9223372036854775807 := Kd.C_max hrd.2.2
  have HO := Aside0.mk ho
  clear ho hrd
  go_enter Try.func64, Try.ntmps64
  go_wp2
  go_ret
  exact ⟨⟨_, rfl, A, c, rfl, HO.out⟩, rfl⟩

end Go.Proofs.Ytolncaccemfbdaa.Hand

/- The contract of math/bits.Len64: how many bits a number has. -/
namespace Go.Proofs.Ytolncaccemfbdaa.Hand
open Go.RowKit Go.Proofs.YtolncaccemfbdaaW.PrintWords Go.Proofs.YtolncaccemfbdaaW.PrintLast Go.Proofs.YtolncaccemfbdaaW.PrintMore
set_option linter.unusedVariables false
set_option linter.unusedSimpArgs false
theorem tab_size : Lib.len8tab.size = 256 := by decide +kernel
theorem tab_len : ∀ n : Fin 256, (Lib.len8tab[n.val]'(by rw [tab_size]; exact n.isLt)).toNat = Lib.bitLen n.val := by decide +kernel
theorem len_far {x y : Int} (k : Nat) (hx : x.toNat < 18446744073709551616) (h : k = 0 ∨ 2 ^ k ≤ x.toNat) (hk : k ≤ 56) (hy : y.toNat = x.toNat / 2 ^ k) (h0 : 0 ≤ y) (h1 : y ≤ 255) (hb : y.toNat < Lib.len8tab.size) :
    wrap64 ((k : Int) + wrap64 ((Lib.len8tab[y.toNat]'hb).toNat : Int)) = (Lib.bitLen x.toNat : Int) := by
  have hl := Lib.bitLen_le8' y h0 h1
  have ht := tab_len ⟨y.toNat, by omega⟩
  dsimp only at ht
  rw [ht]
  have hs : Lib.bitLen x.toNat = k + Lib.bitLen y.toNat := by
    rcases h with rfl | h
    · rw [hy, Nat.pow_zero, Nat.div_one, Nat.zero_add]
    · rw [hy]
      exact Lib.bitLen_shift k x.toNat h hx
  have e : wrap64 (Lib.bitLen y.toNat : Int) = (Lib.bitLen y.toNat : Int) := by unfold wrap64; omega
  rw [e, hs]
  unfold wrap64
  omega
def len64F (x : Int) : Option Int := if 0 ≤ x ∧ x ≤ 18446744073709551615 then some (Lib.bitLen x.toNat : Int) else none
set_option maxHeartbeats 4000000 in
set_option maxRecDepth 100000 in
theorem len64_calls (x r : Int) (w : World) (h : len64F x = some r) : Calls Try.prog 47 #[.int .u64 x] w fun e w' => e = .returned (.int .i64 r) ∧ Drawn0 w w' := by
  unfold len64F at h
  by_cases hx : 0 ≤ x ∧ x ≤ 18446744073709551615
  · rw [if_pos hx] at h
    obtain rfl := Option.some.inj h
    obtain ⟨h0, h1⟩ := hx
    clear h
    go_enter Try.func47, Try.ntmps47
    go_wp2
    all_goals first
      | (exfalso; have hs := tab_size; omega)
      | (have hb : (x / 4294967296 / 65536 / 256).toNat < Lib.len8tab.size := by (rw [tab_size]; omega)
         have hz := len_far (x := x) (y := x / 4294967296 / 65536 / 256) 56 (by omega) (.inr (by omega)) (by omega) (by omega) (by omega) (by omega) hb
         go_ret
         exact ⟨congrArg Ending.returned (congrArg (Value.int IntKind.i64) hz), Drawn0.refl _⟩)
      | (have hb : (x / 4294967296 / 65536).toNat < Lib.len8tab.size := by (rw [tab_size]; omega)
         have hz := len_far (x := x) (y := x / 4294967296 / 65536) 48 (by omega) (.inr (by omega)) (by omega) (by omega) (by omega) (by omega) hb
         go_ret
         exact ⟨congrArg Ending.returned (congrArg (Value.int IntKind.i64) hz), Drawn0.refl _⟩)
      | (have hb : (x / 4294967296 / 256).toNat < Lib.len8tab.size := by (rw [tab_size]; omega)
         have hz := len_far (x := x) (y := x / 4294967296 / 256) 40 (by omega) (.inr (by omega)) (by omega) (by omega) (by omega) (by omega) hb
         go_ret
         exact ⟨congrArg Ending.returned (congrArg (Value.int IntKind.i64) hz), Drawn0.refl _⟩)
      | (have hb : (x / 4294967296).toNat < Lib.len8tab.size := by (rw [tab_size]; omega)
         have hz := len_far (x := x) (y := x / 4294967296) 32 (by omega) (.inr (by omega)) (by omega) (by omega) (by omega) (by omega) hb
         go_ret
         exact ⟨congrArg Ending.returned (congrArg (Value.int IntKind.i64) hz), Drawn0.refl _⟩)
      | (have hb : (x / 65536 / 256).toNat < Lib.len8tab.size := by (rw [tab_size]; omega)
         have hz := len_far (x := x) (y := x / 65536 / 256) 24 (by omega) (.inr (by omega)) (by omega) (by omega) (by omega) (by omega) hb
         go_ret
         exact ⟨congrArg Ending.returned (congrArg (Value.int IntKind.i64) hz), Drawn0.refl _⟩)
      | (have hb : (x / 65536).toNat < Lib.len8tab.size := by (rw [tab_size]; omega)
         have hz := len_far (x := x) (y := x / 65536) 16 (by omega) (.inr (by omega)) (by omega) (by omega) (by omega) (by omega) hb
         go_ret
         exact ⟨congrArg Ending.returned (congrArg (Value.int IntKind.i64) hz), Drawn0.refl _⟩)
      | (have hb : (x / 256).toNat < Lib.len8tab.size := by (rw [tab_size]; omega)
         have hz := len_far (x := x) (y := x / 256) 8 (by omega) (.inr (by omega)) (by omega) (by omega) (by omega) (by omega) hb
         go_ret
         exact ⟨congrArg Ending.returned (congrArg (Value.int IntKind.i64) hz), Drawn0.refl _⟩)
      | (have hb : (x).toNat < Lib.len8tab.size := by (rw [tab_size]; omega)
         have hz := len_far (x := x) (y := x) 0 (by omega) (.inl rfl) (by omega) (by omega) (by omega) (by omega) hb
         rw [show ((0 : Nat) : Int) = 0 from rfl, Int.zero_add] at hz
         go_ret
         exact ⟨congrArg Ending.returned (congrArg (Value.int IntKind.i64) hz), Drawn0.refl _⟩)
  · rw [if_neg hx] at h
    cases h
end Go.Proofs.Ytolncaccemfbdaa.Hand

/- Numbers of a few bits as bytes, in plain words: what is packed, and what is read. -/
namespace Go.Proofs.Ytolncaccemfbdaa.Plain
set_option linter.unusedVariables false
set_option linter.unusedSimpArgs false
/-- The bytes of a number, the least ones first. -/
def leB (N size : Nat) : List Int := (List.range size).map fun j => ((N / 2 ^ (8 * j) % 256 : Nat) : Int)
theorem leB_length (N size : Nat) : (leB N size).length = size := by simp [leB]
theorem leB_get (N : Nat) {size j : Nat} (h : j < size) : (leB N size)[j]? = some ((N / 2 ^ (8 * j) % 256 : Nat) : Int) := by simp [leB, h]
theorem leB_getD (N : Nat) {size j : Nat} (h : j < size) : (leB N size).getD j 0 = ((N / 2 ^ (8 * j) % 256 : Nat) : Int) := by
  rw [List.getD_eq_getElem?_getD, leB_get N h, Option.getD_some]
theorem leB_zero (size : Nat) : leB 0 size = List.replicate size 0 := by
  apply List.ext_getElem?
  intro j
  by_cases h : j < size
  · rw [leB_get 0 h, List.getElem?_replicate, if_pos h, Nat.zero_div]
    rfl
  · rw [List.getElem?_eq_none (by rw [leB_length]; omega), List.getElem?_replicate, if_neg h]
theorem leB_bytes (N size : Nat) : ∀ x ∈ leB N size, 0 ≤ x ∧ x < 256 := by
  intro x hx
  obtain ⟨j, _, rfl⟩ := List.mem_map.1 hx
  omega
/-- What is packed, as one number. -/
def packN (w : Nat) : List Int → Nat
  | [] => 0
  | x :: r => x.toNat % 2 ^ w + 2 ^ w * packN w r
theorem packN_lt (w : Nat) : ∀ l : List Int, packN w l < 2 ^ (w * l.length)
  | [] => by simp [packN]
  | x :: r => by
    have h := packN_lt w r
    have h2 := Nat.mod_lt x.toNat (Nat.two_pow_pos w)
    rw [packN, List.length_cons, Nat.mul_succ, Nat.pow_add, Nat.mul_comm (2 ^ (w * r.length))]
    calc x.toNat % 2 ^ w + 2 ^ w * packN w r < 2 ^ w + 2 ^ w * packN w r := by omega
      _ = 2 ^ w * (packN w r + 1) := by rw [Nat.mul_succ, Nat.add_comm]
      _ ≤ 2 ^ w * 2 ^ (w * r.length) := Nat.mul_le_mul_left _ h
theorem packN_snoc (w : Nat) (x : Int) : ∀ l : List Int, packN w (l ++ [x]) = packN w l + x.toNat % 2 ^ w * 2 ^ (w * l.length)
  | [] => by simp [packN]
  | y :: r => by
    rw [List.cons_append, packN, packN, packN_snoc w x r, List.length_cons, Nat.mul_succ, Nat.pow_add, Nat.mul_add, Nat.add_assoc]
    congr 2
    rw [Nat.mul_left_comm, Nat.mul_comm (2 ^ w)]
/-- What is packed of the first numbers, and of some bits of the next one. -/
def partN (w : Nat) (l : List Int) (i k : Nat) : Nat := packN w (l.take i) + (l.getD i 0).toNat % 2 ^ k * 2 ^ (w * i)
theorem partN_zero (w : Nat) (l : List Int) (i : Nat) : partN w l i 0 = packN w (l.take i) := by
  unfold partN
  rw [Nat.pow_zero, Nat.mod_one, Nat.zero_mul, Nat.add_zero]
theorem mod_next' (P i : Nat) : P % 2 ^ (i + 1) = P / 2 ^ i % 2 * 2 ^ i + P % 2 ^ i := by
  rw [Nat.pow_succ, Nat.mod_mul, Nat.add_comm, Nat.mul_comm]
theorem partN_step (w : Nat) (l : List Int) (i k : Nat) : partN w l i (k + 1) = partN w l i k + (l.getD i 0).toNat / 2 ^ k % 2 * 2 ^ (w * i + k) := by
  unfold partN
  rw [mod_next', Nat.add_mul, Nat.pow_add, Nat.add_assoc]
  congr 1
  rw [Nat.add_comm, Nat.mul_assoc, Nat.mul_comm (2 ^ k)]
theorem partN_lt (w : Nat) (l : List Int) (i k : Nat) (hi : i ≤ l.length) : partN w l i k < 2 ^ (w * i + k) := by
  unfold partN
  have h := packN_lt w (l.take i)
  rw [List.length_take, Nat.min_eq_left hi] at h
  have h2 := Nat.mod_lt (l.getD i 0).toNat (Nat.two_pow_pos k)
  rw [Nat.pow_add]
  calc packN w (l.take i) + (l.getD i 0).toNat % 2 ^ k * 2 ^ (w * i) < 2 ^ (w * i) + (l.getD i 0).toNat % 2 ^ k * 2 ^ (w * i) := by omega
    _ = ((l.getD i 0).toNat % 2 ^ k + 1) * 2 ^ (w * i) := by rw [Nat.succ_mul, Nat.add_comm]
    _ ≤ 2 ^ k * 2 ^ (w * i) := Nat.mul_le_mul_right _ h2
    _ = 2 ^ (w * i) * 2 ^ k := Nat.mul_comm _ _
theorem partN_full (w : Nat) (l : List Int) (i : Nat) (hi : i < l.length) : partN w l i w = packN w (l.take (i + 1)) := by
  unfold partN
  rw [List.take_succ_eq_append_getElem hi, packN_snoc, List.length_take, Nat.min_eq_left (by omega), List.getD_eq_getElem?_getD, List.getElem?_eq_getElem hi, Option.getD_some]
/-- One bit more. -/
theorem bit_at {N p b : Nat} (hN : N < 2 ^ p) (hb : b < 2) : (N / 2 ^ (8 * (p / 8)) % 256) ||| (b * 2 ^ (p % 8)) = (N + b * 2 ^ p) / 2 ^ (8 * (p / 8)) % 256 ∧ b * 2 ^ (p % 8) < 256 := by
  have hp : p = 8 * (p / 8) + p % 8 := by omega
  have hr : p % 8 < 8 := Nat.mod_lt _ (by decide)
  have h8 : 2 ^ (p % 8) ≤ 128 := by have := Nat.pow_le_pow_right (n := 2) (by decide) (show p % 8 ≤ 7 by omega); omega
  have e : (N + b * 2 ^ p) / 2 ^ (8 * (p / 8)) = N / 2 ^ (8 * (p / 8)) + b * 2 ^ (p % 8) := by
    conv => lhs; rw [show 2 ^ p = 2 ^ (8 * (p / 8)) * 2 ^ (p % 8) from by rw [← Nat.pow_add, ← hp]]
    rw [Nat.mul_left_comm, Nat.add_mul_div_left _ _ (Nat.two_pow_pos _)]
  have hq : N / 2 ^ (8 * (p / 8)) < 2 ^ (p % 8) := by
    rw [Nat.div_lt_iff_lt_mul (Nat.two_pow_pos _), ← Nat.pow_add, Nat.add_comm, ← hp]
    exact hN
  have hbb : b * 2 ^ (p % 8) ≤ 2 ^ (p % 8) := by
    have := Nat.mul_le_mul_right (2 ^ (p % 8)) (show b ≤ 1 by omega)
    omega
  refine ⟨?_, by omega⟩
  rw [e, Nat.mod_eq_of_lt (a := N / 2 ^ (8 * (p / 8))) (by omega), Nat.mod_eq_of_lt (a := N / 2 ^ (8 * (p / 8)) + b * 2 ^ (p % 8)) (by omega), Nat.or_comm, Nat.mul_comm b, ← Nat.two_pow_add_eq_or_of_lt hq, Nat.add_comm]
theorem leB_put {N p b size : Nat} (hN : N < 2 ^ p) (hb : b < 2) (hp : p < 8 * size) : (leB N size).set (p / 8) (((N / 2 ^ (8 * (p / 8)) % 256) ||| (b * 2 ^ (p % 8)) : Nat) : Int) = leB (N + b * 2 ^ p) size := by
  have hp8 : p = 8 * (p / 8) + p % 8 := by omega
  have hr : p % 8 < 8 := Nat.mod_lt _ (by decide)
  apply List.ext_getElem?
  intro j
  rw [List.getElem?_set, leB_length]
  by_cases hj : j < size
  · rw [leB_get _ hj]
    by_cases e : p / 8 = j
    · rw [if_pos e, if_pos (by omega), (bit_at hN hb).1, e, leB_get _ hj]
    · rw [if_neg e, leB_get _ hj]
      congr 2
      by_cases hlt : j < p / 8
      · have e1 : 2 ^ p = 2 ^ (8 * j) * (256 * 2 ^ (p - 8 * j - 8)) := by
          rw [show (256 : Nat) = 2 ^ 8 from rfl, ← Nat.pow_add, ← Nat.pow_add]
          congr 1
          omega
        rw [e1, Nat.mul_left_comm, Nat.add_mul_div_left _ _ (Nat.two_pow_pos _), Nat.mul_left_comm, Nat.add_mul_mod_self_left]
      · have hjp : 2 ^ (p + 1) ≤ 2 ^ (8 * j) := Nat.pow_le_pow_right (by decide) (by omega)
        rw [Nat.pow_succ] at hjp
        have hb2 : b * 2 ^ p ≤ 2 ^ p := by
          have := Nat.mul_le_mul_right (2 ^ p) (show b ≤ 1 by omega)
          omega
        rw [Nat.div_eq_of_lt (show N < 2 ^ (8 * j) by omega), Nat.div_eq_of_lt (show N + b * 2 ^ p < 2 ^ (8 * j) by omega)]
  · rw [List.getElem?_eq_none (by rw [leB_length]; omega)]
    by_cases e : p / 8 = j
    · omega
    · rw [if_neg e, List.getElem?_eq_none (by rw [leB_length]; omega)]
/-- Bytes as one number, the least ones first. -/
def numB : List Int → Nat
  | [] => 0
  | x :: l => x.toNat + 256 * numB l
theorem numB_lt : ∀ l : List Int, (∀ x ∈ l, 0 ≤ x ∧ x < 256) → numB l < 2 ^ (8 * l.length)
  | [], _ => by simp [numB]
  | x :: l, h => by
    have h1 := numB_lt l (fun y hy => h y (.tail _ hy))
    have h2 := h x (.head _)
    have e : 2 ^ (8 * (x :: l).length) = 256 * 2 ^ (8 * l.length) := by
      rw [List.length_cons, Nat.mul_succ, Nat.pow_add, Nat.mul_comm]
    rw [numB, e]
    omega
theorem numB_at : ∀ (l : List Int) (j : Nat), (∀ x ∈ l, 0 ≤ x ∧ x < 256) → numB l / 2 ^ (8 * j) % 256 = (l.getD j 0).toNat
  | [], j, _ => by simp [numB]
  | x :: l, 0, h => by
    have h2 := h x (.head _)
    simp only [numB, Nat.mul_zero, Nat.pow_zero, Nat.div_one, List.getD_cons_zero]
    omega
  | x :: l, j + 1, h => by
    have h2 := h x (.head _)
    have h1 := numB_at l j (fun y hy => h y (.tail _ hy))
    rw [List.getD_cons_succ, ← h1, numB, Nat.mul_succ, Nat.add_comm (8 * j), Nat.pow_add, ← Nat.div_div_eq_div_mul, show (2 : Nat) ^ 8 = 256 from rfl, Nat.add_mul_div_left _ _ (by decide : 0 < 256), show x.toNat / 256 = 0 from by omega, Nat.zero_add]
theorem numB_bit {l : List Int} (h : ∀ x ∈ l, 0 ≤ x ∧ x < 256) (p : Nat) : numB l / 2 ^ p % 2 = (l.getD (p / 8) 0).toNat / 2 ^ (p % 8) % 2 := by
  have hr : p % 8 < 8 := Nat.mod_lt _ (by decide)
  rw [← numB_at l (p / 8) h]
  conv => lhs; rw [show p = 8 * (p / 8) + p % 8 from by omega, Nat.pow_add, ← Nat.div_div_eq_div_mul]
  generalize numB l / 2 ^ (8 * (p / 8)) = X
  have e : (256 : Nat) = 2 ^ (p % 8) * (2 * 2 ^ (7 - p % 8)) := by
    rw [Nat.mul_comm 2, ← Nat.pow_succ, ← Nat.pow_add, show p % 8 + (7 - p % 8).succ = 8 from by omega]
  conv => rhs; rw [e, Nat.mod_mul_right_div_self, Nat.mod_mul_right_mod]
theorem numB_leB (size : Nat) : ∀ N : Nat, N < 2 ^ (8 * size) → numB (leB N size) = N := by
  induction size with
  | zero => intro N h; simp only [Nat.mul_zero, Nat.pow_zero] at h; show 0 = N; omega
  | succ s ih =>
    intro N h
    have e : leB N (s + 1) = ((N % 256 : Nat) : Int) :: leB (N / 256) s := by
      unfold leB
      rw [List.range_succ_eq_map, List.map_cons, List.map_map]
      congr 1
      · simp
      · apply List.map_congr_left
        intro j _
        show ((N / 2 ^ (8 * (j + 1)) % 256 : Nat) : Int) = _
        rw [Nat.mul_succ, Nat.add_comm (8 * j), Nat.pow_add, ← Nat.div_div_eq_div_mul]
    have e2 : 2 ^ (8 * (s + 1)) = 256 * 2 ^ (8 * s) := by
      rw [Nat.mul_succ, Nat.pow_add, Nat.mul_comm]
    rw [e2] at h
    rw [e, numB, ih _ (by rw [Nat.div_lt_iff_lt_mul (by decide)]; omega), Int.toNat_natCast]
    omega
theorem leB_numB {l : List Int} (h : ∀ x ∈ l, 0 ≤ x ∧ x < 256) : leB (numB l) l.length = l := by
  apply List.ext_getElem?
  intro j
  by_cases hj : j < l.length
  · have hx := h _ (List.getElem_mem hj)
    rw [leB_get _ hj, numB_at l j h, List.getD_eq_getElem?_getD, List.getElem?_eq_getElem hj, Option.getD_some, Int.toNat_of_nonneg hx.1]
  · rw [List.getElem?_eq_none (by rw [leB_length]; omega), List.getElem?_eq_none (by omega)]
/-- The i-th number of so many bits. -/
def valN (N w i : Nat) : Nat := N / 2 ^ (w * i) % 2 ^ w
def valsN (N w n : Nat) : List Int := (List.range n).map fun i => ((valN N w i : Nat) : Int)
theorem valsN_length (N w n : Nat) : (valsN N w n).length = n := by simp [valsN]
theorem valsN_succ (N w n : Nat) : valsN N w (n + 1) = valsN N w n ++ [((valN N w n : Nat) : Int)] := by
  unfold valsN
  rw [List.range_succ, List.map_append]
  rfl
/-- Bit for bit. -/
theorem val_bit (N w i k : Nat) : (N / 2 ^ (w * i) % 2 ^ k) ||| (N / 2 ^ (w * i + k) % 2 * 2 ^ k) = N / 2 ^ (w * i) % 2 ^ (k + 1) := by
  rw [mod_next', Nat.div_div_eq_div_mul, ← Nat.pow_add, Nat.or_comm, Nat.mul_comm _ (2 ^ k), ← Nat.two_pow_add_eq_or_of_lt (Nat.mod_lt _ (Nat.two_pow_pos k))]
theorem val_none {N w i k : Nat} (h : N / 2 ^ (w * i + k) % 2 = 0) : N / 2 ^ (w * i) % 2 ^ (k + 1) = N / 2 ^ (w * i) % 2 ^ k := by
  rw [← val_bit, h, Nat.zero_mul, Nat.or_zero]
theorem val_one {N w i k : Nat} (h : N / 2 ^ (w * i + k) % 2 = 1) : N / 2 ^ (w * i) % 2 ^ (k + 1) = (N / 2 ^ (w * i) % 2 ^ k) ||| 2 ^ k := by
  rw [← val_bit, h, Nat.one_mul]
/-- The bits behind the numbers are nought. -/
theorem high_zero {N a : Nat} : ∀ (d : Nat), N < 2 ^ (a + d) → ((∀ p, a ≤ p → p < a + d → N / 2 ^ p % 2 = 0) ↔ N < 2 ^ a) := by
  intro d h
  constructor
  · intro hz
    induction d with
    | zero => exact h
    | succ d ih =>
      refine ih ?_ (fun p h1 h2 => hz p h1 (by omega))
      have h1 := hz (a + d) (by omega) (by omega)
      have h2 : N / 2 ^ (a + d) < 2 := by rw [Nat.div_lt_iff_lt_mul (Nat.two_pow_pos _), Nat.mul_comm, ← Nat.pow_succ]; exact h
      have h3 : N / 2 ^ (a + d) = 0 := by
        generalize N / 2 ^ (a + d) = X at h1 h2 ⊢
        omega
      rcases Nat.div_eq_zero_iff.1 h3 with h4 | h4
      · exact absurd h4 (Nat.ne_of_gt (Nat.two_pow_pos _))
      · exact h4
  · intro hl p h1 h2
    rw [Nat.div_eq_of_lt (Nat.lt_of_lt_of_le hl (Nat.pow_le_pow_right (by decide) h1))]
/-- What was packed is read again. -/
theorem valN_pack (w : Nat) : ∀ (l : List Int) (i : Nat), i < l.length → valN (packN w l) w i = (l.getD i 0).toNat % 2 ^ w
  | [], i, h => by simp at h
  | x :: r, 0, _ => by
    unfold valN
    rw [packN, Nat.mul_zero, Nat.pow_zero, Nat.div_one, Nat.add_mul_mod_self_left, Nat.mod_mod, List.getD_cons_zero]
  | x :: r, i + 1, h => by
    have ih := valN_pack w r i (by simpa using h)
    unfold valN at ih ⊢
    rw [packN, Nat.mul_succ, Nat.add_comm (w * i), Nat.pow_add, ← Nat.div_div_eq_div_mul, Nat.add_mul_div_left _ _ (Nat.two_pow_pos _), Nat.div_eq_of_lt (Nat.mod_lt _ (Nat.two_pow_pos _)), Nat.zero_add, ih, List.getD_cons_succ]
theorem valsN_pack {w : Nat} {l : List Int} (h : ∀ x ∈ l, 0 ≤ x ∧ x < 2 ^ w) : valsN (packN w l) w l.length = l := by
  apply List.ext_getElem?
  intro j
  by_cases hj : j < l.length
  · have hx := h _ (List.getElem_mem hj)
    have hv := valN_pack w l j hj
    rw [List.getD_eq_getElem?_getD, List.getElem?_eq_getElem hj, Option.getD_some, Nat.mod_eq_of_lt (by have h2 := hx.2; rw [← Int.toNat_of_nonneg hx.1] at h2; exact_mod_cast h2)] at hv
    unfold valsN
    rw [List.getElem?_map, List.getElem?_range hj, Option.map_some, hv, List.getElem?_eq_getElem hj, Int.toNat_of_nonneg hx.1]
  · rw [List.getElem?_eq_none (by rw [valsN_length]; omega), List.getElem?_eq_none (by omega)]
end Go.Proofs.Ytolncaccemfbdaa.Plain

/- Packed numbers: how many bits a row of numbers needs, what New tells, how a Vec lies in memory. -/
namespace Go.Proofs.Ytolncaccemfbdaa.Plain
open Go.RowKit Go.Proofs.YtolncaccemfbdaaW.PrintWords Go.Proofs.YtolncaccemfbdaaW.PrintLast Go.Proofs.YtolncaccemfbdaaW.PrintMore
set_option linter.unusedVariables false
set_option linter.unusedSimpArgs false
/-- How many bits the greatest of them needs. -/
def widthL (l : List Int) : Nat := l.foldl (fun m x => max m (Lib.bitLen x.toNat)) 0
theorem widthL_snoc (l : List Int) (x : Int) : widthL (l ++ [x]) = max (widthL l) (Lib.bitLen x.toNat) := by simp [widthL]
theorem mx_cast (a b : Nat) : mx (a : Int) (b : Int) = ((max a b : Nat) : Int) := by
  unfold mx
  by_cases h : a < b
  · rw [if_pos (by omega)]
    omega
  · rw [if_neg (by omega)]
    omega
/-- What New tells: 0 where it does. -/
def newE (a : Int) (l : List Int) : Int := if a < 0 ∨ 64 < a ∨ a < (widthL l : Int) then 1 else if 100000 < l.length then 2 else 0
theorem newE_ok {a : Int} {l : List Int} (h : newE a l = 0) : 0 ≤ a ∧ a ≤ 64 ∧ (widthL l : Int) ≤ a ∧ l.length ≤ 100000 := by
  unfold newE at h
  split at h
  · cases h
  · split at h
    · cases h
    · omega
theorem newE_of {a : Int} {l : List Int} (h0 : 0 ≤ a) (h1 : a ≤ 64) (h2 : (widthL l : Int) ≤ a) (h3 : l.length ≤ 100000) : newE a l = 0 := by
  unfold newE
  rw [if_neg (by omega), if_neg (by omega)]
theorem bitLen_pow {x : Nat} (hx : x < 2 ^ 64) : x < 2 ^ Lib.bitLen x := by
  have h : ∀ (f x : Nat), x < 2 ^ f → x < 2 ^ Lib.bitLenAux f x := by
    intro f
    induction f with
    | zero => intro x h; simpa [Lib.bitLenAux] using h
    | succ f ih =>
      intro x h
      rw [Lib.bitLenAux]
      by_cases h0 : x = 0
      · rw [if_pos h0, h0]
        decide
      · rw [if_neg h0]
        have := ih (x / 2) (by rw [Nat.pow_succ] at h; omega)
        rw [Nat.pow_add]
        omega
  exact h 64 x hx
theorem bitLen_low {x : Nat} (h0 : x ≠ 0) : 2 ^ (Lib.bitLen x - 1) ≤ x := by
  have h : ∀ (f x : Nat), x ≠ 0 → 2 ^ (Lib.bitLenAux f x - 1) ≤ x := by
    intro f
    induction f with
    | zero => intro x h; simp [Lib.bitLenAux]; omega
    | succ f ih =>
      intro x h
      rw [Lib.bitLenAux, if_neg h, Nat.add_sub_cancel_left]
      by_cases h2 : x / 2 = 0
      · have hz : Lib.bitLenAux f 0 = 0 := by cases f <;> simp [Lib.bitLenAux]
        rw [h2, hz]
        simp
        omega
      · have := ih (x / 2) h2
        generalize Lib.bitLenAux f (x / 2) = L at this
        cases L with
        | zero => simp; omega
        | succ L =>
          rw [Nat.add_sub_cancel] at this
          rw [Nat.pow_succ]
          omega
  exact h 64 x h0
theorem widthL_le {l : List Int} {k : Nat} : widthL l ≤ k ↔ ∀ x ∈ l, Lib.bitLen x.toNat ≤ k := by
  have h : ∀ (l : List Int) (m : Nat), l.foldl (fun m x => max m (Lib.bitLen x.toNat)) m ≤ k ↔ m ≤ k ∧ ∀ x ∈ l, Lib.bitLen x.toNat ≤ k := by
    intro l
    induction l with
    | nil => intro m; simp
    | cons y l ih =>
      intro m
      rw [List.foldl_cons, ih]
      simp only [List.mem_cons, forall_eq_or_imp, Nat.max_le, and_assoc]
  unfold widthL
  rw [h]
  simp
/-- What a width that does means. -/
theorem width_lt {l : List Int} (hb : ∀ x ∈ l, 0 ≤ x ∧ x < 18446744073709551616) {k : Nat} (h : widthL l ≤ k) : ∀ x ∈ l, 0 ≤ x ∧ x < 2 ^ k := by
  intro x hx
  have h1 := hb x hx
  have h2 := bitLen_pow (x := x.toNat) (by omega)
  have h3 := Nat.pow_le_pow_right (n := 2) (by decide) (widthL_le.1 h x hx)
  refine ⟨h1.1, ?_⟩
  have h4 : ((x.toNat : Nat) : Int) < ((2 ^ k : Nat) : Int) := by exact_mod_cast Nat.lt_of_lt_of_le h2 h3
  rw [Int.toNat_of_nonneg h1.1] at h4
  exact_mod_cast h4
end Go.Proofs.Ytolncaccemfbdaa.Plain
namespace Go.Proofs.Ytolncaccemfbdaa.Hand
open Go.RowKit Go.Proofs.YtolncaccemfbdaaW.PrintWords Go.Proofs.YtolncaccemfbdaaW.PrintLast Go.Proofs.YtolncaccemfbdaaW.PrintMore
open Go.Proofs.Ytolncaccemfbdaa.Plain
set_option linter.unusedVariables false
set_option linter.unusedSimpArgs false
/-- A Vec in memory. -/
def VecAt (k : IntKind) (t : TypeId) (W : World) (g : Nat) (a : Int) (xs : List Int) : Prop := ∃ A c, W.heap[g]? = some (.cells #[.int .i64 a, .slice A xs.length c] t (0, 0)) ∧ xs.length ≤ c ∧ Kd.C (Kd.int k) W A xs.length xs
theorem VecAt.below {k : IntKind} {t : TypeId} {W W' : World} {g : Nat} {a : Int} {xs : List Int} (h : VecAt k t W g a xs) (hb : Below W.heap.size W W') : VecAt k t W' g a xs := by
  obtain ⟨A, c, h1, h2, h3⟩ := h
  exact ⟨A, c, blk_below h1 hb, h2, Kd.C_below h3 hb⟩
theorem VecAt.lt {k : IntKind} {t : TypeId} {W : World} {g : Nat} {a : Int} {xs : List Int} (h : VecAt k t W g a xs) : g < W.heap.size := by
  obtain ⟨A, c, h1, _⟩ := h
  exact blk_lt h1
end Go.Proofs.Ytolncaccemfbdaa.Hand

/- The contract, proved by hand, of num.Put: it hands back the bytes that came in and behind them the number's groups of seven bits, cut to its length. -/
namespace Go.Proofs.Ytolncaccemfbdaa.Hand
open Go.RowKit Go.Proofs.YtolncaccemfbdaaW.PrintWords Go.Proofs.YtolncaccemfbdaaW.PrintLast Go.Proofs.YtolncaccemfbdaaW.PrintMore
open Go.Proofs.Ytolncaccemfbdaa.Plain
set_option linter.unusedVariables false
set_option linter.unusedSimpArgs false

def putF (l : List Int) (n : Int) : Option (List Int) := if l.length ≤ 140737488355000 ∧ 0 ≤ n ∧ n < 18446744073709551616 then some (l ++ encN n.toNat) else none

set_option maxHeartbeats 800000 in
set_option maxRecDepth 100000 in
theorem put_clipped (A0 : Option Addr) (c0 : Nat) (l0 : List Int) (a1 : Int) (r : List Int) (w : World) (hr0 : Kd.C (Kd.int .u8) w A0 l0.length l0) (h : putF l0 a1 = some r) :
    Calls Try.prog 51 #[.slice A0 l0.length c0, .int .u64 a1] w fun e w' => ∃ v0_ : Value, e = .returned v0_ ∧ Clipped 5 w' w.heap.size v0_ r ∧ Below w.heap.size w w' := by
  unfold putF at h
  by_cases hc : l0.length ≤ 140737488355000 ∧ 0 ≤ a1 ∧ a1 < 18446744073709551616
  · rw [if_pos hc] at h
    obtain ⟨hl, h0, h1⟩ := hc
    obtain rfl := Option.some.inj h
    clear h
    have hlen : (encN a1.toNat).length ≤ 10 := encN_len64 (by omega)
    have HLEN := Aside0.mk hlen
    have HL := Aside0.mk hl
    clear hlen h1
    go_enter Try.func51, Try.ntmps51
    go_wp2_with (go_at_call 63; refine (clone_calls _ _ l0 _ hr0 (by have := HL.out; omega)).mono ?_; rintro e w1 ⟨v, rfl, ho, hb⟩; have HO := Aside0.mk ho; have HB := Aside0.mk hb; clear ho hb)
    go_loopg [1, 5] a1.toNat (fun kq v1 v5 w' => ∃ (x : Int) (xs : List Int), v1 = .int .u64 x ∧ Aside0 (0 ≤ x) ∧ Aside0 (xs ++ encN x.toNat = l0 ++ encN a1.toNat) ∧ Aside0 (x.toNat ≤ kq) ∧ Aside0 (Kd.R (Kd.int .u8) 5 w' w.heap.size (fun _ => True) v5 xs) ∧ Aside0 (Below w.heap.size w w'))
    case atStart => exact ⟨a1, l0, rfl, ⟨h0⟩, ⟨rfl⟩, ⟨Nat.le_refl _⟩, ⟨HO.out⟩, ⟨HB.out⟩⟩
    case round =>
      clear HO HB h0
      obtain ⟨x, xs, rfl, H0, HE, HK, HO, HB⟩ := hrel
      have hxl : xs.length ≤ 140737488355010 := by
        have h2 := congrArg List.length HE.out
        simp only [List.length_append] at h2
        have := HL.out
        have := HLEN.out
        omega
      have HX := Aside0.mk hxl
      clear hxl
      by_cases c2 : 128 ≤ x
      · have c2b : decide (128 ≤ x) = true := decide_eq_true c2
        have H2 := Aside0.mk c2
        clear c2
        go_wp2_with (first | ((with_reducible refine gate_builtin (b := .append) (xs := #[.tmp 10, .tmp 14]) rfl ?_); at_builtin; refine Kd.R_append (Kd.int .u8) (w0 := w) w.heap.size rfl (.tmp 10) (.tmp 14) 23 5 (.int .u8 0) 1 rfl Try.underlying23 hinfo_u8 rfl (by decide) (by omega) _ xs (Go.bits .or .u8 (x % 256) 128) [.int .u8 (Go.bits .or .u8 (x % 256) 128)] (fun _ => True) (fun _ => False) rfl rfl ?aP (fun _ hk => hk.elim) ?aF ?aO ?aB ?aS ?aL ?_; (case aP => exact rfl); (case aB => exact HB.out); (case aF => exact (fun _ _ => trivial)); (case aO => exact HO.out); (case aS => exact (below_size HB.out)); (case aL => have := HX.out; omega); intro v2 w2 ho hb hg hat; clear HB HO; have HO := Aside0.mk ho; have HB := Aside0.mk hb; clear ho hb hg hat))
        go_roundg (x / 128).toNat
        case measure => have := H2.out; have := HK.out; omega
        case rel => exact ⟨x / 128, xs ++ [Go.bits .or .u8 (x % 256) 128], rfl, ⟨by have := H0.out; omega⟩, ⟨by have he := HE.out; rw [encN_step H2.out] at he; rw [← he]; simp⟩, ⟨Nat.le_refl _⟩, ⟨HO.out⟩, ⟨HB.out⟩⟩
      · have c2b : decide (128 ≤ x) = false := decide_eq_false c2
        have H2 := Aside0.mk (show x < 128 by omega)
        clear c2
        go_wp2_with (first | ((with_reducible refine gate_builtin (b := .append) (xs := #[.tmp 18, .tmp 21]) rfl ?_); at_builtin; refine Kd.R_append (Kd.int .u8) (w0 := w) w.heap.size rfl (.tmp 18) (.tmp 21) 23 5 (.int .u8 0) 1 rfl Try.underlying23 hinfo_u8 rfl (by decide) (by omega) _ xs (x % 256) [.int .u8 (x % 256)] (fun _ => True) (fun _ => False) rfl rfl ?aP (fun _ hk => hk.elim) ?aF ?aO ?aB ?aS ?aL ?_; (case aP => exact rfl); (case aB => exact HB.out); (case aF => exact (fun _ _ => trivial)); (case aO => exact HO.out); (case aS => exact (below_size HB.out)); (case aL => have := HX.out; omega); intro v2 w2 ho hb hg hat; clear HB HO; have HO := Aside0.mk ho; have HB := Aside0.mk hb; clear ho hb hg hat) | (go_at_call 64; refine (clip_calls _ _ _ _ HO.out).mono ?_; rintro e w3 ⟨⟨v3, rfl, hcl⟩, rfl⟩; have HCL := Aside0.mk hcl; clear hcl))
        go_ret
        refine ⟨_, rfl, ?_, HB.out⟩
        have he := HE.out
        rw [encN_last H0.out H2.out] at he
        rw [← he]
        exact HCL.out
  · rw [if_neg hc] at h
    cases h

theorem put_calls (A0 : Option Addr) (c0 : Nat) (l0 : List Int) (a1 : Int) (r : List Int) (w : World) (hr0 : Kd.C (Kd.int .u8) w A0 l0.length l0) (hc0 : l0.length ≤ c0) (h : putF l0 a1 = some r) :
    Calls Try.prog 51 #[.slice A0 l0.length c0, .int .u64 a1] w fun e w' => ∃ v0_ : Value, e = .returned (v0_) ∧ Kd.V (Kd.int .u8) 5 w' w.heap.size (fun k_ => (w.heap.size ≤ k_)) v0_ r ∧ Below w.heap.size w w' :=
  (put_clipped A0 c0 l0 a1 r w hr0 h).mono fun _ _ ⟨v, he, hc, hb⟩ => ⟨v, he, hc.V, hb⟩

end Go.Proofs.Ytolncaccemfbdaa.Hand

/- Packed numbers as bytes: what Bytes tells; a row that is full and is appended to; two rows in one. -/
namespace Go.Proofs.Ytolncaccemfbdaa.Plain
open Go.RowKit Go.Proofs.YtolncaccemfbdaaW.PrintWords Go.Proofs.YtolncaccemfbdaaW.PrintLast Go.Proofs.YtolncaccemfbdaaW.PrintMore
set_option linter.unusedVariables false
set_option linter.unusedSimpArgs false
/-- How many bytes so many numbers of so many bits need. -/
def sizeN (n w : Nat) : Nat := (n * w + 7) / 8
def vbytes (w : Nat) (l : List Int) : List Int := encN l.length ++ [(w : Int)] ++ leB (packN w l) (sizeN l.length w)
theorem place_lt {n w i k : Nat} (hi : i < n) (hk : k < w) : i * w + k < n * w := by
  have h1 : (i + 1) * w ≤ n * w := Nat.mul_le_mul_right w hi
  rw [Nat.succ_mul] at h1
  omega
theorem place_size {n w i k : Nat} (hi : i < n) (hk : k < w) : i * w + k < 8 * sizeN n w := by
  have h1 := place_lt hi hk
  unfold sizeN
  omega
theorem size_le {n w : Nat} (hn : n ≤ 100000) (hw : w ≤ 64) : n * w ≤ 6400000 ∧ sizeN n w ≤ 800000 := by
  have h1 := Nat.mul_le_mul hn hw
  unfold sizeN
  omega
/-- The numbers of region 2. -/
theorem size_nums {n w : Nat} (hn : n ≤ 100000) (hw : w ≤ 64) : wrap64 ((n : Int) * (w : Int)) = ((n * w : Nat) : Int) ∧ wrap64 (((n * w : Nat) : Int) + 8) = ((n * w : Nat) : Int) + 8 ∧ wrap64 (((n * w : Nat) : Int) + 8 - 1) = ((n * w : Nat) : Int) + 8 - 1 ∧ Int.tdiv (((n * w : Nat) : Int) + 8 - 1) 8 = (sizeN n w : Int) ∧ wrap64 (sizeN n w : Int) = (sizeN n w : Int) := by
  have h := size_le hn hw
  have e : (n : Int) * (w : Int) = ((n * w : Nat) : Int) := (Int.natCast_mul n w).symm
  rw [e]
  refine ⟨w64 (by omega) (by omega), w64 (by omega) (by omega), w64 (by omega) (by omega), ?_, w64 (by omega) (by omega)⟩
  rw [Int.tdiv_eq_ediv_of_nonneg (by omega)]
  unfold sizeN
  omega
theorem bit_u64 (x : Nat) (hx : x < 18446744073709551616) : Go.bits .and .u64 (x : Int) 1 = ((x % 2 : Nat) : Int) := by
  have h := Go.u64_and (x : Int) 1 (by omega) (by omega) (by decide) (by decide)
  rw [h, Int.toNat_natCast, show (1 : Int).toNat = 1 from rfl, Nat.and_one_is_mod]
/-- One bit is put. -/
theorem pack_set {w : Nat} {l : List Int} {p j m s8 : Int} {I K : Nat} (hI : I < l.length) (hK : K < w) (hp : p = ((I * w + K : Nat) : Int)) (hj : Int.tdiv p 8 = j) (hm : Int.tmod p 8 = m)
    (hs : shl .u8 (((l.getD I 0).toNat / 2 ^ K % 2 : Nat) : Int) m = s8) :
    (leB (partN w l I K) (sizeN l.length w)).set j.toNat (Go.bits .or .u8 (rd (leB (partN w l I K) (sizeN l.length w)) j) s8) = leB (partN w l I (K + 1)) (sizeN l.length w) := by
  have ej : j = (((I * w + K) / 8 : Nat) : Int) := by rw [← hj, Int.tdiv_eq_ediv_of_nonneg (by omega), hp]; omega
  have em : m = (((I * w + K) % 8 : Nat) : Int) := by rw [← hm, Int.tmod_eq_emod_of_nonneg (by omega), hp]; omega
  have hb8 : (I * w + K) % 8 < 8 := Nat.mod_lt _ (by decide)
  have hps := place_size hI hK
  have hN : partN w l I K < 2 ^ (I * w + K) := by have := partN_lt w l I K (by omega); rwa [Nat.mul_comm w I] at this
  have hb : (l.getD I 0).toNat / 2 ^ K % 2 < 2 := Nat.mod_lt _ (by decide)
  have hst := partN_step w l I K
  rw [Nat.mul_comm w I] at hst
  generalize (l.getD I 0).toNat / 2 ^ K % 2 = b at hb hs hst
  generalize partN w l I K = N at hN hst ⊢
  rw [hst]
  have hput := leB_put hN hb hps
  obtain ⟨hba, hbl⟩ := bit_at hN hb
  generalize hq : I * w + K = q at *
  have hq8 : q / 8 < sizeN l.length w := by omega
  subst ej em
  have e8 : s8 = ((b * 2 ^ (q % 8) : Nat) : Int) := by
    rw [← hs]
    unfold shl
    rw [show IntKind.u8.bits = 8 from rfl, Int.toNat_natCast, Nat.min_eq_left (by omega), show ((2 : Int) ^ (q % 8)) = ((2 ^ (q % 8) : Nat) : Int) from by rw [Int.natCast_pow]; rfl, ← Int.natCast_mul, Go.IntKind.wrap_u8]
    omega
  have hx : N / 2 ^ (8 * (q / 8)) % 256 < 256 := Nat.mod_lt _ (by decide)
  rw [Int.toNat_natCast, rd_at _ _ (by rw [leB_length]; exact hq8)]
  have hg : (leB N (sizeN l.length w))[q / 8]'(by rw [leB_length]; exact hq8) = ((N / 2 ^ (8 * (q / 8)) % 256 : Nat) : Int) := by
    have := leB_get N hq8
    rw [List.getElem?_eq_getElem (by rw [leB_length]; exact hq8)] at this
    exact Option.some.inj this
  rw [hg, e8, Go.u8_or _ _ (Int.natCast_nonneg _) (by omega) (Int.natCast_nonneg _) (by omega), Int.toNat_natCast, Int.toNat_natCast]
  exact hput
end Go.Proofs.Ytolncaccemfbdaa.Plain
namespace Go.Proofs.Ytolncaccemfbdaa.Hand
open Go.RowKit Go.Proofs.YtolncaccemfbdaaW.PrintWords Go.Proofs.YtolncaccemfbdaaW.PrintLast Go.Proofs.YtolncaccemfbdaaW.PrintMore
open Go.Proofs.Ytolncaccemfbdaa.Plain
set_option linter.unusedVariables false
set_option linter.unusedSimpArgs false
section
variable {P : Program} {ops : Array Oper} {Q : Exit → Act → World → Prop}
/-- Behind a full row one number more: in new memory. -/
theorem append_full_ {oi : Oper} {N : Tmp} {a : Act} {W : World} {K : Act → World → Prop} {s x : Operand} {t e : TypeId} {A ad : Addr} {xs zs : List Int} {y : Int} {n : Nat} (hz : xs ++ [y] = zs) (hw : Region.wanted oi (yielded ops a.tmps) = true) (hN : oi.dst = some N)
    (ho : oi.op = .call { callee := .builtin .append, args := #[s, x], argTypes := #[t, t] }) (ht : P.underlying t = some (.slice e)) (hinfo : (P.info? e).map (fun i => (i.zero, i.size, i.bytes)) = some (some (.int .u8 0), 1, 1))
    (hs : a.eval s = .slice (some A) n n) (hx : a.eval x = .slice (some ad) 1 1) (hn : xs.length = n) (hC : Kd.C (Kd.int .u8) W (some A) xs.length xs) (hc : W.cell? ad = some (.int .u8 y)) (hl : xs.length + 1 ≤ 140737488355328)
    (h : ∀ A' c' w', zs.length ≤ c' → Kd.R (Kd.int .u8) e w' W.heap.size (fun _ => True) (.slice A' zs.length c') zs → Below W.heap.size W w' → K (a.put (some N) (.slice A' zs.length c')) w') :
    if Region.wanted oi (yielded ops a.tmps) = true then Oper.wp P oi a W K Q else K (a.put (some N) undef) W := by
  subst hn hz
  obtain ⟨i0, hi, hzz⟩ := Option.map_eq_some_iff.1 hinfo
  simp only [Prod.mk.injEq] at hzz
  obtain ⟨hz0, hz1, hz2⟩ := hzz
  obtain ⟨v', w', hrun, hown, hg⟩ := run_append_arg_grows (P := P) W t oi.type e i0 (.int .u8 0) 1 1 ht hi hz0 hz1 hz2 rfl (by decide) A xs.length xs.length (nums .u8 xs) (by simp [nums]) (fun j u hj => by
      have hjl : j < xs.length := by have := (List.getElem?_eq_some_iff.1 hj).1; simpa [nums] using this
      obtain ⟨ad', ha, hcj⟩ := Kd.at_int hC (j : Int) (by omega) (by omega)
      injection ha with ha
      subst ha
      rw [Int.toNat_natCast] at hcj
      have hu : u = .int .u8 (rd xs (j : Int)) := by
        rw [rd_at _ _ hjl]
        simp [nums, hjl] at hj
        exact hj.symm
      rw [hu]
      exact hcj) ad 1 1 [.int .u8 y] rfl (fun j u hj => by
      have : j = 0 := by have := (List.getElem?_eq_some_iff.1 hj).1; simp at this; omega
      subst this
      simp at hj
      subst hj
      rw [show ad.add 0 = ad from by simp [Addr.add]]
      exact hc) (by omega) (by unfold maxLen; omega) (by omega)
  have hR : Kd.R (Kd.int .u8) e w' W.heap.size (fun _ => True) v' (xs ++ [y]) := Kd.R_of_own (by simpa [nums, encs] using hown) (fun _ _ => trivial)
  obtain ⟨A', c', rfl⟩ := Kd.R_slice hR
  refine value_ (v := .slice A' (xs ++ [y]).length c') (w1 := w') hw hN ?_ (h A' c' w' (Kd.R_reads' hR).2.1 hR ((Below.refl _ W).grown hg (Nat.le_refl _) (fun k hk => by cases hk)))
  simp [execOp, ho, resolve, invoke, builtin, hs, hx, hrun]
end
theorem new_cell {B : Nat} {w W : World} (_h : Below B w W) (v : Value) (t : TypeId) : (W.alloc (.cells #[v] t)).cell? ⟨W.heap.size, 0, none⟩ = some v := by
  rw [blk_cell (blk_new W _)]
  rfl
/-- Two rows in one. -/
theorem two_rows {W : World} {q e : TypeId} {A1 A2 : Option Addr} {c1 c2 : Nat} {x y : List Int} (h1 : x.length ≤ c1) (hx : Kd.C (Kd.int .u8) W A1 x.length x) (h2 : y.length ≤ c2) (hy : Kd.C (Kd.int .u8) W A2 y.length y) :
    Kd.C (Kd.slice q (Kd.int .u8)) (W.alloc (.cells #[.slice A1 x.length c1, .slice A2 y.length c2] e)) (some ⟨W.heap.size, 0, none⟩) [x, y].length [x, y] := by
  have hb := blk_new W (.cells #[.slice A1 x.length c1, .slice A2 y.length c2] e (0, 0))
  refine ⟨rfl, by simp, fun _ => ⟨_, rfl, fun j p hj => ?_⟩⟩
  match j, hj with
  | 0, hj =>
    have hp : x = p := by simpa using hj
    subst hp
    refine ⟨[.slice A1 x.length c1], rfl, ⟨A1, c1, rfl, h1, Kd.C_alloc hx _⟩, fun i u hu => ?_⟩
    have hi : i = 0 := by have := (List.getElem?_eq_some_iff.1 hu).1; simp at this; omega
    subst hi
    rw [add_plain, blk_cell hb]
    simpa using hu
  | 1, hj =>
    have hp : y = p := by simpa using hj
    subst hp
    refine ⟨[.slice A2 y.length c2], rfl, ⟨A2, c2, rfl, h2, Kd.C_alloc hy _⟩, fun i u hu => ?_⟩
    have hi : i = 0 := by have := (List.getElem?_eq_some_iff.1 hu).1; simp at this; omega
    subst hi
    rw [add_plain, blk_cell hb]
    show (#[Value.slice A1 x.length c1, Value.slice A2 y.length c2] : Array Value)[1 * 1 + 0]? = some u
    simpa using hu
  | j + 2, hj => simp at hj
end Go.Proofs.Ytolncaccemfbdaa.Hand

/- What bytes begin with, in plain words: a row of packed numbers, or why there is none. -/
namespace Go.Proofs.Ytolncaccemfbdaa.Plain
open Go.RowKit Go.Proofs.YtolncaccemfbdaaW.PrintWords Go.Proofs.YtolncaccemfbdaaW.PrintLast Go.Proofs.YtolncaccemfbdaaW.PrintMore
open Go.Proofs.Ytolncaccemfbdaa.PPk
set_option linter.unusedVariables false
set_option linter.unusedSimpArgs false
/-- The head: how many, how wide, where they begin, the error. -/
def headF (l : List Int) : Int × Int × Int × Int :=
  if (takeT l).2.2 = 0 then (if 100000 < (takeT l).1 then (0, 0, 0, 2) else if (l.length : Int) ≤ (takeT l).2.1 then (0, 0, 0, 4) else if 64 < rd l (takeT l).2.1 then (0, 0, 0, 3) else ((takeT l).1, rd l (takeT l).2.1, (takeT l).2.1 + 1, 0)) else (0, 0, 0, (takeT l).2.2)
theorem rd_isB {l : List Int} (hb : isB l) {i : Int} (h0 : 0 ≤ i) (h1 : i < l.length) : 0 ≤ rd l i ∧ rd l i < 256 := by
  obtain ⟨n, rfl⟩ := Int.eq_ofNat_of_zero_le h0
  rw [rd_at l n (by omega)]
  exact hb _ (List.getElem_mem _)
theorem head_f {l : List Int} (hb : isB l) (hl : l.length ≤ 140737488355328) : packed_header.f 30 l = some (headF l) := by
  unfold packed_header.f headF
  rw [num_take l hb (by omega), Option.bind_some]
  have hf := @takeT_facts l
  generalize takeT l = t at hf ⊢
  obtain ⟨k, a, e⟩ := t
  dsimp only at hf ⊢
  by_cases h1 : e = 0
  · rw [if_pos h1, if_pos h1]
    have hf := hf h1
    by_cases h2 : 100000 < k
    · rw [if_pos h2, if_pos h2]
    · rw [if_neg h2, if_neg h2]
      by_cases h3 : (l.length : Int) ≤ a
      · rw [if_pos h3, if_pos h3]
      · have hr := rd_isB hb (show 0 ≤ a by omega) (by omega)
        rw [if_neg h3, if_neg h3, if_pos (by omega), if_pos (by omega)]
        by_cases h4 : 64 < rd l a
        · rw [if_pos h4, if_pos h4]
        · rw [if_neg h4, if_neg h4, w64 (by omega) (by omega), w64 (by omega) (by omega), w64 (by omega) (by omega)]
  · rw [if_neg h1, if_neg h1]
/-- A head that does. -/
theorem head_ok {l : List Int} (hb : isB l) (h : (headF l).2.2.2 = 0) : ∃ n w a : Nat, headF l = ((n : Int), (w : Int), (a : Int), 0) ∧ n ≤ 100000 ∧ w ≤ 64 ∧ 2 ≤ a ∧ a ≤ l.length := by
  have hf := @takeT_facts l
  unfold headF at h ⊢
  generalize takeT l = t at hf h ⊢
  obtain ⟨k, a, e⟩ := t
  dsimp only at hf h ⊢
  by_cases h1 : e = 0
  · rw [if_pos h1] at h ⊢
    have hf := hf h1
    by_cases h2 : 100000 < k
    · rw [if_pos h2] at h
      simp at h
    · rw [if_neg h2] at h ⊢
      by_cases h3 : (l.length : Int) ≤ a
      · rw [if_pos h3] at h
        simp at h
      · have hr := rd_isB hb (show 0 ≤ a by omega) (by omega)
        rw [if_neg h3] at h ⊢
        by_cases h4 : 64 < rd l a
        · rw [if_pos h4] at h
          simp at h
        · rw [if_neg h4]
          refine ⟨k.toNat, (rd l a).toNat, (a + 1).toNat, ?_, by omega, by omega, by omega, by omega⟩
          rw [Int.toNat_of_nonneg hf.1, Int.toNat_of_nonneg hr.1, Int.toNat_of_nonneg (by omega)]
  · rw [if_neg h1] at h
    exact absurd h h1
/-- A bit. -/
theorem bit_f {l : List Int} (hb : isB l) (hl : l.length ≤ 1000000) {p : Nat} (hp : p < 8 * l.length) : packed_bit.f l (p : Int) = some ((numB l / 2 ^ p % 2 : Nat) : Int) := by
  have hp8 : p / 8 < l.length := by omega
  have hx := hb _ (List.getElem_mem hp8)
  have e1 : Int.tdiv (p : Int) 8 = ((p / 8 : Nat) : Int) := by rw [Int.tdiv_eq_ediv_of_nonneg (by omega)]; omega
  have e2 : Int.tmod (p : Int) 8 = ((p % 8 : Nat) : Int) := by rw [Int.tmod_eq_emod_of_nonneg (by omega)]; omega
  unfold packed_bit.f
  rw [e1, e2, w64 (by omega) (by omega), if_pos (by omega), if_pos (by omega), if_pos (by omega), rd_at _ _ hp8, numB_bit hb]
  have hg : l.getD (p / 8) 0 = l[p / 8] := by rw [List.getD_eq_getElem?_getD, List.getElem?_eq_getElem hp8, Option.getD_some]
  rw [hg]
  obtain ⟨x, ex⟩ := Int.eq_ofNat_of_zero_le hx.1
  rw [ex] at hx ⊢
  rw [Int.toNat_natCast]
  unfold shr
  rw [show IntKind.u8.bits = 8 from rfl, Int.toNat_natCast, Nat.min_eq_left (by omega)]
  have e3 : (x : Int) / 2 ^ (p % 8) = ((x / 2 ^ (p % 8) : Nat) : Int) := by rw [Int.natCast_ediv, Int.natCast_pow]; rfl
  have hle := Nat.div_le_self x (2 ^ (p % 8))
  rw [e3, wrap_u64]
  generalize x / 2 ^ (p % 8) = y at hle ⊢
  rw [Int.emod_eq_of_lt (by omega) (by omega), bit_u64 y (by omega)]
/-- What bytes begin with: the width, the numbers, how many bytes, the error. -/
def readF (bits : Nat) (l : List Int) : Int × List Int × Int × Int :=
  if (headF l).2.2.2 = 0 then
    (let n := (headF l).1.toNat
     let w := (headF l).2.1.toNat
     let a := (headF l).2.2.1.toNat
     if l.length - a < sizeN n w then (0, [], 0, 4)
     else (let N := numB ((l.drop a).take (sizeN n w))
           if (∀ i, i < n → valN N w i < 2 ^ bits) ∧ N < 2 ^ (w * n) then ((w : Int), valsN N w n, ((a + sizeN n w : Nat) : Int), 0) else (0, [], 0, 3)))
  else (0, [], 0, (headF l).2.2.2)
theorem readF_head {bits : Nat} {l : List Int} (h : (headF l).2.2.2 ≠ 0) : readF bits l = (0, [], 0, (headF l).2.2.2) := by
  unfold readF
  rw [if_neg h]
theorem readF_of {bits : Nat} {l : List Int} {n w a : Nat} (h : headF l = ((n : Int), (w : Int), (a : Int), 0)) : readF bits l = if l.length - a < sizeN n w then (0, [], 0, 4) else if (∀ i, i < n → valN (numB ((l.drop a).take (sizeN n w))) w i < 2 ^ bits) ∧ numB ((l.drop a).take (sizeN n w)) < 2 ^ (w * n) then ((w : Int), valsN (numB ((l.drop a).take (sizeN n w))) w n, ((a + sizeN n w : Nat) : Int), 0) else (0, [], 0, 3) := by
  unfold readF
  rw [h]
  dsimp only
  rw [if_pos rfl, Int.toNat_natCast, Int.toNat_natCast, Int.toNat_natCast]
end Go.Proofs.Ytolncaccemfbdaa.Plain
namespace Go.Proofs.Ytolncaccemfbdaa.Hand
open Go.RowKit Go.Proofs.YtolncaccemfbdaaW.PrintWords Go.Proofs.YtolncaccemfbdaaW.PrintLast Go.Proofs.YtolncaccemfbdaaW.PrintMore
open Go.Proofs.Ytolncaccemfbdaa.Plain Go.Proofs.Ytolncaccemfbdaa.PPk
/-- A block of another type is not a row's. -/
theorem own_ne {α : Type} {d : Kd α} {e : Nat} {w : World} {base : Nat} {ok : Nat → Prop} {v : Value} {xs : List α} {g : Nat} {cs : Array Value} {t : TypeId} (h : d.R e w base ok v xs) (hb : w.heap[g]? = some (.cells cs t (0, 0))) (hne : t ≠ e) : some g ≠ v.ownBlock := by
  intro he
  obtain ⟨cells, hc⟩ := Kd.R_typed h g he.symm
  rw [hb] at hc
  injection hc with hc
  injection hc with _ hc
  exact hne hc
theorem bit_calls (A0 : Option Addr) (c0 : Nat) (l : List Int) (n : Nat) (p r : Int) (w : World) (hn : l.length = n) (hr : Kd.C (Kd.int .u8) w A0 n l) (hc : n ≤ c0) (h : packed_bit.f l p = some r) :
    Calls Try.prog 55 #[.slice A0 n c0, .int .i64 p] w fun e w' => e = .returned (.int .u64 r) ∧ Drawn0 w w' := by
  subst hn
  exact packed_bit.calls A0 c0 l p r w hr hc h
end Go.Proofs.Ytolncaccemfbdaa.Hand

/- What was packed is read again, whatever stands behind. -/
namespace Go.Proofs.Ytolncaccemfbdaa.Plain
open Go.RowKit Go.Proofs.YtolncaccemfbdaaW.PrintWords Go.Proofs.YtolncaccemfbdaaW.PrintLast Go.Proofs.YtolncaccemfbdaaW.PrintMore
set_option linter.unusedVariables false
set_option linter.unusedSimpArgs false
theorem vbytes_length (q : Nat) (l : List Int) : (vbytes q l).length = (encN l.length).length + 1 + sizeN l.length q := by
  unfold vbytes
  rw [List.length_append, List.length_append, leB_length]
  rfl
theorem vbytes_isB {q : Nat} (hq : q ≤ 64) (l : List Int) : isB (vbytes q l) := by
  unfold vbytes
  refine isB_append (isB_append (encN_bytes _) ?_) (leB_bytes _ _)
  intro x hx
  rw [List.mem_singleton.1 hx]
  omega
theorem vbytes_le {q : Nat} (hq : q ≤ 64) {l : List Int} (hn : l.length ≤ 100000) : (vbytes q l).length ≤ 800020 := by
  have h1 := encN_len64 (n := l.length) (by omega)
  have h2 := (size_le hn hq).2
  rw [vbytes_length]
  omega
theorem read_pack {bits q : Nat} {l r : List Int} (hq : q ≤ 64) (hn : l.length ≤ 100000) (hw : ∀ x ∈ l, 0 ≤ x ∧ x < 2 ^ q) (hb : ∀ x ∈ l, 0 ≤ x ∧ x < 2 ^ bits) : readF bits (vbytes q l ++ r) = ((q : Int), l, ((vbytes q l).length : Int), 0) := by
  have ht := encN_take (m := l.length) (by omega) (([(q : Int)] ++ leB (packN q l) (sizeN l.length q)) ++ r)
  have hsp : vbytes q l ++ r = encN l.length ++ (([(q : Int)] ++ leB (packN q l) (sizeN l.length q)) ++ r) := by
    unfold vbytes
    simp only [List.append_assoc]
  rw [← hsp] at ht
  have hvl := vbytes_length q l
  have htot : (vbytes q l ++ r).length = (vbytes q l).length + r.length := List.length_append
  have hep := encN_pos l.length
  have hrd : rd (vbytes q l ++ r) ((encN l.length).length : Int) = (q : Int) := by
    rw [rd_at _ _ (by omega)]
    have h : (vbytes q l ++ r)[(encN l.length).length]? = some (q : Int) := by
      rw [hsp, List.getElem?_append_right (Nat.le_refl _), Nat.sub_self]
      rfl
    rw [List.getElem?_eq_getElem (by omega)] at h
    exact Option.some.inj h
  have hhd : headF (vbytes q l ++ r) = ((l.length : Int), (q : Int), (((encN l.length).length + 1 : Nat) : Int), 0) := by
    unfold headF
    rw [ht]
    dsimp only
    rw [if_pos rfl, if_neg (by omega), if_neg (by omega), hrd, if_neg (by omega)]
    rfl
  rw [readF_of hhd]
  have hdr : ((vbytes q l ++ r).drop ((encN l.length).length + 1)).take (sizeN l.length q) = leB (packN q l) (sizeN l.length q) := by
    have h1 : vbytes q l ++ r = (encN l.length ++ [(q : Int)]) ++ (leB (packN q l) (sizeN l.length q) ++ r) := by
      unfold vbytes
      rw [List.append_assoc]
    rw [h1, show (encN l.length).length + 1 = (encN l.length ++ [(q : Int)]).length from by simp, List.drop_left, List.take_left' (leB_length _ _)]
  have hpk := packN_lt q l
  have hle : q * l.length ≤ 8 * sizeN l.length q := by
    rw [Nat.mul_comm]
    unfold sizeN
    omega
  have hall : ∀ i, i < l.length → valN (packN q l) q i < 2 ^ bits := by
    intro i hi
    rw [valN_pack q l i hi]
    have hx := hb _ (List.getElem_mem hi)
    rw [List.getD_eq_getElem?_getD, List.getElem?_eq_getElem hi, Option.getD_some]
    have h1 := Nat.mod_le (l[i]).toNat (2 ^ q)
    have h2 : (l[i]).toNat < 2 ^ bits := by
      have h3 := hx.2
      rw [← Int.toNat_of_nonneg hx.1] at h3
      exact_mod_cast h3
    omega
  rw [hdr, numB_leB _ _ (Nat.lt_of_lt_of_le hpk (Nat.pow_le_pow_right (by decide) hle)), if_neg (by omega), if_pos ⟨hall, hpk⟩, valsN_pack hw, hvl]
end Go.Proofs.Ytolncaccemfbdaa.Plain

/- What a Read that does, and one that does not, answers. -/
namespace Go.Proofs.Ytolncaccemfbdaa.Plain
open Go.RowKit
set_option linter.unusedVariables false
theorem readF_bad {B : Nat} {l rx : List Int} {ra rn re : Int} (h : readF B l = (ra, rx, rn, re)) (h0 : re ≠ 0) : rn = 0 := by
  unfold readF at h
  by_cases h1 : (headF l).2.2.2 = 0
  · rw [if_pos h1] at h
    dsimp only at h
    by_cases h2 : l.length - (headF l).2.2.1.toNat < sizeN (headF l).1.toNat (headF l).2.1.toNat
    · rw [if_pos h2] at h
      injection h with _ h
      injection h with _ h
      injection h with h _
      exact h.symm
    · rw [if_neg h2] at h
      by_cases h3 : (∀ i, i < (headF l).1.toNat → valN (numB ((l.drop (headF l).2.2.1.toNat).take (sizeN (headF l).1.toNat (headF l).2.1.toNat))) (headF l).2.1.toNat i < 2 ^ B) ∧ numB ((l.drop (headF l).2.2.1.toNat).take (sizeN (headF l).1.toNat (headF l).2.1.toNat)) < 2 ^ ((headF l).2.1.toNat * (headF l).1.toNat)
      · rw [if_pos h3] at h
        injection h with _ h
        injection h with _ h
        injection h with _ h
        exact absurd h.symm h0
      · rw [if_neg h3] at h
        injection h with _ h
        injection h with _ h
        injection h with h _
        exact h.symm
  · rw [if_neg h1] at h
    injection h with _ h
    injection h with _ h
    injection h with h _
    exact h.symm
theorem readF_good {B : Nat} {l rx : List Int} {ra rn : Int} (hb : isB l) (h : readF B l = (ra, rx, rn, 0)) : rx.length ≤ 100000 ∧ ∀ x ∈ rx, 0 ≤ x ∧ x < 2 ^ B := by
  by_cases h1 : (headF l).2.2.2 = 0
  · obtain ⟨n, w, a, he, hn, _⟩ := head_ok hb h1
    rw [readF_of he] at h
    by_cases h2 : l.length - a < sizeN n w
    · rw [if_pos h2] at h
      injection h with _ h
      injection h with _ h
      injection h with _ h
      exact absurd h (by decide)
    · rw [if_neg h2] at h
      generalize numB ((l.drop a).take (sizeN n w)) = N at h
      by_cases h3 : (∀ i, i < n → valN N w i < 2 ^ B) ∧ N < 2 ^ (w * n)
      · rw [if_pos h3] at h
        injection h with _ h
        injection h with h _
        subst h
        refine ⟨by rw [valsN_length]; exact hn, fun x hx => ?_⟩
        obtain ⟨i, hi, rfl⟩ := List.mem_map.1 hx
        have h4 := h3.1 i (List.mem_range.1 hi)
        refine ⟨Int.natCast_nonneg _, ?_⟩
        have h5 : ((valN N w i : Nat) : Int) < ((2 ^ B : Nat) : Int) := Int.ofNat_lt.2 h4
        rw [Int.natCast_pow] at h5
        exact h5
      · rw [if_neg h3] at h
        injection h with _ h
        injection h with _ h
        injection h with _ h
        exact absurd h (by decide)
  · rw [readF_head h1] at h
    injection h with _ h
    injection h with _ h
    injection h with _ h
    exact absurd h h1
end Go.Proofs.Ytolncaccemfbdaa.Plain

/- Printed by a program of this session (drv.py) from the translation of this seat: functions, their contracts, rows. -/
namespace Go.Proofs.Ytolncaccemfbdaa.PPk
open Go.RowKit Go.Proofs.YtolncaccemfbdaaW.PrintWords Go.Proofs.YtolncaccemfbdaaW.PrintLast Go.Proofs.YtolncaccemfbdaaW.PrintMore
attribute [local go_sem] max2_int min2_int max_two min_two max_three min_three max_four min_four   -- for this text's walks alone
set_option linter.unusedVariables false
set_option linter.unusedSimpArgs false

/-! ### concordancelaw6_same: function 38 -/
def concordancelaw6_same.l0 : Nat → List Int → List Int → Int → Option (Bool)
  | 0, _, _, _ => none
  | k + 1, x0, x1, x5 => if x5 < (x0.length : Int) then (if 0 ≤ x5 then (if x5 < (x1.length : Int) then (if (rd x0 x5) = (rd x1 x5) then (concordancelaw6_same.l0 k x0 x1 (wrap64 (x5 + 1))) else (some false)) else (none)) else (none)) else (some true)
def concordancelaw6_same.f (k : Nat) (l0 : List Int) (l1 : List Int) : Option (Bool) := if (l0.length : Int) = (l1.length : Int) then (concordancelaw6_same.l0 k l0 l1 0) else (some false)
theorem concordancelaw6_same.mono_l : ∀ k, (∀ y0 y1 y2, LeO (concordancelaw6_same.l0 k y0 y1 y2) (concordancelaw6_same.l0 (k + 1) y0 y1 y2))
  | 0 => fun _ _ _ r h => by simp [concordancelaw6_same.l0] at h
  | k + 1 => by
    have ih0 := concordancelaw6_same.mono_l k
    · intro y0 y1 y2
      unfold concordancelaw6_same.l0
      repeat' first
      | (with_reducible exact ih0 _ _ _)
      | (with_reducible exact LeO.refl _)
      | (with_reducible exact LeO.none _)
      | (with_reducible refine LeO.ite ?_ ?_)
      | (with_reducible refine LeO.bind ?_ (fun _ => ?_))
      | exact ih0 _ _ _
      | exact LeO.none _
      | refine LeO.ite ?_ ?_
      | refine LeO.bind ?_ (fun _ => ?_)
theorem concordancelaw6_same.mono : ∀ a0 a1 k, LeO (concordancelaw6_same.f k a0 a1) (concordancelaw6_same.f (k + 1) a0 a1) := by
  intro a0 a1 k
  have ih0 := concordancelaw6_same.mono_l k
  unfold concordancelaw6_same.f
  repeat' first
      | (with_reducible exact ih0 _ _ _)
      | (with_reducible exact LeO.refl _)
      | (with_reducible exact LeO.none _)
      | (with_reducible refine LeO.ite ?_ ?_)
      | (with_reducible refine LeO.bind ?_ (fun _ => ?_))
      | exact ih0 _ _ _
      | exact LeO.none _
      | refine LeO.ite ?_ ?_
      | refine LeO.bind ?_ (fun _ => ?_)
set_option maxHeartbeats 8000000 in
set_option maxRecDepth 100000 in
theorem concordancelaw6_same.calls (k : Nat) (A0 : Option Addr) (c0 : Nat) (l0 : List Int) (A1 : Option Addr) (c1 : Nat) (l1 : List Int) (r : Bool) (w : World) (hr0 : Kd.C (Kd.int .u64) w A0 l0.length l0) (hc0 : l0.length ≤ c0) (hr1 : Kd.C (Kd.int .u64) w A1 l1.length l1) (hc1 : l1.length ≤ c1) (h : concordancelaw6_same.f k l0 l1 = some r) :
    Calls Try.prog 38 #[.slice A0 l0.length c0, .slice A1 l1.length c1] w fun e w' => e = .returned (.bool r) ∧ Drawn0 w w' := by
  have HR0 := Aside0.mk hr0
  have HC0 := Aside0.mk hc0
  clear hr0 hc0
  have HR1 := Aside0.mk hr1
  have HC1 := Aside0.mk hc1
  clear hr1 hc1
  have H : (if (l0.length : Int) = (l1.length : Int) then (concordancelaw6_same.l0 k l0 l1 0) else (some false)) = some r := h
  clear h
  by_cases c3 : (l0.length : Int) = (l1.length : Int)
  · rw [if_pos c3] at H
    have c3b0 : ((l0.length : Int) == (l1.length : Int)) = true := beq_iff_eq.mpr c3
    have c3b1 : ((l0.length : Int) != (l1.length : Int)) = false := bne_eq_false_iff_eq.mpr c3
    have c3b2 : (l0.length == l1.length) = true := by first | simpa using c3 | (simp at c3 ⊢; omega)
    clear c3
    have H' := Aside0.mk H
    clear H
    go_enter Try.func38, Try.ntmps38
    go_wp2
    repeat (go_quiet (fail); try go_wp2)
    go_loopg [5] k (fun kq v5 w' => ∃ (x5_1 : Int), v5 = .int .i64 x5_1 ∧ Aside0 (concordancelaw6_same.l0 kq l0 l1 x5_1 = some r) ∧ Aside0 (kq ≤ k) ∧ Drawn0 w w')
    case atStart => exact ⟨(0), (by first | rfl | (simp; done) | (simp [*]; done)), H', ⟨Nat.le_refl _⟩, by repeat (first | exact Drawn0.refl _ | apply Drawn0.step)⟩
    case round =>
      clear H'
      try clear c1
      try clear p2
      try clear c3
      try clear c3b0
      try clear c3b1
      try clear c3b2
      obtain ⟨x5_1, rfl, HA, HK1, ⟨m1, rfl⟩⟩ := hrel
      cases gk with
      | zero => exact absurd HA.out (by simp [concordancelaw6_same.l0])
      | succ k1 =>
        have H := HA.out
        clear HA
        simp only [concordancelaw6_same.l0] at H
        by_cases c4 : x5_1 < (l0.length : Int)
        · rw [if_pos c4] at H
          have c4b0 : decide (x5_1 < (l0.length : Int)) = true := decide_eq_true c4
          clear c4
          by_cases c5 : 0 ≤ x5_1
          · rw [if_pos c5] at H
            have c5b0 : decide (0 ≤ x5_1) = true := decide_eq_true c5
            clear c5
            by_cases c6 : x5_1 < (l1.length : Int)
            · rw [if_pos c6] at H
              have c6b0 : decide (x5_1 < (l1.length : Int)) = true := decide_eq_true c6
              clear c6
              by_cases c7 : (rd l0 x5_1) = (rd l1 x5_1)
              · rw [if_pos c7] at H
                have c7b0 : ((rd l0 x5_1) == (rd l1 x5_1)) = true := beq_iff_eq.mpr c7
                have c7b1 : ((rd l0 x5_1) != (rd l1 x5_1)) = false := bne_eq_false_iff_eq.mpr c7
                clear c7
                have H' := Aside0.mk H
                clear H
                have p136 : 0 ≤ (x5_1 : Int) := of_decide_eq_true (by first | (with_reducible assumption) | assumption)
                have q136 : x5_1 < (l0.length : Int) := of_decide_eq_true (by first | (with_reducible assumption) | assumption)
                obtain ⟨ad136, e136, hx136_0⟩ := Kd.at_int HR0.out x5_1 p136 q136
                cases e136
                replace p136 := eq_true p136
                replace q136 := eq_true q136
                have p137 : 0 ≤ (x5_1 : Int) := of_decide_eq_true (by first | (with_reducible assumption) | assumption)
                have q137 : x5_1 < (l1.length : Int) := of_decide_eq_true (by first | (with_reducible assumption) | assumption)
                obtain ⟨ad137, e137, hx137_0⟩ := Kd.at_int HR1.out x5_1 p137 q137
                cases e137
                replace p137 := eq_true p137
                replace q137 := eq_true q137
                go_wp2
                repeat (go_quiet (fail); try go_wp2)
                go_roundg k1
                case measure => have := HK1.out; omega
                case rel => exact ⟨(wrap64 (x5_1 + 1)), (by first | rfl | (simp; done) | (simp [*]; done)), H', ⟨by have := HK1.out; omega⟩, by repeat (first | exact Drawn0.refl _ | apply Drawn0.step)⟩
              · rw [if_neg c7] at H
                have c7b0 : ((rd l0 x5_1) == (rd l1 x5_1)) = false := beq_eq_false_iff_ne.mpr c7
                have c7b1 : ((rd l0 x5_1) != (rd l1 x5_1)) = true := bne_iff_ne.mpr c7
                obtain rfl := Option.some.inj H
                have p136 : 0 ≤ (x5_1 : Int) := of_decide_eq_true (by first | (with_reducible assumption) | assumption)
                have q136 : x5_1 < (l0.length : Int) := of_decide_eq_true (by first | (with_reducible assumption) | assumption)
                obtain ⟨ad136, e136, hx136_0⟩ := Kd.at_int HR0.out x5_1 p136 q136
                cases e136
                replace p136 := eq_true p136
                replace q136 := eq_true q136
                have p137 : 0 ≤ (x5_1 : Int) := of_decide_eq_true (by first | (with_reducible assumption) | assumption)
                have q137 : x5_1 < (l1.length : Int) := of_decide_eq_true (by first | (with_reducible assumption) | assumption)
                obtain ⟨ad137, e137, hx137_0⟩ := Kd.at_int HR1.out x5_1 p137 q137
                cases e137
                replace p137 := eq_true p137
                replace q137 := eq_true q137
                go_wp2
                repeat (go_quiet (fail); try go_wp2)
                go_ret
                exact ⟨by first | rfl | (simp; done) | (simp [*]; done), by repeat (first | exact Drawn0.refl _ | apply Drawn0.step)⟩
            · rw [if_neg c6] at H
              exact absurd H (by simp)
          · rw [if_neg c5] at H
            exact absurd H (by simp)
        · rw [if_neg c4] at H
          have c4b0 : decide (x5_1 < (l0.length : Int)) = false := decide_eq_false c4
          clear c4
          obtain rfl := Option.some.inj H
          go_wp2
          repeat (go_quiet (fail); try go_wp2)
          go_ret
          exact ⟨by first | rfl | (simp; done) | (simp [*]; done), by repeat (first | exact Drawn0.refl _ | apply Drawn0.step)⟩
  · rw [if_neg c3] at H
    have c3b0 : ((l0.length : Int) == (l1.length : Int)) = false := beq_eq_false_iff_ne.mpr c3
    have c3b1 : ((l0.length : Int) != (l1.length : Int)) = true := bne_iff_ne.mpr c3
    have c3b2 : (l0.length == l1.length) = false := by first | simpa using c3 | (simp at c3 ⊢; omega)
    obtain rfl := Option.some.inj H
    go_enter Try.func38, Try.ntmps38
    go_wp2
    repeat (go_quiet (fail); try go_wp2)
    go_ret
    exact ⟨by first | rfl | (simp; done) | (simp [*]; done), by repeat (first | exact Drawn0.refl _ | apply Drawn0.step)⟩

end Go.Proofs.Ytolncaccemfbdaa.PPk

/- Printed by a program of this session (drv.py) from the translation of this seat: functions, their contracts, rows. -/
namespace Go.Proofs.Ytolncaccemfbdaa.PPk
open Go.RowKit Go.Proofs.YtolncaccemfbdaaW.PrintWords Go.Proofs.YtolncaccemfbdaaW.PrintLast Go.Proofs.YtolncaccemfbdaaW.PrintMore
attribute [local go_sem] max2_int min2_int max_two min_two max_three min_three max_four min_four   -- for this text's walks alone
set_option linter.unusedVariables false
set_option linter.unusedSimpArgs false

/-! ### concordancelaw6_wide_uint64: function 42 -/
def concordancelaw6_wide_uint64.l0 : Nat → List Int → List Int → Int → Option (List Int)
  | 0, _, _, _ => none
  | k + 1, x0, x3, x4 => if x4 < (x0.length : Int) then (if 0 ≤ x4 then (if x3.length < 17592186044416 then (concordancelaw6_wide_uint64.l0 k x0 (x3 ++ [rd x0 x4]) (wrap64 (x4 + 1))) else (none)) else (none)) else (some x3)
def concordancelaw6_wide_uint64.f (k : Nat) (l0 : List Int) : Option (List Int) := concordancelaw6_wide_uint64.l0 k l0 ([] : List Int) 0
theorem concordancelaw6_wide_uint64.mono_l : ∀ k, (∀ y0 y1 y2, LeO (concordancelaw6_wide_uint64.l0 k y0 y1 y2) (concordancelaw6_wide_uint64.l0 (k + 1) y0 y1 y2))
  | 0 => fun _ _ _ r h => by simp [concordancelaw6_wide_uint64.l0] at h
  | k + 1 => by
    have ih0 := concordancelaw6_wide_uint64.mono_l k
    · intro y0 y1 y2
      unfold concordancelaw6_wide_uint64.l0
      repeat' first
      | (with_reducible exact ih0 _ _ _)
      | (with_reducible exact LeO.refl _)
      | (with_reducible exact LeO.none _)
      | (with_reducible refine LeO.ite ?_ ?_)
      | (with_reducible refine LeO.bind ?_ (fun _ => ?_))
      | exact ih0 _ _ _
      | exact LeO.none _
      | refine LeO.ite ?_ ?_
      | refine LeO.bind ?_ (fun _ => ?_)
theorem concordancelaw6_wide_uint64.mono : ∀ a0 k, LeO (concordancelaw6_wide_uint64.f k a0) (concordancelaw6_wide_uint64.f (k + 1) a0) := by
  intro a0 k
  have ih0 := concordancelaw6_wide_uint64.mono_l k
  unfold concordancelaw6_wide_uint64.f
  repeat' first
      | (with_reducible exact ih0 _ _ _)
      | (with_reducible exact LeO.refl _)
      | (with_reducible exact LeO.none _)
      | (with_reducible refine LeO.ite ?_ ?_)
      | (with_reducible refine LeO.bind ?_ (fun _ => ?_))
      | exact ih0 _ _ _
      | exact LeO.none _
      | refine LeO.ite ?_ ?_
      | refine LeO.bind ?_ (fun _ => ?_)
set_option maxHeartbeats 8000000 in
set_option maxRecDepth 100000 in
theorem concordancelaw6_wide_uint64.calls (k : Nat) (A0 : Option Addr) (c0 : Nat) (l0 : List Int) (r : List Int) (w : World) (hr0 : Kd.C (Kd.int .u64) w A0 l0.length l0) (hc0 : l0.length ≤ c0) (h : concordancelaw6_wide_uint64.f k l0 = some r) :
    Calls Try.prog 42 #[.slice A0 l0.length c0] w fun e w' => ∃ v0_ : Value, e = .returned (v0_) ∧ Kd.R (Kd.int .u64) 30 w' w.heap.size (fun _ => True) v0_ r ∧ Below w.heap.size w w' := by
  have HR0 := Aside0.mk hr0
  have HC0 := Aside0.mk hc0
  clear hr0 hc0
  have HB := Aside0.mk (Below.refl w.heap.size w)
  have H : (concordancelaw6_wide_uint64.l0 k l0 ([] : List Int) 0) = some r := h
  clear h
  have H' := Aside0.mk H
  clear H
  go_enter Try.func42, Try.ntmps42
  go_wp2
  go_loopg [3, 4] k (fun kq v3 v4 w' => ∃ (x3_1 : List Int) (x4_1 : Int), v4 = .int .i64 x4_1 ∧ Aside0 (concordancelaw6_wide_uint64.l0 kq l0 x3_1 x4_1 = some r) ∧ Aside0 (kq ≤ k) ∧ Aside0 (Kd.R (Kd.int .u64) 30 w' w.heap.size (fun _ => True) v3 x3_1) ∧ Aside0 (Below w.heap.size w w'))
  case atStart => exact ⟨(([] : List Int)), (0), (by first | rfl | (simp; done) | (simp [*]; done)), H', ⟨Nat.le_refl _⟩, ⟨by first | exact Kd.R_nil _ _ _ _ _ | exact Kd.N_nil _ _ _ _ _ | exact Kd.V_nil _ _ _ _ _ | exact Kd.Q_nil _ _ _ _ _ | exact Kd.S_nil _ _ _ _ _⟩, ⟨by repeat (first | (with_reducible first | exact HB.out | apply below_alloc | apply pw_below_drewN | apply below_drew1) | exact HB.out)⟩⟩
  case round =>
    clear H'
    obtain ⟨x3_1, x4_1, rfl, HA, HK1, HO_3, HB⟩ := hrel
    cases gk with
    | zero => exact absurd HA.out (by simp [concordancelaw6_wide_uint64.l0])
    | succ k1 =>
      have H := HA.out
      clear HA
      simp only [concordancelaw6_wide_uint64.l0] at H
      by_cases c2 : x4_1 < (l0.length : Int)
      · rw [if_pos c2] at H
        have c2b0 : decide (x4_1 < (l0.length : Int)) = true := decide_eq_true c2
        clear c2
        by_cases c3 : 0 ≤ x4_1
        · rw [if_pos c3] at H
          have c3b0 : decide (0 ≤ x4_1) = true := decide_eq_true c3
          clear c3
          by_cases c4 : x3_1.length < 17592186044416
          · rw [if_pos c4] at H
            have LMc4 := Aside0.mk c4
            clear c4
            obtain ⟨y165, hy165⟩ : ∃ y_ : List Int, y_ = (x3_1 ++ [rd l0 x4_1]) := ⟨_, rfl⟩
            replace H : (concordancelaw6_wide_uint64.l0 k1 l0 y165 (wrap64 (x4_1 + 1))) = some r := by first | (rw [hy165]; with_reducible exact H) | (have H2_ := (Option.bind_some _ _).symm.trans H; rw [hy165]; with_reducible exact H2_) | (have H2_ := (Option.bind_some _ _).symm.trans H; with_reducible exact H2_) | with_reducible exact H | (rw [hy165]; exact H) | exact H
            have Ny165 := Aside0.mk hy165
            clear hy165
            have H' := Aside0.mk H
            clear H
            have p164 : 0 ≤ (x4_1 : Int) := of_decide_eq_true (by first | (with_reducible assumption) | assumption)
            have q164 : x4_1 < (l0.length : Int) := of_decide_eq_true (by first | (with_reducible assumption) | assumption)
            obtain ⟨ad164, e164, hx164_0⟩ := Kd.at_int HR0.out x4_1 p164 q164
            cases e164
            replace hx164_0 := (HB.out.cell (World.block_lt_of_cell? w _ hx164_0)).trans hx164_0
            replace p164 := eq_true p164
            replace q164 := eq_true q164
            go_wp2_with (first | ((with_reducible refine gate_builtin (b := .append) (xs := #[.tmp 11, .tmp 16]) rfl ?_); at_builtin; refine Kd.R_append (Kd.int .u64) (w0 := w) w.heap.size rfl (.tmp 11) (.tmp 16) 28 30 (.int .u64 0) 8 rfl Try.underlying28 info30 rfl (by decide) (by omega) u3 x3_1 (rd l0 x4_1) [.int .u64 (rd l0 x4_1)] (fun _ => True) (fun _ => False) rfl rfl ?aP (fun _ hk => hk.elim) ?aF ?aO ?aB ?aS ?aL ?_; (case aP => exact rfl); (case aB => exact (by repeat (first | (with_reducible first | exact HB.out | apply below_alloc | apply pw_below_drewN | apply below_drew1) | exact HB.out))); (case aF => exact (fun _ _ => trivial)); (case aO => exact (by (with_reducible repeat (first | apply Kd.R_alloc | apply Kd.R_drewN | apply Kd.R_drew)); exact HO_3.out)); (case aS => exact (below_size (by repeat (first | (with_reducible first | exact HB.out | apply below_alloc | apply pw_below_drewN | apply below_drew1) | exact HB.out)))); (case aL => have := LMc4.out; omega); intro v166 w5 ho hb hg hat; rw [← Ny165.out] at ho; have n0_ := Aside0.mk (hb); have n1_ := Aside0.mk (ho); clear HB; clear HO_3; have HB := n0_; have HO167 := n1_; clear n0_ n1_; clear ho hb hg hat))
            go_roundg k1
            case measure => have := HK1.out; omega
            case rel => exact ⟨(y165), (wrap64 (x4_1 + 1)), (by first | rfl | (simp; done) | (simp [*]; done)), H', ⟨by have := HK1.out; omega⟩, ⟨by (with_reducible repeat (first | apply Kd.R_alloc | apply Kd.R_drewN | apply Kd.R_drew)); exact HO167.out⟩, ⟨by repeat (first | (with_reducible first | exact HB.out | apply below_alloc | apply pw_below_drewN | apply below_drew1) | exact HB.out)⟩⟩
          · rw [if_neg c4] at H
            exact absurd H (by simp)
        · rw [if_neg c3] at H
          exact absurd H (by simp)
      · rw [if_neg c2] at H
        have c2b0 : decide (x4_1 < (l0.length : Int)) = false := decide_eq_false c2
        clear c2
        obtain rfl := Option.some.inj H
        go_wp2
        go_ret
        exact ⟨_, by first | rfl | (simp [errW_none, errW_some] <;> rfl) | (simp [*, errW_none, errW_some] <;> rfl), by (with_reducible repeat (first | apply Kd.R_alloc | apply Kd.R_drewN | apply Kd.R_drew)); exact HO_3.out, by repeat (first | (with_reducible first | exact HB.out | apply below_alloc | apply pw_below_drewN | apply below_drew1) | exact HB.out)⟩

end Go.Proofs.Ytolncaccemfbdaa.PPk

/- Printed by a program of this session (drv.py) from the translation of this seat: functions, their contracts, rows. -/
namespace Go.Proofs.Ytolncaccemfbdaa.PPk
open Go.RowKit Go.Proofs.YtolncaccemfbdaaW.PrintWords Go.Proofs.YtolncaccemfbdaaW.PrintLast Go.Proofs.YtolncaccemfbdaaW.PrintMore
attribute [local go_sem] max2_int min2_int max_two min_two max_three min_three max_four min_four   -- for this text's walks alone
set_option linter.unusedVariables false
set_option linter.unusedSimpArgs false

/-! ### concordancelaw6_wide_uint32: function 33 -/
def concordancelaw6_wide_uint32.l0 : Nat → List Int → List Int → Int → Option (List Int)
  | 0, _, _, _ => none
  | k + 1, x0, x3, x4 => if x4 < (x0.length : Int) then (if 0 ≤ x4 then (if x3.length < 17592186044416 then (concordancelaw6_wide_uint32.l0 k x0 (x3 ++ [IntKind.u64.wrap (rd x0 x4)]) (wrap64 (x4 + 1))) else (none)) else (none)) else (some x3)
def concordancelaw6_wide_uint32.f (k : Nat) (l0 : List Int) : Option (List Int) := concordancelaw6_wide_uint32.l0 k l0 ([] : List Int) 0
theorem concordancelaw6_wide_uint32.mono_l : ∀ k, (∀ y0 y1 y2, LeO (concordancelaw6_wide_uint32.l0 k y0 y1 y2) (concordancelaw6_wide_uint32.l0 (k + 1) y0 y1 y2))
  | 0 => fun _ _ _ r h => by simp [concordancelaw6_wide_uint32.l0] at h
  | k + 1 => by
    have ih0 := concordancelaw6_wide_uint32.mono_l k
    · intro y0 y1 y2
      unfold concordancelaw6_wide_uint32.l0
      repeat' first
      | (with_reducible exact ih0 _ _ _)
      | (with_reducible exact LeO.refl _)
      | (with_reducible exact LeO.none _)
      | (with_reducible refine LeO.ite ?_ ?_)
      | (with_reducible refine LeO.bind ?_ (fun _ => ?_))
      | exact ih0 _ _ _
      | exact LeO.none _
      | refine LeO.ite ?_ ?_
      | refine LeO.bind ?_ (fun _ => ?_)
theorem concordancelaw6_wide_uint32.mono : ∀ a0 k, LeO (concordancelaw6_wide_uint32.f k a0) (concordancelaw6_wide_uint32.f (k + 1) a0) := by
  intro a0 k
  have ih0 := concordancelaw6_wide_uint32.mono_l k
  unfold concordancelaw6_wide_uint32.f
  repeat' first
      | (with_reducible exact ih0 _ _ _)
      | (with_reducible exact LeO.refl _)
      | (with_reducible exact LeO.none _)
      | (with_reducible refine LeO.ite ?_ ?_)
      | (with_reducible refine LeO.bind ?_ (fun _ => ?_))
      | exact ih0 _ _ _
      | exact LeO.none _
      | refine LeO.ite ?_ ?_
      | refine LeO.bind ?_ (fun _ => ?_)
set_option maxHeartbeats 8000000 in
set_option maxRecDepth 100000 in
theorem concordancelaw6_wide_uint32.calls (k : Nat) (A0 : Option Addr) (c0 : Nat) (l0 : List Int) (r : List Int) (w : World) (hr0 : Kd.C (Kd.int .u32) w A0 l0.length l0) (hc0 : l0.length ≤ c0) (h : concordancelaw6_wide_uint32.f k l0 = some r) :
    Calls Try.prog 33 #[.slice A0 l0.length c0] w fun e w' => ∃ v0_ : Value, e = .returned (v0_) ∧ Kd.R (Kd.int .u64) 30 w' w.heap.size (fun _ => True) v0_ r ∧ Below w.heap.size w w' := by
  have HR0 := Aside0.mk hr0
  have HC0 := Aside0.mk hc0
  clear hr0 hc0
  have HB := Aside0.mk (Below.refl w.heap.size w)
  have H : (concordancelaw6_wide_uint32.l0 k l0 ([] : List Int) 0) = some r := h
  clear h
  have H' := Aside0.mk H
  clear H
  go_enter Try.func33, Try.ntmps33
  go_wp2
  go_loopg [3, 4] k (fun kq v3 v4 w' => ∃ (x3_1 : List Int) (x4_1 : Int), v4 = .int .i64 x4_1 ∧ Aside0 (concordancelaw6_wide_uint32.l0 kq l0 x3_1 x4_1 = some r) ∧ Aside0 (kq ≤ k) ∧ Aside0 (Kd.R (Kd.int .u64) 30 w' w.heap.size (fun _ => True) v3 x3_1) ∧ Aside0 (Below w.heap.size w w'))
  case atStart => exact ⟨(([] : List Int)), (0), (by first | rfl | (simp; done) | (simp [*]; done)), H', ⟨Nat.le_refl _⟩, ⟨by first | exact Kd.R_nil _ _ _ _ _ | exact Kd.N_nil _ _ _ _ _ | exact Kd.V_nil _ _ _ _ _ | exact Kd.Q_nil _ _ _ _ _ | exact Kd.S_nil _ _ _ _ _⟩, ⟨by repeat (first | (with_reducible first | exact HB.out | apply below_alloc | apply pw_below_drewN | apply below_drew1) | exact HB.out)⟩⟩
  case round =>
    clear H'
    obtain ⟨x3_1, x4_1, rfl, HA, HK1, HO_3, HB⟩ := hrel
    cases gk with
    | zero => exact absurd HA.out (by simp [concordancelaw6_wide_uint32.l0])
    | succ k1 =>
      have H := HA.out
      clear HA
      simp only [concordancelaw6_wide_uint32.l0] at H
      by_cases c2 : x4_1 < (l0.length : Int)
      · rw [if_pos c2] at H
        have c2b0 : decide (x4_1 < (l0.length : Int)) = true := decide_eq_true c2
        clear c2
        by_cases c3 : 0 ≤ x4_1
        · rw [if_pos c3] at H
          have c3b0 : decide (0 ≤ x4_1) = true := decide_eq_true c3
          clear c3
          by_cases c4 : x3_1.length < 17592186044416
          · rw [if_pos c4] at H
            have LMc4 := Aside0.mk c4
            clear c4
            obtain ⟨y115, hy115⟩ : ∃ y_ : List Int, y_ = (x3_1 ++ [IntKind.u64.wrap (rd l0 x4_1)]) := ⟨_, rfl⟩
            replace H : (concordancelaw6_wide_uint32.l0 k1 l0 y115 (wrap64 (x4_1 + 1))) = some r := by first | (rw [hy115]; with_reducible exact H) | (have H2_ := (Option.bind_some _ _).symm.trans H; rw [hy115]; with_reducible exact H2_) | (have H2_ := (Option.bind_some _ _).symm.trans H; with_reducible exact H2_) | with_reducible exact H | (rw [hy115]; exact H) | exact H
            have Ny115 := Aside0.mk hy115
            clear hy115
            have H' := Aside0.mk H
            clear H
            have p114 : 0 ≤ (x4_1 : Int) := of_decide_eq_true (by first | (with_reducible assumption) | assumption)
            have q114 : x4_1 < (l0.length : Int) := of_decide_eq_true (by first | (with_reducible assumption) | assumption)
            obtain ⟨ad114, e114, hx114_0⟩ := Kd.at_int HR0.out x4_1 p114 q114
            cases e114
            replace hx114_0 := (HB.out.cell (World.block_lt_of_cell? w _ hx114_0)).trans hx114_0
            replace p114 := eq_true p114
            replace q114 := eq_true q114
            go_wp2_with (first | ((with_reducible refine gate_builtin (b := .append) (xs := #[.tmp 11, .tmp 17]) rfl ?_); at_builtin; refine Kd.R_append (Kd.int .u64) (w0 := w) w.heap.size rfl (.tmp 11) (.tmp 17) 28 30 (.int .u64 0) 8 rfl Try.underlying28 info30 rfl (by decide) (by omega) u3 x3_1 (IntKind.u64.wrap (rd l0 x4_1)) [.int .u64 (IntKind.u64.wrap (rd l0 x4_1))] (fun _ => True) (fun _ => False) rfl rfl ?aP (fun _ hk => hk.elim) ?aF ?aO ?aB ?aS ?aL ?_; (case aP => exact rfl); (case aB => exact (by repeat (first | (with_reducible first | exact HB.out | apply below_alloc | apply pw_below_drewN | apply below_drew1) | exact HB.out))); (case aF => exact (fun _ _ => trivial)); (case aO => exact (by (with_reducible repeat (first | apply Kd.R_alloc | apply Kd.R_drewN | apply Kd.R_drew)); exact HO_3.out)); (case aS => exact (below_size (by repeat (first | (with_reducible first | exact HB.out | apply below_alloc | apply pw_below_drewN | apply below_drew1) | exact HB.out)))); (case aL => have := LMc4.out; omega); intro v116 w5 ho hb hg hat; rw [← Ny115.out] at ho; have n0_ := Aside0.mk (hb); have n1_ := Aside0.mk (ho); clear HB; clear HO_3; have HB := n0_; have HO117 := n1_; clear n0_ n1_; clear ho hb hg hat))
            go_roundg k1
            case measure => have := HK1.out; omega
            case rel => exact ⟨(y115), (wrap64 (x4_1 + 1)), (by first | rfl | (simp; done) | (simp [*]; done)), H', ⟨by have := HK1.out; omega⟩, ⟨by (with_reducible repeat (first | apply Kd.R_alloc | apply Kd.R_drewN | apply Kd.R_drew)); exact HO117.out⟩, ⟨by repeat (first | (with_reducible first | exact HB.out | apply below_alloc | apply pw_below_drewN | apply below_drew1) | exact HB.out)⟩⟩
          · rw [if_neg c4] at H
            exact absurd H (by simp)
        · rw [if_neg c3] at H
          exact absurd H (by simp)
      · rw [if_neg c2] at H
        have c2b0 : decide (x4_1 < (l0.length : Int)) = false := decide_eq_false c2
        clear c2
        obtain rfl := Option.some.inj H
        go_wp2
        go_ret
        exact ⟨_, by first | rfl | (simp [errW_none, errW_some] <;> rfl) | (simp [*, errW_none, errW_some] <;> rfl), by (with_reducible repeat (first | apply Kd.R_alloc | apply Kd.R_drewN | apply Kd.R_drew)); exact HO_3.out, by repeat (first | (with_reducible first | exact HB.out | apply below_alloc | apply pw_below_drewN | apply below_drew1) | exact HB.out)⟩

end Go.Proofs.Ytolncaccemfbdaa.PPk

/- Printed by a program of this session (drv.py) from the translation of this seat: functions, their contracts, rows. -/
namespace Go.Proofs.Ytolncaccemfbdaa.PPk
open Go.RowKit Go.Proofs.YtolncaccemfbdaaW.PrintWords Go.Proofs.YtolncaccemfbdaaW.PrintLast Go.Proofs.YtolncaccemfbdaaW.PrintMore
attribute [local go_sem] max2_int min2_int max_two min_two max_three min_three max_four min_four   -- for this text's walks alone
set_option linter.unusedVariables false
set_option linter.unusedSimpArgs false

/-! ### concordancelaw6_wide_uint16: function 56 -/
def concordancelaw6_wide_uint16.l0 : Nat → List Int → List Int → Int → Option (List Int)
  | 0, _, _, _ => none
  | k + 1, x0, x3, x4 => if x4 < (x0.length : Int) then (if 0 ≤ x4 then (if x3.length < 17592186044416 then (concordancelaw6_wide_uint16.l0 k x0 (x3 ++ [IntKind.u64.wrap (rd x0 x4)]) (wrap64 (x4 + 1))) else (none)) else (none)) else (some x3)
def concordancelaw6_wide_uint16.f (k : Nat) (l0 : List Int) : Option (List Int) := concordancelaw6_wide_uint16.l0 k l0 ([] : List Int) 0
theorem concordancelaw6_wide_uint16.mono_l : ∀ k, (∀ y0 y1 y2, LeO (concordancelaw6_wide_uint16.l0 k y0 y1 y2) (concordancelaw6_wide_uint16.l0 (k + 1) y0 y1 y2))
  | 0 => fun _ _ _ r h => by simp [concordancelaw6_wide_uint16.l0] at h
  | k + 1 => by
    have ih0 := concordancelaw6_wide_uint16.mono_l k
    · intro y0 y1 y2
      unfold concordancelaw6_wide_uint16.l0
      repeat' first
      | (with_reducible exact ih0 _ _ _)
      | (with_reducible exact LeO.refl _)
      | (with_reducible exact LeO.none _)
      | (with_reducible refine LeO.ite ?_ ?_)
      | (with_reducible refine LeO.bind ?_ (fun _ => ?_))
      | exact ih0 _ _ _
      | exact LeO.none _
      | refine LeO.ite ?_ ?_
      | refine LeO.bind ?_ (fun _ => ?_)
theorem concordancelaw6_wide_uint16.mono : ∀ a0 k, LeO (concordancelaw6_wide_uint16.f k a0) (concordancelaw6_wide_uint16.f (k + 1) a0) := by
  intro a0 k
  have ih0 := concordancelaw6_wide_uint16.mono_l k
  unfold concordancelaw6_wide_uint16.f
  repeat' first
      | (with_reducible exact ih0 _ _ _)
      | (with_reducible exact LeO.refl _)
      | (with_reducible exact LeO.none _)
      | (with_reducible refine LeO.ite ?_ ?_)
      | (with_reducible refine LeO.bind ?_ (fun _ => ?_))
      | exact ih0 _ _ _
      | exact LeO.none _
      | refine LeO.ite ?_ ?_
      | refine LeO.bind ?_ (fun _ => ?_)
set_option maxHeartbeats 8000000 in
set_option maxRecDepth 100000 in
theorem concordancelaw6_wide_uint16.calls (k : Nat) (A0 : Option Addr) (c0 : Nat) (l0 : List Int) (r : List Int) (w : World) (hr0 : Kd.C (Kd.int .u16) w A0 l0.length l0) (hc0 : l0.length ≤ c0) (h : concordancelaw6_wide_uint16.f k l0 = some r) :
    Calls Try.prog 56 #[.slice A0 l0.length c0] w fun e w' => ∃ v0_ : Value, e = .returned (v0_) ∧ Kd.R (Kd.int .u64) 30 w' w.heap.size (fun _ => True) v0_ r ∧ Below w.heap.size w w' := by
  have HR0 := Aside0.mk hr0
  have HC0 := Aside0.mk hc0
  clear hr0 hc0
  have HB := Aside0.mk (Below.refl w.heap.size w)
  have H : (concordancelaw6_wide_uint16.l0 k l0 ([] : List Int) 0) = some r := h
  clear h
  have H' := Aside0.mk H
  clear H
  go_enter Try.func56, Try.ntmps56
  go_wp2
  go_loopg [3, 4] k (fun kq v3 v4 w' => ∃ (x3_1 : List Int) (x4_1 : Int), v4 = .int .i64 x4_1 ∧ Aside0 (concordancelaw6_wide_uint16.l0 kq l0 x3_1 x4_1 = some r) ∧ Aside0 (kq ≤ k) ∧ Aside0 (Kd.R (Kd.int .u64) 30 w' w.heap.size (fun _ => True) v3 x3_1) ∧ Aside0 (Below w.heap.size w w'))
  case atStart => exact ⟨(([] : List Int)), (0), (by first | rfl | (simp; done) | (simp [*]; done)), H', ⟨Nat.le_refl _⟩, ⟨by first | exact Kd.R_nil _ _ _ _ _ | exact Kd.N_nil _ _ _ _ _ | exact Kd.V_nil _ _ _ _ _ | exact Kd.Q_nil _ _ _ _ _ | exact Kd.S_nil _ _ _ _ _⟩, ⟨by repeat (first | (with_reducible first | exact HB.out | apply below_alloc | apply pw_below_drewN | apply below_drew1) | exact HB.out)⟩⟩
  case round =>
    clear H'
    obtain ⟨x3_1, x4_1, rfl, HA, HK1, HO_3, HB⟩ := hrel
    cases gk with
    | zero => exact absurd HA.out (by simp [concordancelaw6_wide_uint16.l0])
    | succ k1 =>
      have H := HA.out
      clear HA
      simp only [concordancelaw6_wide_uint16.l0] at H
      by_cases c2 : x4_1 < (l0.length : Int)
      · rw [if_pos c2] at H
        have c2b0 : decide (x4_1 < (l0.length : Int)) = true := decide_eq_true c2
        clear c2
        by_cases c3 : 0 ≤ x4_1
        · rw [if_pos c3] at H
          have c3b0 : decide (0 ≤ x4_1) = true := decide_eq_true c3
          clear c3
          by_cases c4 : x3_1.length < 17592186044416
          · rw [if_pos c4] at H
            have LMc4 := Aside0.mk c4
            clear c4
            obtain ⟨y178, hy178⟩ : ∃ y_ : List Int, y_ = (x3_1 ++ [IntKind.u64.wrap (rd l0 x4_1)]) := ⟨_, rfl⟩
            replace H : (concordancelaw6_wide_uint16.l0 k1 l0 y178 (wrap64 (x4_1 + 1))) = some r := by first | (rw [hy178]; with_reducible exact H) | (have H2_ := (Option.bind_some _ _).symm.trans H; rw [hy178]; with_reducible exact H2_) | (have H2_ := (Option.bind_some _ _).symm.trans H; with_reducible exact H2_) | with_reducible exact H | (rw [hy178]; exact H) | exact H
            have Ny178 := Aside0.mk hy178
            clear hy178
            have H' := Aside0.mk H
            clear H
            have p177 : 0 ≤ (x4_1 : Int) := of_decide_eq_true (by first | (with_reducible assumption) | assumption)
            have q177 : x4_1 < (l0.length : Int) := of_decide_eq_true (by first | (with_reducible assumption) | assumption)
            obtain ⟨ad177, e177, hx177_0⟩ := Kd.at_int HR0.out x4_1 p177 q177
            cases e177
            replace hx177_0 := (HB.out.cell (World.block_lt_of_cell? w _ hx177_0)).trans hx177_0
            replace p177 := eq_true p177
            replace q177 := eq_true q177
            go_wp2_with (first | ((with_reducible refine gate_builtin (b := .append) (xs := #[.tmp 11, .tmp 17]) rfl ?_); at_builtin; refine Kd.R_append (Kd.int .u64) (w0 := w) w.heap.size rfl (.tmp 11) (.tmp 17) 28 30 (.int .u64 0) 8 rfl Try.underlying28 info30 rfl (by decide) (by omega) u3 x3_1 (IntKind.u64.wrap (rd l0 x4_1)) [.int .u64 (IntKind.u64.wrap (rd l0 x4_1))] (fun _ => True) (fun _ => False) rfl rfl ?aP (fun _ hk => hk.elim) ?aF ?aO ?aB ?aS ?aL ?_; (case aP => exact rfl); (case aB => exact (by repeat (first | (with_reducible first | exact HB.out | apply below_alloc | apply pw_below_drewN | apply below_drew1) | exact HB.out))); (case aF => exact (fun _ _ => trivial)); (case aO => exact (by (with_reducible repeat (first | apply Kd.R_alloc | apply Kd.R_drewN | apply Kd.R_drew)); exact HO_3.out)); (case aS => exact (below_size (by repeat (first | (with_reducible first | exact HB.out | apply below_alloc | apply pw_below_drewN | apply below_drew1) | exact HB.out)))); (case aL => have := LMc4.out; omega); intro v179 w5 ho hb hg hat; rw [← Ny178.out] at ho; have n0_ := Aside0.mk (hb); have n1_ := Aside0.mk (ho); clear HB; clear HO_3; have HB := n0_; have HO180 := n1_; clear n0_ n1_; clear ho hb hg hat))
            go_roundg k1
            case measure => have := HK1.out; omega
            case rel => exact ⟨(y178), (wrap64 (x4_1 + 1)), (by first | rfl | (simp; done) | (simp [*]; done)), H', ⟨by have := HK1.out; omega⟩, ⟨by (with_reducible repeat (first | apply Kd.R_alloc | apply Kd.R_drewN | apply Kd.R_drew)); exact HO180.out⟩, ⟨by repeat (first | (with_reducible first | exact HB.out | apply below_alloc | apply pw_below_drewN | apply below_drew1) | exact HB.out)⟩⟩
          · rw [if_neg c4] at H
            exact absurd H (by simp)
        · rw [if_neg c3] at H
          exact absurd H (by simp)
      · rw [if_neg c2] at H
        have c2b0 : decide (x4_1 < (l0.length : Int)) = false := decide_eq_false c2
        clear c2
        obtain rfl := Option.some.inj H
        go_wp2
        go_ret
        exact ⟨_, by first | rfl | (simp [errW_none, errW_some] <;> rfl) | (simp [*, errW_none, errW_some] <;> rfl), by (with_reducible repeat (first | apply Kd.R_alloc | apply Kd.R_drewN | apply Kd.R_drew)); exact HO_3.out, by repeat (first | (with_reducible first | exact HB.out | apply below_alloc | apply pw_below_drewN | apply below_drew1) | exact HB.out)⟩

end Go.Proofs.Ytolncaccemfbdaa.PPk

/- Printed by a program of this session (drv.py) from the translation of this seat: functions, their contracts, rows. -/
namespace Go.Proofs.Ytolncaccemfbdaa.PPk
open Go.RowKit Go.Proofs.YtolncaccemfbdaaW.PrintWords Go.Proofs.YtolncaccemfbdaaW.PrintLast Go.Proofs.YtolncaccemfbdaaW.PrintMore
attribute [local go_sem] max2_int min2_int max_two min_two max_three min_three max_four min_four   -- for this text's walks alone
set_option linter.unusedVariables false
set_option linter.unusedSimpArgs false

/-! ### concordanceref6_Width: function 40 -/
mutual
def concordanceref6_Width.l0 : Nat → List Int → Int → Int → Option (Int)
  | 0, _, _, _ => none
  | k + 1, x0, x3, x4 => if x4 < (x0.length : Int) then (concordanceref6_Width.l1 k x0 x3 x4) else (some x3)
def concordanceref6_Width.l1 : Nat → List Int → Int → Int → Option (Int)
  | 0, _, _, _ => none
  | k + 1, x0, x3, x4 => if x3 < 64 then (if 0 ≤ x4 then (if x4 < (x0.length : Int) then (if 0 ≤ x3 then (if (shr .u64 (rd x0 x4) x3) = 0 then (concordanceref6_Width.l0 k x0 x3 (wrap64 (x4 + 1))) else (concordanceref6_Width.l1 k x0 (wrap64 (x3 + 1)) x4)) else (none)) else (none)) else (none)) else (concordanceref6_Width.l0 k x0 x3 (wrap64 (x4 + 1)))
end
def concordanceref6_Width.f (k : Nat) (l0 : List Int) : Option (Int) := concordanceref6_Width.l0 k l0 0 0
theorem concordanceref6_Width.mono_l : ∀ k, (∀ y0 y1 y2, LeO (concordanceref6_Width.l0 k y0 y1 y2) (concordanceref6_Width.l0 (k + 1) y0 y1 y2)) ∧ (∀ y0 y1 y2, LeO (concordanceref6_Width.l1 k y0 y1 y2) (concordanceref6_Width.l1 (k + 1) y0 y1 y2))
  | 0 => ⟨fun _ _ _ r h => by simp [concordanceref6_Width.l0] at h, fun _ _ _ r h => by simp [concordanceref6_Width.l1] at h⟩
  | k + 1 => by
    obtain ⟨ih0, ih1⟩ := concordanceref6_Width.mono_l k
    refine ⟨?_, ?_⟩
    · intro y0 y1 y2
      unfold concordanceref6_Width.l0
      repeat' first
      | (with_reducible exact ih0 _ _ _)
      | (with_reducible exact ih1 _ _ _)
      | (with_reducible exact LeO.refl _)
      | (with_reducible exact LeO.none _)
      | (with_reducible refine LeO.ite ?_ ?_)
      | (with_reducible refine LeO.bind ?_ (fun _ => ?_))
      | exact ih0 _ _ _
      | exact ih1 _ _ _
      | exact LeO.none _
      | refine LeO.ite ?_ ?_
      | refine LeO.bind ?_ (fun _ => ?_)
    · intro y0 y1 y2
      unfold concordanceref6_Width.l1
      repeat' first
      | (with_reducible exact ih0 _ _ _)
      | (with_reducible exact ih1 _ _ _)
      | (with_reducible exact LeO.refl _)
      | (with_reducible exact LeO.none _)
      | (with_reducible refine LeO.ite ?_ ?_)
      | (with_reducible refine LeO.bind ?_ (fun _ => ?_))
      | exact ih0 _ _ _
      | exact ih1 _ _ _
      | exact LeO.none _
      | refine LeO.ite ?_ ?_
      | refine LeO.bind ?_ (fun _ => ?_)
theorem concordanceref6_Width.mono : ∀ a0 k, LeO (concordanceref6_Width.f k a0) (concordanceref6_Width.f (k + 1) a0) := by
  intro a0 k
  obtain ⟨ih0, ih1⟩ := concordanceref6_Width.mono_l k
  unfold concordanceref6_Width.f
  repeat' first
      | (with_reducible exact ih0 _ _ _)
      | (with_reducible exact ih1 _ _ _)
      | (with_reducible exact LeO.refl _)
      | (with_reducible exact LeO.none _)
      | (with_reducible refine LeO.ite ?_ ?_)
      | (with_reducible refine LeO.bind ?_ (fun _ => ?_))
      | exact ih0 _ _ _
      | exact ih1 _ _ _
      | exact LeO.none _
      | refine LeO.ite ?_ ?_
      | refine LeO.bind ?_ (fun _ => ?_)
set_option maxHeartbeats 8000000 in
set_option maxRecDepth 100000 in
theorem concordanceref6_Width.calls (k : Nat) (A0 : Option Addr) (c0 : Nat) (l0 : List Int) (r : Int) (w : World) (hr0 : Kd.C (Kd.int .u64) w A0 l0.length l0) (hc0 : l0.length ≤ c0) (h : concordanceref6_Width.f k l0 = some r) :
    Calls Try.prog 40 #[.slice A0 l0.length c0] w fun e w' => e = .returned (.int .i64 r) ∧ Drawn0 w w' := by
  have HR0 := Aside0.mk hr0
  have HC0 := Aside0.mk hc0
  clear hr0 hc0
  have H : (concordanceref6_Width.l0 k l0 0 0) = some r := h
  clear h
  have H' := Aside0.mk H
  clear H
  go_enter Try.func40, Try.ntmps40
  go_wp2
  go_loopg [3, 4] k (fun kq v3 v4 w' => ∃ (x3_1 : Int) (x4_1 : Int), v3 = .int .i64 x3_1 ∧ v4 = .int .i64 x4_1 ∧ Aside0 (concordanceref6_Width.l0 kq l0 x3_1 x4_1 = some r) ∧ Aside0 (kq ≤ k) ∧ Drawn0 w w')
  case atStart => exact ⟨(0), (0), (by first | rfl | (simp; done) | (simp [*]; done)), (by first | rfl | (simp; done) | (simp [*]; done)), H', ⟨Nat.le_refl _⟩, by repeat (first | exact Drawn0.refl _ | apply Drawn0.step)⟩
  case round =>
    clear H'
    obtain ⟨x3_1, x4_1, rfl, rfl, HA, HK1, ⟨m1, rfl⟩⟩ := hrel
    cases gk with
    | zero => exact absurd HA.out (by simp [concordanceref6_Width.l0])
    | succ k1 =>
      have H := HA.out
      clear HA
      simp only [concordanceref6_Width.l0] at H
      by_cases c2 : x4_1 < (l0.length : Int)
      · rw [if_pos c2] at H
        have c2b0 : decide (x4_1 < (l0.length : Int)) = true := decide_eq_true c2
        clear c2
        have H' := Aside0.mk H
        clear H
        go_wp2
        go_loopg [3] k1 (fun kq v3 w' => ∃ (x3_2 : Int), v3 = .int .i64 x3_2 ∧ Aside0 (concordanceref6_Width.l1 kq l0 x3_2 x4_1 = some r) ∧ Aside0 (kq ≤ k1) ∧ Drawn0 w w')
        case atStart => exact ⟨(x3_1), (by first | rfl | (simp; done) | (simp [*]; done)), H', ⟨Nat.le_refl _⟩, by repeat (first | exact Drawn0.refl _ | apply Drawn0.step)⟩
        case round =>
          clear H'
          try clear c2
          try clear c2b0
          try clear p2
          obtain ⟨x3_2, rfl, HA, HK2, ⟨m2, rfl⟩⟩ := hrel
          cases gk with
          | zero => exact absurd HA.out (by simp [concordanceref6_Width.l1])
          | succ k2 =>
            have H := HA.out
            clear HA
            simp only [concordanceref6_Width.l1] at H
            by_cases c3 : x3_2 < 64
            · rw [if_pos c3] at H
              have c3b0 : decide (x3_2 < 64) = true := decide_eq_true c3
              clear c3
              by_cases c4 : 0 ≤ x4_1
              · rw [if_pos c4] at H
                have c4b0 : decide (0 ≤ x4_1) = true := decide_eq_true c4
                clear c4
                by_cases c5 : x4_1 < (l0.length : Int)
                · rw [if_pos c5] at H
                  have c5b0 : decide (x4_1 < (l0.length : Int)) = true := decide_eq_true c5
                  clear c5
                  by_cases c6 : 0 ≤ x3_2
                  · rw [if_pos c6] at H
                    have c6b0 := eq_true c6
                    have c6b1 : decide (0 ≤ x3_2) = true := decide_eq_true c6
                    clear c6
                    obtain ⟨ji7, hji7⟩ : ∃ j_ : Int, (shr .u64 (rd l0 x4_1) x3_2) = j_ := ⟨_, rfl⟩
                    replace H : (if (ji7) = 0 then (concordanceref6_Width.l0 k2 l0 x3_2 (wrap64 (x4_1 + 1))) else (concordanceref6_Width.l1 k2 l0 (wrap64 (x3_2 + 1)) x4_1)) = some r := by first | (rw [hji7] at H; exact H) | (simp only [hji7] at H ⊢; exact H)
                    have hji7_ : ((rd l0 x4_1) / 2 ^ min x3_2.toNat 64) = ji7 := hji7
                    have hji7z : x3_2 ≤ 64 → ((rd l0 x4_1) / 2 ^ x3_2.toNat) = ji7 := shr_small hji7
                    by_cases c8 : (ji7) = 0
                    · rw [if_pos c8] at H
                      have c8b0 : ((ji7) == 0) = true := beq_iff_eq.mpr c8
                      have c8b1 : ((ji7) != 0) = false := bne_eq_false_iff_eq.mpr c8
                      clear c8
                      have H' := Aside0.mk H
                      clear H
                      have p118 : 0 ≤ (x4_1 : Int) := of_decide_eq_true (by first | (with_reducible assumption) | assumption)
                      have q118 : x4_1 < (l0.length : Int) := of_decide_eq_true (by first | (with_reducible assumption) | assumption)
                      obtain ⟨ad118, e118, hx118_0⟩ := Kd.at_int HR0.out x4_1 p118 q118
                      cases e118
                      replace p118 := eq_true p118
                      replace q118 := eq_true q118
                      go_wp2
                      go_roundg k2
                      case measure => have := HK1.out; have := HK2.out; omega
                      case rel => exact ⟨(x3_2), (wrap64 (x4_1 + 1)), (by first | rfl | (simp; done) | (simp [*]; done)), (by first | rfl | (simp; done) | (simp [*]; done)), H', ⟨by have := HK1.out; have := HK2.out; omega⟩, by repeat (first | exact Drawn0.refl _ | apply Drawn0.step)⟩
                    · rw [if_neg c8] at H
                      have c8b0 : ((ji7) == 0) = false := beq_eq_false_iff_ne.mpr c8
                      have c8b1 : ((ji7) != 0) = true := bne_iff_ne.mpr c8
                      have H' := Aside0.mk H
                      clear H
                      have p118 : 0 ≤ (x4_1 : Int) := of_decide_eq_true (by first | (with_reducible assumption) | assumption)
                      have q118 : x4_1 < (l0.length : Int) := of_decide_eq_true (by first | (with_reducible assumption) | assumption)
                      obtain ⟨ad118, e118, hx118_0⟩ := Kd.at_int HR0.out x4_1 p118 q118
                      cases e118
                      replace p118 := eq_true p118
                      replace q118 := eq_true q118
                      go_wp2
                      go_roundg k2
                      case measure => have := HK1.out; have := HK2.out; omega
                      case rel => exact ⟨(wrap64 (x3_2 + 1)), (by first | rfl | (simp; done) | (simp [*]; done)), H', ⟨by have := HK1.out; have := HK2.out; omega⟩, by repeat (first | exact Drawn0.refl _ | apply Drawn0.step)⟩
                  · rw [if_neg c6] at H
                    exact absurd H (by simp)
                · rw [if_neg c5] at H
                  exact absurd H (by simp)
              · rw [if_neg c4] at H
                exact absurd H (by simp)
            · rw [if_neg c3] at H
              have c3b0 : decide (x3_2 < 64) = false := decide_eq_false c3
              clear c3
              have H' := Aside0.mk H
              clear H
              go_wp2
              go_roundg k2
              case measure => have := HK1.out; have := HK2.out; omega
              case rel => exact ⟨(x3_2), (wrap64 (x4_1 + 1)), (by first | rfl | (simp; done) | (simp [*]; done)), (by first | rfl | (simp; done) | (simp [*]; done)), H', ⟨by have := HK1.out; have := HK2.out; omega⟩, by repeat (first | exact Drawn0.refl _ | apply Drawn0.step)⟩
      · rw [if_neg c2] at H
        have c2b0 : decide (x4_1 < (l0.length : Int)) = false := decide_eq_false c2
        clear c2
        obtain rfl := Option.some.inj H
        go_wp2
        go_ret
        exact ⟨by first | rfl | (simp; done) | (simp [*]; done), by repeat (first | exact Drawn0.refl _ | apply Drawn0.step)⟩

end Go.Proofs.Ytolncaccemfbdaa.PPk

/- Printed by a program of this session (drv.py) from the translation of this seat: functions, their contracts, rows. -/
namespace Go.Proofs.Ytolncaccemfbdaa.PPk
open Go.RowKit Go.Proofs.YtolncaccemfbdaaW.PrintWords Go.Proofs.YtolncaccemfbdaaW.PrintLast Go.Proofs.YtolncaccemfbdaaW.PrintMore
attribute [local go_sem] max2_int min2_int max_two min_two max_three min_three max_four min_four   -- for this text's walks alone
set_option linter.unusedVariables false
set_option linter.unusedSimpArgs false

/-! ### concordanceref6_May: function 34 -/
def concordanceref6_May.j0 : Nat → List Int → Bool → Option (Int)
  | 0, _, _ => none
  | k + 1, x1, x5 => if x5 = true then (some 1) else (if (x1.length : Int) > 100000 then (some 2) else (some 0))
def concordanceref6_May.f (k : Nat) (a0 : Int) (l1 : List Int) : Option (Int) := if a0 < 0 then (concordanceref6_May.j0 k l1 true) else (if a0 > 64 then (concordanceref6_May.j0 k l1 true) else ((concordanceref6_Width.f k l1).bind fun t119 => (concordanceref6_May.j0 k l1 (decide (t119 > a0)))))
theorem concordanceref6_May.mono_l : ∀ k, (∀ y0 y1, LeO (concordanceref6_May.j0 k y0 y1) (concordanceref6_May.j0 (k + 1) y0 y1))
  | 0 => fun _ _ r h => by simp [concordanceref6_May.j0] at h
  | k + 1 => by
    have ih0 := concordanceref6_May.mono_l k
    · intro y0 y1
      unfold concordanceref6_May.j0
      repeat' first
      | (with_reducible exact ih0 _ _)
      | (with_reducible exact concordanceref6_Width.mono _ _)
      | (with_reducible exact LeO.refl _)
      | (with_reducible exact LeO.none _)
      | (with_reducible refine LeO.ite ?_ ?_)
      | (with_reducible refine LeO.bind ?_ (fun _ => ?_))
      | exact ih0 _ _
      | exact concordanceref6_Width.mono _ _
      | exact LeO.none _
      | refine LeO.ite ?_ ?_
      | refine LeO.bind ?_ (fun _ => ?_)
theorem concordanceref6_May.mono : ∀ a0 a1 k, LeO (concordanceref6_May.f k a0 a1) (concordanceref6_May.f (k + 1) a0 a1) := by
  intro a0 a1 k
  have ih0 := concordanceref6_May.mono_l k
  unfold concordanceref6_May.f
  repeat' first
      | (with_reducible exact ih0 _ _)
      | (with_reducible exact concordanceref6_Width.mono _ _)
      | (with_reducible exact LeO.refl _)
      | (with_reducible exact LeO.none _)
      | (with_reducible refine LeO.ite ?_ ?_)
      | (with_reducible refine LeO.bind ?_ (fun _ => ?_))
      | exact ih0 _ _
      | exact concordanceref6_Width.mono _ _
      | exact LeO.none _
      | refine LeO.ite ?_ ?_
      | refine LeO.bind ?_ (fun _ => ?_)
set_option maxHeartbeats 8000000 in
set_option maxRecDepth 100000 in
theorem concordanceref6_May.calls (k : Nat) (a0 : Int) (A1 : Option Addr) (c1 : Nat) (l1 : List Int) (r : Int) (w : World) (hr1 : Kd.C (Kd.int .u64) w A1 l1.length l1) (hc1 : l1.length ≤ c1) (h : concordanceref6_May.f k a0 l1 = some r) :
    Calls Try.prog 34 #[.int .i64 a0, .slice A1 l1.length c1] w fun e w' => e = .returned (.int .i64 r) ∧ Drawn0 w w' := by
  have HR1 := Aside0.mk hr1
  have HC1 := Aside0.mk hc1
  clear hr1 hc1
  have H : (if a0 < 0 then (concordanceref6_May.j0 k l1 true) else (if a0 > 64 then (concordanceref6_May.j0 k l1 true) else ((concordanceref6_Width.f k l1).bind fun t119 => (concordanceref6_May.j0 k l1 (decide (t119 > a0)))))) = some r := h
  clear h
  have HC3 := Aside0.mk H
  clear H
  go_enter Try.func34, Try.ntmps34
  go_upto_region 1 with (fail)
  go_cut [5] (fun v5 wc => ∃ (kq : Nat) (x5_2 : Bool), v5 = .bool x5_2 ∧ Aside0 (concordanceref6_May.j0 kq l1 x5_2 = some r) ∧ Aside0 (kq ≤ k) ∧ Drawn0 w wc)
  case first =>
    have H := HC3.out
    clear HC3
    by_cases c4 : a0 < 0
    · rw [if_pos c4] at H
      have c4b0 : decide (a0 < 0) = true := decide_eq_true c4
      clear c4
      (first | rw [c4b0] | (simp only [i64_w, i32_w]; rw [c4b0]) | skip)
      have H' := Aside0.mk H
      clear H
      go_wp2
      go_meet
      case rel => exact ⟨_, (true), (by first | rfl | (simp; done) | (simp [*]; done)), H', ⟨by first | omega | exact Nat.le_refl _⟩, by repeat (first | exact Drawn0.refl _ | apply Drawn0.step)⟩
    · rw [if_neg c4] at H
      have c4b0 : decide (a0 < 0) = false := decide_eq_false c4
      clear c4
      (first | rw [c4b0] | (simp only [i64_w, i32_w]; rw [c4b0]) | skip)
      by_cases c5 : a0 > 64
      · rw [if_pos c5] at H
        have c5b0 : decide (64 < a0) = true := decide_eq_true c5
        clear c5
        have H' := Aside0.mk H
        clear H
        go_wp2
        go_meet
        case rel => exact ⟨_, (true), (by first | rfl | (simp; done) | (simp [*]; done)), H', ⟨by first | omega | exact Nat.le_refl _⟩, by repeat (first | exact Drawn0.refl _ | apply Drawn0.step)⟩
      · rw [if_neg c5] at H
        have c5b0 : decide (64 < a0) = false := decide_eq_false c5
        clear c5
        replace H := Option.bind_eq_some_iff.mp H
        obtain ⟨t119, A60, H⟩ := H
        replace H : (concordanceref6_May.j0 k l1 (decide (t119 > a0))) = some r := H
        have A6 := Aside0.mk A60
        clear A60
        have H' := Aside0.mk H
        clear H
        go_wp2_with (first | (go_at_call 40; (with_reducible refine (concordanceref6_Width.calls k _ _ l1 t119 _ ?side1 ?side2 A6.out).mono ?_); (case side1 => repeat (first | exact HR1.out | (with_reducible refine Kd.C_alloc ?_ _) | (with_reducible refine Kd.C_drewN ?_ _) | (with_reducible refine Kd.C_drew ?_))); (case side2 => exact HC1.out); rintro e w' ⟨rfl, ⟨nd, rfl⟩⟩))
        go_meet
        case rel => exact ⟨_, (decide (t119 > a0)), (by first | rfl | (simp; done) | (simp [*]; done)), H', ⟨by first | omega | exact Nat.le_refl _⟩, by repeat (first | exact Drawn0.refl _ | apply Drawn0.step)⟩
  case rest =>
    clear HC3
    try clear c1
    try clear p2
    try clear c3
    try clear c4
    try clear c4b0
    try clear c5
    try clear c5b0
    obtain ⟨kq, x5_2, rfl, HA, HJ2, ⟨mc2, rfl⟩⟩ := hcut
    cases kq with
    | zero => exact absurd HA.out (by simp [concordanceref6_May.j0])
    | succ kj2 =>
      have H := HA.out
      clear HA
      simp only [concordanceref6_May.j0] at H
      by_cases c7 : x5_2 = true
      · subst c7
        have H1 : (some 1) = some r := by rw [if_pos rfl] at H; exact H
        clear H
        have H := H1
        clear H1
        obtain rfl := Option.some.inj H
        go_wp2
        go_ret
        exact ⟨by first | rfl | (simp; done) | (simp [*]; done), by repeat (first | exact Drawn0.refl _ | apply Drawn0.step)⟩
      · replace c7 := Bool.eq_false_iff.mpr c7
        subst c7
        have H1 : (if (l1.length : Int) > 100000 then (some 2) else (some 0)) = some r := by rw [if_neg (show ¬ (false = true) by decide)] at H; exact H
        clear H
        have H := H1
        clear H1
        by_cases c8 : (l1.length : Int) > 100000
        · rw [if_pos c8] at H
          have c8b0 : decide (100000 < (l1.length : Int)) = true := decide_eq_true c8
          have c8b1 : decide (100000 < l1.length) = true := decide_eq_true (by omega)
          clear c8
          obtain rfl := Option.some.inj H
          go_wp2
          go_ret
          exact ⟨by first | rfl | (simp; done) | (simp [*]; done), by repeat (first | exact Drawn0.refl _ | apply Drawn0.step)⟩
        · rw [if_neg c8] at H
          have c8b0 : decide (100000 < (l1.length : Int)) = false := decide_eq_false c8
          have c8b1 : decide (100000 < l1.length) = false := decide_eq_false (by omega)
          clear c8
          obtain rfl := Option.some.inj H
          go_wp2
          go_ret
          exact ⟨by first | rfl | (simp; done) | (simp [*]; done), by repeat (first | exact Drawn0.refl _ | apply Drawn0.step)⟩

end Go.Proofs.Ytolncaccemfbdaa.PPk

/- Plain facts on the printed wide, same, and on the document's Width and May. -/
namespace Go.Proofs.Ytolncaccemfbdaa.Plain
open Go.RowKit Go.Proofs.YtolncaccemfbdaaW.PrintWords Go.Proofs.YtolncaccemfbdaaW.PrintLast Go.Proofs.YtolncaccemfbdaaW.PrintMore
open Go.Proofs.Ytolncaccemfbdaa.PPk
set_option linter.unusedVariables false
set_option linter.unusedSimpArgs false
theorem same_go (l : List Int) (hl : l.length ≤ 1000000) : ∀ (d k i : Nat), l.length - i = d → d < k → i ≤ l.length → concordancelaw6_same.l0 k l l (i : Int) = some true := by
  intro d
  induction d with
  | zero =>
    intro k i hd hk hi
    obtain ⟨k, rfl⟩ : ∃ m, k = m + 1 := ⟨k - 1, by omega⟩
    rw [concordancelaw6_same.l0, if_neg (by omega)]
  | succ d ih =>
    intro k i hd hk hi
    obtain ⟨k, rfl⟩ : ∃ m, k = m + 1 := ⟨k - 1, by omega⟩
    have hih := ih k (i + 1) (by omega) (by omega) (by omega)
    rw [concordancelaw6_same.l0, if_pos (by omega), if_pos (by omega), if_pos (by omega), if_pos rfl, w64 (by omega) (by omega), show (i : Int) + 1 = ((i + 1 : Nat) : Int) from by omega]
    exact hih
theorem same_f (l : List Int) (hl : l.length ≤ 1000000) : concordancelaw6_same.f (l.length + 1) l l = some true := by
  unfold concordancelaw6_same.f
  rw [if_pos rfl]
  exact same_go l hl l.length (l.length + 1) 0 (by omega) (by omega) (by omega)
theorem wide_go_u64 (l : List Int) (hb : ∀ x ∈ l, 0 ≤ x ∧ x < 18446744073709551616) (hl : l.length ≤ 1000000) : ∀ (d k i : Nat), l.length - i = d → d < k → i ≤ l.length → concordancelaw6_wide_uint64.l0 k l (l.take i) (i : Int) = some l := by
  intro d
  induction d with
  | zero =>
    intro k i hd hk hi
    obtain ⟨k, rfl⟩ : ∃ m, k = m + 1 := ⟨k - 1, by omega⟩
    rw [concordancelaw6_wide_uint64.l0, if_neg (by omega), show i = l.length from by omega, List.take_length]
  | succ d ih =>
    intro k i hd hk hi
    obtain ⟨k, rfl⟩ : ∃ m, k = m + 1 := ⟨k - 1, by omega⟩
    have hih := ih k (i + 1) (by omega) (by omega) (by omega)
    have hlt : i < l.length := by omega
    have hx := hb _ (List.getElem_mem hlt)
    have hr := rd_at l i hlt
    have hlen : (l.take i).length < 17592186044416 := by rw [List.length_take]; omega
    have hv : rd l (i : Int) = l[i] := by exact hr
    rw [concordancelaw6_wide_uint64.l0, if_pos (by omega), if_pos (by omega), if_pos hlen, hv, ← List.take_succ_eq_append_getElem hlt, w64 (by omega) (by omega), show (i : Int) + 1 = ((i + 1 : Nat) : Int) from by omega]
    exact hih
theorem wide_f_u64 (l : List Int) (hb : ∀ x ∈ l, 0 ≤ x ∧ x < 18446744073709551616) (hl : l.length ≤ 1000000) : concordancelaw6_wide_uint64.f (l.length + 1) l = some l := by
  unfold concordancelaw6_wide_uint64.f
  exact wide_go_u64 l hb hl l.length (l.length + 1) 0 (by omega) (by omega) (by omega)
theorem wide_go_u32 (l : List Int) (hb : ∀ x ∈ l, 0 ≤ x ∧ x < 4294967296) (hl : l.length ≤ 1000000) : ∀ (d k i : Nat), l.length - i = d → d < k → i ≤ l.length → concordancelaw6_wide_uint32.l0 k l (l.take i) (i : Int) = some l := by
  intro d
  induction d with
  | zero =>
    intro k i hd hk hi
    obtain ⟨k, rfl⟩ : ∃ m, k = m + 1 := ⟨k - 1, by omega⟩
    rw [concordancelaw6_wide_uint32.l0, if_neg (by omega), show i = l.length from by omega, List.take_length]
  | succ d ih =>
    intro k i hd hk hi
    obtain ⟨k, rfl⟩ : ∃ m, k = m + 1 := ⟨k - 1, by omega⟩
    have hih := ih k (i + 1) (by omega) (by omega) (by omega)
    have hlt : i < l.length := by omega
    have hx := hb _ (List.getElem_mem hlt)
    have hr := rd_at l i hlt
    have hlen : (l.take i).length < 17592186044416 := by rw [List.length_take]; omega
    have hv : IntKind.u64.wrap (rd l (i : Int)) = l[i] := by rw [hr, wrap_u64]; omega
    rw [concordancelaw6_wide_uint32.l0, if_pos (by omega), if_pos (by omega), if_pos hlen, hv, ← List.take_succ_eq_append_getElem hlt, w64 (by omega) (by omega), show (i : Int) + 1 = ((i + 1 : Nat) : Int) from by omega]
    exact hih
theorem wide_f_u32 (l : List Int) (hb : ∀ x ∈ l, 0 ≤ x ∧ x < 4294967296) (hl : l.length ≤ 1000000) : concordancelaw6_wide_uint32.f (l.length + 1) l = some l := by
  unfold concordancelaw6_wide_uint32.f
  exact wide_go_u32 l hb hl l.length (l.length + 1) 0 (by omega) (by omega) (by omega)
theorem wide_go_u16 (l : List Int) (hb : ∀ x ∈ l, 0 ≤ x ∧ x < 65536) (hl : l.length ≤ 1000000) : ∀ (d k i : Nat), l.length - i = d → d < k → i ≤ l.length → concordancelaw6_wide_uint16.l0 k l (l.take i) (i : Int) = some l := by
  intro d
  induction d with
  | zero =>
    intro k i hd hk hi
    obtain ⟨k, rfl⟩ : ∃ m, k = m + 1 := ⟨k - 1, by omega⟩
    rw [concordancelaw6_wide_uint16.l0, if_neg (by omega), show i = l.length from by omega, List.take_length]
  | succ d ih =>
    intro k i hd hk hi
    obtain ⟨k, rfl⟩ : ∃ m, k = m + 1 := ⟨k - 1, by omega⟩
    have hih := ih k (i + 1) (by omega) (by omega) (by omega)
    have hlt : i < l.length := by omega
    have hx := hb _ (List.getElem_mem hlt)
    have hr := rd_at l i hlt
    have hlen : (l.take i).length < 17592186044416 := by rw [List.length_take]; omega
    have hv : IntKind.u64.wrap (rd l (i : Int)) = l[i] := by rw [hr, wrap_u64]; omega
    rw [concordancelaw6_wide_uint16.l0, if_pos (by omega), if_pos (by omega), if_pos hlen, hv, ← List.take_succ_eq_append_getElem hlt, w64 (by omega) (by omega), show (i : Int) + 1 = ((i + 1 : Nat) : Int) from by omega]
    exact hih
theorem wide_f_u16 (l : List Int) (hb : ∀ x ∈ l, 0 ≤ x ∧ x < 65536) (hl : l.length ≤ 1000000) : concordancelaw6_wide_uint16.f (l.length + 1) l = some l := by
  unfold concordancelaw6_wide_uint16.f
  exact wide_go_u16 l hb hl l.length (l.length + 1) 0 (by omega) (by omega) (by omega)
theorem refw_l1 (l : List Int) (hb : ∀ x ∈ l, 0 ≤ x ∧ x < 18446744073709551616) (hl : l.length ≤ 1000000) (i : Nat) (hi : i < l.length) : ∀ (d k m : Nat), max m (Lib.bitLen (l[i]).toNat) - m = d → m ≤ 64 →
    concordanceref6_Width.l1 (k + 1 + d) l (m : Int) (i : Int) = concordanceref6_Width.l0 k l ((max m (Lib.bitLen (l[i]).toNat) : Nat) : Int) ((i + 1 : Nat) : Int) := by
  have hx := hb _ (List.getElem_mem hi)
  have hr := rd_at l i hi
  have hlow := bitLen_low (x := (l[i]).toNat)
  have hpow := bitLen_pow (x := (l[i]).toNat) (by omega)
  have h64 : Lib.bitLen (l[i]).toNat ≤ 64 := Lib.bitLen_le _ 64 (Nat.le_refl _) (by omega)
  obtain ⟨x, ex⟩ := Int.eq_ofNat_of_zero_le hx.1
  rw [ex] at hr hlow hpow h64 ⊢
  rw [Int.toNat_natCast] at hlow hpow h64 ⊢
  have HP := Aside0.mk hpow
  have HLO := Aside0.mk hlow
  have c2 : (0 : Int) ≤ (i : Int) := Int.natCast_nonneg _
  have c3 : (i : Int) < (l.length : Int) := by omega
  have hz : Lib.bitLen x = 0 → x = 0 := fun h => by
    have := HP.out
    rw [h] at this
    omega
  clear hx ex hpow hlow
  obtain ⟨b, eb⟩ : ∃ b, Lib.bitLen x = b := ⟨_, rfl⟩
  rw [eb] at HP HLO h64 hz ⊢
  have hw := Aside0.mk (show wrap64 ((i : Int) + 1) = ((i + 1 : Nat) : Int) from (w64 (by omega) (by omega)).trans (by omega))
  have hb0 : b ≠ 0 → x ≠ 0 := fun h3 h4 => by
    rw [h4] at eb
    have : Lib.bitLen 0 = 0 := by decide
    omega
  have hshr : ∀ m : Nat, m < 64 → shr .u64 (x : Int) (m : Int) = ((x / 2 ^ m : Nat) : Int) := fun m hm => by
    unfold shr
    rw [show IntKind.u64.bits = 64 from rfl, Int.toNat_natCast, Nat.min_eq_left (Nat.le_of_lt hm), Int.natCast_ediv, Int.natCast_pow]
    rfl
  intro d
  induction d with
  | zero =>
    intro k m hd hm
    have hbm : b ≤ m := by omega
    have hmx : max m b = m := by omega
    rw [Nat.add_zero, concordanceref6_Width.l1, hmx]
    by_cases h : (m : Int) < 64
    · have h0 : shr .u64 (rd l (i : Int)) (m : Int) = 0 := by
        rw [hr, hshr m (by omega), Nat.div_eq_of_lt (Nat.lt_of_lt_of_le HP.out (Nat.pow_le_pow_right (by decide) hbm))]
        rfl
      rw [if_pos h, if_pos c2, if_pos c3, if_pos (Int.natCast_nonneg _), if_pos h0, hw.out]
    · rw [if_neg h, hw.out]
  | succ d ih =>
    intro k m hd hm
    have hmb : m < b := by omega
    have hmx : max (m + 1) b = max m b := by omega
    have hm64 : m < 64 := by omega
    have hmi : (m : Int) < 64 := by omega
    have hmb1 : m ≤ b - 1 := by omega
    have hbn : b ≠ 0 := by omega
    have hk : k + 1 + (d + 1) = (k + 1 + d) + 1 := by omega
    have e1 : max (m + 1) b - (m + 1) = d := by omega
    have e2 : m + 1 ≤ 64 := by omega
    have hih := ih k (m + 1) e1 e2
    rw [hmx] at hih
    have hwm := Aside0.mk (show wrap64 ((m : Int) + 1) = ((m + 1 : Nat) : Int) from (w64 (by omega) (by omega)).trans (by omega))
    have h0 : ¬ shr .u64 (rd l (i : Int)) (m : Int) = 0 := by
      rw [hr, hshr m hm64]
      intro h
      have h1 := Int.ofNat_eq_zero.1 h
      rcases Nat.div_eq_zero_iff.1 h1 with h2 | h2
      · exact absurd h2 (Nat.ne_of_gt (Nat.two_pow_pos _))
      · have h3 := HLO.out (hb0 hbn)
        have h4 : 2 ^ m ≤ 2 ^ (b - 1) := Nat.pow_le_pow_right (by decide) hmb1
        exact absurd (Nat.lt_of_le_of_lt (Nat.le_trans h4 h3) h2) (Nat.lt_irrefl _)
    rw [hk, concordanceref6_Width.l1, if_pos hmi, if_pos c2, if_pos c3, if_pos (Int.natCast_nonneg _), if_neg h0, hwm.out]
    exact hih
theorem refw_go (l : List Int) (hb : ∀ x ∈ l, 0 ≤ x ∧ x < 18446744073709551616) (hl : l.length ≤ 1000000) : ∀ (d k i : Nat), l.length - i = d → i ≤ l.length → 2 * d + (64 - widthL (l.take i)) + 1 ≤ k → concordanceref6_Width.l0 k l (widthL (l.take i) : Int) (i : Int) = some (widthL l : Int) := by
  intro d
  induction d with
  | zero =>
    intro k i hd hi hk
    obtain ⟨k, rfl⟩ : ∃ m, k = m + 1 := ⟨k - 1, by omega⟩
    rw [concordanceref6_Width.l0, if_neg (by omega), show i = l.length from by omega, List.take_length]
  | succ d ih =>
    intro k i hd hi hk
    have hlt : i < l.length := by omega
    have hs : widthL (l.take (i + 1)) = max (widthL (l.take i)) (Lib.bitLen (l[i]).toNat) := by rw [List.take_succ_eq_append_getElem hlt, widthL_snoc]
    have h64 : widthL (l.take i) ≤ 64 := widthL_le.2 fun x hx => Lib.bitLen_le _ 64 (Nat.le_refl _) (by have := hb x (List.mem_of_mem_take hx); omega)
    have h65 : widthL (l.take (i + 1)) ≤ 64 := widthL_le.2 fun x hx => Lib.bitLen_le _ 64 (Nat.le_refl _) (by have := hb x (List.mem_of_mem_take hx); omega)
    obtain ⟨e, he⟩ : ∃ e, max (widthL (l.take i)) (Lib.bitLen (l[i]).toNat) - widthL (l.take i) = e := ⟨_, rfl⟩
    obtain ⟨k', hk'⟩ : ∃ k', k = (k' + 1 + e) + 1 := ⟨k - 2 - e, by omega⟩
    have h1 := refw_l1 l hb hl i hlt e k' _ he h64
    have h2 := ih k' (i + 1) (by omega) (by omega) (by omega)
    rw [hk', concordanceref6_Width.l0, if_pos (by omega), h1, ← hs]
    exact h2
theorem refw_f (l : List Int) (hb : ∀ x ∈ l, 0 ≤ x ∧ x < 18446744073709551616) (hl : l.length ≤ 1000000) : concordanceref6_Width.f (2 * l.length + 65) l = some (widthL l : Int) := by
  have h := refw_go l hb hl l.length (2 * l.length + 65) 0 (by omega) (by omega) (by rw [List.take_zero]; show 2 * l.length + (64 - 0) + 1 ≤ _; omega)
  unfold concordanceref6_Width.f
  rw [List.take_zero, show (widthL [] : Int) = 0 from rfl] at h
  exact h
theorem may_f (a : Int) (l : List Int) (hb : ∀ x ∈ l, 0 ≤ x ∧ x < 18446744073709551616) (hl : l.length ≤ 1000000) : concordanceref6_May.f (2 * l.length + 65) a l = some (newE a l) := by
  have hw := refw_f l hb hl
  have hk : 2 * l.length + 65 = (2 * l.length + 64) + 1 := by omega
  unfold concordanceref6_May.f newE
  by_cases h1 : a < 0
  · rw [if_pos h1, if_pos (.inl h1), hk, concordanceref6_May.j0, if_pos rfl]
  · rw [if_neg h1]
    by_cases h2 : 64 < a
    · rw [if_pos h2, if_pos (.inr (.inl h2)), hk, concordanceref6_May.j0, if_pos rfl]
    · rw [if_neg h2, hw, Option.bind_some, hk, concordanceref6_May.j0]
      by_cases h3 : a < (widthL l : Int)
      · rw [decide_eq_true h3, if_pos rfl, if_pos (.inr (.inr h3))]
      · have h5 : ¬ (a < 0 ∨ 64 < a ∨ a < (widthL l : Int)) := by rintro (h | h | h) <;> contradiction
        rw [decide_eq_false h3, if_neg (by simp), if_neg h5]
        by_cases h4 : 100000 < l.length
        · rw [if_pos (show (l.length : Int) > 100000 from by omega), if_pos h4]
        · rw [if_neg (show ¬ (l.length : Int) > 100000 from by omega), if_neg h4]
end Go.Proofs.Ytolncaccemfbdaa.Plain

/- Printed by a program of this session (drv.py) from the translation of this seat: functions, their contracts, rows. -/
namespace Go.Proofs.Ytolncaccemfbdaa.PPk
open Go.RowKit Go.Proofs.YtolncaccemfbdaaW.PrintWords Go.Proofs.YtolncaccemfbdaaW.PrintLast Go.Proofs.YtolncaccemfbdaaW.PrintMore
attribute [local go_sem] max2_int min2_int max_two min_two max_three min_three max_four min_four   -- for this text's walks alone
set_option linter.unusedVariables false
set_option linter.unusedSimpArgs false

/-! ### bits_Len64: function 47 (by hand) -/
def bits_Len64.f (a0 : Int) : Option (Int) := Go.Proofs.Ytolncaccemfbdaa.Hand.len64F a0
theorem bits_Len64.calls (a0 : Int) (r : Int) (w : World) (h : bits_Len64.f a0 = some r) :
    Calls Try.prog 47 #[.int .u64 a0] w fun e w' => e = .returned (.int .i64 r) ∧ Drawn0 w w' :=
  Go.Proofs.Ytolncaccemfbdaa.Hand.len64_calls _ _ _ h

end Go.Proofs.Ytolncaccemfbdaa.PPk

/- Printed by a program of this session (drv.py) from the translation of this seat: functions, their contracts, rows. -/
namespace Go.Proofs.Ytolncaccemfbdaa.PPk
open Go.RowKit Go.Proofs.YtolncaccemfbdaaW.PrintWords Go.Proofs.YtolncaccemfbdaaW.PrintLast Go.Proofs.YtolncaccemfbdaaW.PrintMore
attribute [local go_sem] max2_int min2_int max_two min_two max_three min_three max_four min_four   -- for this text's walks alone
set_option linter.unusedVariables false
set_option linter.unusedSimpArgs false

/-! ### packed_Width_uint16: function 15 -/
def packed_Width_uint16.l0 : Nat → Int → List Int → Int → Int → Option (Int)
  | 0, _, _, _, _ => none
  | k + 1, x3, x6, x7, x8 => if x8 < x7 then (if 0 ≤ x8 then (if x8 < (x6.length : Int) then ((bits_Len64.f (IntKind.u64.wrap (rd x6 x8))).bind fun t148 => (packed_Width_uint16.l0 k (mx x3 t148) x6 x7 (wrap64 (x8 + 1)))) else (none)) else (none)) else (some x3)
def packed_Width_uint16.f (k : Nat) (l0 : List Int) : Option (Int) := packed_Width_uint16.l0 k 0 l0 (l0.length : Int) 0
theorem packed_Width_uint16.mono_l : ∀ k, (∀ y0 y1 y2 y3, LeO (packed_Width_uint16.l0 k y0 y1 y2 y3) (packed_Width_uint16.l0 (k + 1) y0 y1 y2 y3))
  | 0 => fun _ _ _ _ r h => by simp [packed_Width_uint16.l0] at h
  | k + 1 => by
    have ih0 := packed_Width_uint16.mono_l k
    · intro y0 y1 y2 y3
      unfold packed_Width_uint16.l0
      repeat' first
      | (with_reducible exact ih0 _ _ _ _)
      | (with_reducible exact LeO.refl _)
      | (with_reducible exact LeO.none _)
      | (with_reducible refine LeO.ite ?_ ?_)
      | (with_reducible refine LeO.bind ?_ (fun _ => ?_))
      | exact ih0 _ _ _ _
      | exact LeO.none _
      | refine LeO.ite ?_ ?_
      | refine LeO.bind ?_ (fun _ => ?_)
theorem packed_Width_uint16.mono : ∀ a0 k, LeO (packed_Width_uint16.f k a0) (packed_Width_uint16.f (k + 1) a0) := by
  intro a0 k
  have ih0 := packed_Width_uint16.mono_l k
  unfold packed_Width_uint16.f
  repeat' first
      | (with_reducible exact ih0 _ _ _ _)
      | (with_reducible exact LeO.refl _)
      | (with_reducible exact LeO.none _)
      | (with_reducible refine LeO.ite ?_ ?_)
      | (with_reducible refine LeO.bind ?_ (fun _ => ?_))
      | exact ih0 _ _ _ _
      | exact LeO.none _
      | refine LeO.ite ?_ ?_
      | refine LeO.bind ?_ (fun _ => ?_)
set_option maxHeartbeats 8000000 in
set_option maxRecDepth 100000 in
theorem packed_Width_uint16.calls (k : Nat) (A0 : Option Addr) (c0 : Nat) (l0 : List Int) (r : Int) (w : World) (hr0 : Kd.C (Kd.int .u16) w A0 l0.length l0) (hc0 : l0.length ≤ c0) (h : packed_Width_uint16.f k l0 = some r) :
    Calls Try.prog 15 #[.slice A0 l0.length c0] w fun e w' => e = .returned (.int .i64 r) ∧ Below w.heap.size w w' := by
  have HR0 := Aside0.mk hr0
  have HC0 := Aside0.mk hc0
  clear hr0 hc0
  have HB := Aside0.mk (Below.refl w.heap.size w)
  have H : (packed_Width_uint16.l0 k 0 l0 (l0.length : Int) 0) = some r := h
  clear h
  have H' := Aside0.mk H
  clear H
  go_enter Try.func15, Try.ntmps15
  go_wp2
  go_loopg [3, 8] k (fun kq v3 v8 w' => ∃ (x3_1 : Int) (x8_1 : Int), v3 = .int .i64 x3_1 ∧ v8 = .int .i64 x8_1 ∧ Aside0 (packed_Width_uint16.l0 kq x3_1 l0 (l0.length : Int) x8_1 = some r) ∧ Aside0 (kq ≤ k) ∧ Aside0 (Below w.heap.size w w'))
  case atStart => exact ⟨(0), (0), (by first | rfl | (simp; done) | (simp [*]; done)), (by first | rfl | (simp; done) | (simp [*]; done)), H', ⟨Nat.le_refl _⟩, ⟨by repeat (first | (with_reducible first | exact HB.out | apply below_alloc | apply pw_below_drewN | apply below_drew1) | exact HB.out)⟩⟩
  case round =>
    clear H'
    try clear c1
    obtain ⟨x3_1, x8_1, rfl, rfl, HA, HK1, HB⟩ := hrel
    cases gk with
    | zero => exact absurd HA.out (by simp [packed_Width_uint16.l0])
    | succ k1 =>
      have H := HA.out
      clear HA
      simp only [packed_Width_uint16.l0] at H
      by_cases c2 : x8_1 < (l0.length : Int)
      · rw [if_pos c2] at H
        have c2b0 : decide (x8_1 < (l0.length : Int)) = true := decide_eq_true c2
        clear c2
        by_cases c3 : 0 ≤ x8_1
        · rw [if_pos c3] at H
          have c3b0 : decide (0 ≤ x8_1) = true := decide_eq_true c3
          clear c3
          by_cases c4 : x8_1 < (l0.length : Int)
          · rw [if_pos c4] at H
            have c4b0 : decide (x8_1 < (l0.length : Int)) = true := decide_eq_true c4
            clear c4
            replace H := Option.bind_eq_some_iff.mp H
            obtain ⟨t148, A50, H⟩ := H
            replace H : (packed_Width_uint16.l0 k1 (mx x3_1 t148) l0 (l0.length : Int) (wrap64 (x8_1 + 1))) = some r := H
            have A5 := Aside0.mk A50
            clear A50
            obtain ⟨ji6, hji6⟩ : ∃ j_ : Int, (mx x3_1 t148) = j_ := ⟨_, rfl⟩
            replace H : (packed_Width_uint16.l0 k1 ji6 l0 (l0.length : Int) (wrap64 (x8_1 + 1))) = some r := by first | (rw [hji6] at H; exact H) | (simp only [hji6] at H ⊢; exact H)
            (try rw [hji6] at A5)
            have hji6_ : (if x3_1 < t148 then t148 else x3_1) = ji6 := hji6
            have H' := Aside0.mk H
            clear H
            have p147 : 0 ≤ (x8_1 : Int) := of_decide_eq_true (by first | (with_reducible assumption) | assumption)
            have q147 : x8_1 < (l0.length : Int) := of_decide_eq_true (by first | (with_reducible assumption) | assumption)
            obtain ⟨ad147, e147, hx147_0⟩ := Kd.at_int HR0.out x8_1 p147 q147
            cases e147
            replace hx147_0 := (HB.out.cell (World.block_lt_of_cell? w _ hx147_0)).trans hx147_0
            replace p147 := eq_true p147
            replace q147 := eq_true q147
            go_wp2_with (first | ((with_reducible refine gate_callee (f := 47) rfl ?_); refine goesL_ (some 15) rfl rfl Try.func47 (by kernel_rfl) rfl #[.int .u64 (IntKind.u64.wrap (rd l0 x8_1))] rfl (by (try simp only [List.map_toArray, List.map_cons, List.map_nil]); first | done | rfl | (simp only [List.length_drop, List.length_take]; rfl)) ?_; (with_reducible refine (bits_Len64.calls (IntKind.u64.wrap (rd l0 x8_1)) t148 _ A5.out).mono ?_); rintro e w' ⟨rfl, ⟨nd, rfl⟩⟩; refine ⟨_, rfl, ?_⟩))
            go_roundg k1
            case measure => have := HK1.out; omega
            case rel => exact ⟨(ji6), (wrap64 (x8_1 + 1)), (by first | rfl | (simp; done) | (simp only [← hji6] <;> (first | rfl | simp)) | (simp [*]; done)), (by first | rfl | (simp; done) | (simp [*]; done)), H', ⟨by have := HK1.out; omega⟩, ⟨by repeat (first | (with_reducible first | exact HB.out | apply below_alloc | apply pw_below_drewN | apply below_drew1) | exact HB.out)⟩⟩
          · rw [if_neg c4] at H
            exact absurd H (by simp)
        · rw [if_neg c3] at H
          exact absurd H (by simp)
      · rw [if_neg c2] at H
        have c2b0 : decide (x8_1 < (l0.length : Int)) = false := decide_eq_false c2
        clear c2
        obtain rfl := Option.some.inj H
        go_wp2
        go_ret
        exact ⟨by first | rfl | (simp [errW_none, errW_some] <;> rfl) | (simp [*, errW_none, errW_some] <;> rfl), by repeat (first | (with_reducible first | exact HB.out | apply below_alloc | apply pw_below_drewN | apply below_drew1) | exact HB.out)⟩

end Go.Proofs.Ytolncaccemfbdaa.PPk

/- Packed numbers of the type uint16: what Width, New, Get, Len tell. -/
namespace Go.Proofs.Ytolncaccemfbdaa.V16
open Go.RowKit Go.Proofs.YtolncaccemfbdaaW.PrintWords Go.Proofs.YtolncaccemfbdaaW.PrintLast Go.Proofs.YtolncaccemfbdaaW.PrintMore
open Go.Proofs.Ytolncaccemfbdaa.Plain Go.Proofs.Ytolncaccemfbdaa.PPk Go.Proofs.Ytolncaccemfbdaa.Hand
set_option linter.unusedVariables false
set_option linter.unusedSimpArgs false
theorem width_go (l : List Int) (hb : ∀ x ∈ l, 0 ≤ x ∧ x < 65536) (hl : l.length ≤ 1000000) : ∀ (d k i : Nat), l.length - i = d → d < k → i ≤ l.length → packed_Width_uint16.l0 k (widthL (l.take i) : Int) l (l.length : Int) (i : Int) = some (widthL l : Int) := by
  intro d
  induction d with
  | zero =>
    intro k i hd hk hi
    obtain ⟨k, rfl⟩ : ∃ m, k = m + 1 := ⟨k - 1, by omega⟩
    rw [packed_Width_uint16.l0, if_neg (by omega), show i = l.length from by omega, List.take_length]
  | succ d ih =>
    intro k i hd hk hi
    obtain ⟨k, rfl⟩ : ∃ m, k = m + 1 := ⟨k - 1, by omega⟩
    have hlt : i < l.length := by omega
    have hx := hb _ (List.getElem_mem hlt)
    have hf : bits_Len64.f (IntKind.u64.wrap (rd l (i : Int))) = some (Lib.bitLen (l[i]).toNat : Int) := by
      rw [rd_at l i hlt]
      rw [wrap_u64, Int.emod_eq_of_lt hx.1 (by omega)]
      unfold bits_Len64.f len64F
      rw [if_pos (by omega)]
    rw [packed_Width_uint16.l0, if_pos (by omega), if_pos (by omega), if_pos (by omega), hf, Option.bind_some, mx_cast, w64 (by omega) (by omega)]
    have e : max (widthL (l.take i)) (Lib.bitLen (l[i]).toNat) = widthL (l.take (i + 1)) := by
      rw [List.take_succ_eq_append_getElem hlt, widthL_snoc]
    rw [e, show (i : Int) + 1 = ((i + 1 : Nat) : Int) from by omega]
    exact ih k (i + 1) (by omega) (by omega) (by omega)
theorem width_f (l : List Int) (hb : ∀ x ∈ l, 0 ≤ x ∧ x < 65536) (hl : l.length ≤ 1000000) : packed_Width_uint16.f (l.length + 1) l = some (widthL l : Int) := by
  have := width_go l hb hl l.length (l.length + 1) 0 (by omega) (by omega) (by omega)
  rw [List.take_zero, show (widthL [] : Int) = 0 from rfl] at this
  exact this

theorem hinfo : (Try.prog.info? 40).map (fun i => (i.zero, i.size, i.bytes)) = some (some (.int .u16 0), 1, 2) := by kernel_rfl
set_option maxHeartbeats 800000 in
set_option maxRecDepth 100000 in
theorem clone_calls (A0 : Option Addr) (c0 : Nat) (l0 : List Int) (w : World) (hr0 : Kd.C (Kd.int .u16) w A0 l0.length l0) (hl : l0.length ≤ 1000000) :
    Calls Try.prog 49 #[.slice A0 l0.length c0] w fun e w' => ∃ v0_ : Value, e = .returned v0_ ∧ Kd.R (Kd.int .u16) 40 w' w.heap.size (fun _ => True) v0_ l0 ∧ Below w.heap.size w w' := by
  cases A0 with
  | none =>
    have h0 := C_none hr0
    obtain rfl : l0 = [] := List.eq_nil_of_length_eq_zero h0
    clear h0
    have hnil := fun W => Lib.run_eql_slice_nil (P := Try.prog) W 38 40 none 0 c0 0 0 Try.underlying38
    go_enter Try.func49, Try.ntmps49
    go_wp2
    go_ret
    exact ⟨_, rfl, Kd.R_nil _ _ _ _ _, Below.refl _ _⟩
  | some ad =>
    have hnil := fun W => Lib.run_eql_slice_nil (P := Try.prog) W 38 40 (some ad) l0.length c0 0 0 Try.underlying38
    have HR0 := Aside0.mk hr0
    have HL := Aside0.mk hl
    have HB := Aside0.mk (Below.refl w.heap.size w)
    clear hr0 hl
    go_enter Try.func49, Try.ntmps49
    go_wp2_with (first | ((with_reducible refine gate_dst (N := 5) rfl ?_); refine Kd.R_lit (Kd.int .u16) _ 40 ?hg (N := 5) ?hd (xs := ([] : List Int)) (inner := []) (ok := fun _ => True) (okp := fun _ => True) ?hr ?hp (fun _ hk => hk) trivial (Below.refl _ _) (Nat.le_refl _) (by simp) ?_; (case hd => rfl); (case hg => rfl); (case hr => first | (go_simp; done) | (go_simp; rfl)); (case hp => exact Reps.none _ _); intro v1 w1 ho hb hg_ hnew_; clear hg_ hnew_; have HO := Aside0.mk ho; clear HB; have HB := Aside0.mk hb; clear ho hb) | ((with_reducible refine gate_builtin (b := .append) (xs := #[.tmp 5, .tmp 6]) rfl ?_); at_builtin; refine Kd.R_append_rows (Kd.int .u16) (w0 := w) w.heap.size rfl (.tmp 5) (.tmp 6) 38 40 (.int .u16 0) 2 rfl Try.underlying38 hinfo rfl (by decide) (by omega) v1 [] l0 _ _ _ (fun _ => True) (fun _ => False) rfl rfl ?aO ?aR (fun _ _ h => h) (fun _ h => h.elim) ?aF ?aB ?aS ?aL ?_; (case aR => exact (Kd.C_below HR0.out HB.out)); (case aB => exact HB.out); (case aF => exact (fun _ _ => trivial)); (case aO => exact HO.out); (case aS => exact (below_size HB.out)); (case aL => have := HL.out; simp only [List.length_nil]; omega); intro v2 w2 ho hb hg hat; clear HB HO; have HO := Aside0.mk ho; have HB := Aside0.mk hb; clear ho hb hg hat))
    go_ret
    exact ⟨_, rfl, HO.out, HB.out⟩
set_option maxHeartbeats 800000 in
set_option maxRecDepth 100000 in
theorem new_bad (a0 : Int) (A1 : Option Addr) (c1 : Nat) (l1 : List Int) (w : World) (hr1 : Kd.C (Kd.int .u16) w A1 l1.length l1) (hc1 : l1.length ≤ c1) (hb : ∀ x ∈ l1, 0 ≤ x ∧ x < 65536) (hl : l1.length ≤ 1000000) (r : Int) (h : newE a0 l1 = r) (h0 : r ≠ 0) :
    Calls Try.prog 16 #[.int .i64 a0, .slice A1 l1.length c1] w fun e w' => e = .returned (.tuple #[.pointer none, .int .i64 r]) ∧ Below w.heap.size w w' := by
  have HWF := Aside0.mk (width_f l1 hb hl)
  have HR1 := Aside0.mk hr1
  have HB := Aside0.mk (Below.refl w.heap.size w)
  clear hr1 hb hl
  unfold newE at h
  obtain ⟨m, em⟩ : ∃ m, widthL l1 = m := ⟨_, rfl⟩
  rw [em] at HWF h
  by_cases k1 : a0 < 0
  · have d1 : decide (a0 < 0) = true := decide_eq_true k1
    rw [if_pos (.inl k1)] at h
    subst h
    clear h0 em
    go_enter Try.func16, Try.ntmps16
    go_wp2
    refine bodyPost_ret (results_list (rs := [.tmp 4, .tmp 5]) rfl (by simp) (.tmp (.tmp .nil))) rfl ?_
    exact ⟨rfl, HB.out⟩
  have d1 : decide (a0 < 0) = false := decide_eq_false k1
  by_cases k2 : 64 < a0
  · have d2 : decide (64 < a0) = true := decide_eq_true k2
    rw [if_pos (.inr (.inl k2))] at h
    subst h
    clear h0 em
    go_enter Try.func16, Try.ntmps16
    go_wp2
    refine bodyPost_ret (results_list (rs := [.tmp 4, .tmp 5]) rfl (by simp) (.tmp (.tmp .nil))) rfl ?_
    exact ⟨rfl, HB.out⟩
  have d2 : decide (64 < a0) = false := decide_eq_false k2
  by_cases k3 : a0 < (m : Int)
  · have d3 : decide (a0 < (m : Int)) = true := decide_eq_true k3
    rw [if_pos (.inr (.inr k3))] at h
    subst h
    clear h0 em
    go_enter Try.func16, Try.ntmps16
    go_wp2_with (first | (go_at_call 15; refine (packed_Width_uint16.calls _ _ _ _ _ _ (Kd.C_below HR1.out HB.out) hc1 HWF.out).mono ?_; rintro e w1 ⟨rfl, hb⟩; have n1_ := Aside0.mk (below_step HB.out hb); clear HB hb; have HB := n1_; clear n1_))
    refine bodyPost_ret (results_list (rs := [.tmp 4, .tmp 5]) rfl (by simp) (.tmp (.tmp .nil))) rfl ?_
    exact ⟨rfl, HB.out⟩
  have d3 : decide (a0 < (m : Int)) = false := decide_eq_false k3
  by_cases k4 : 100000 < l1.length
  · have d4 : decide (100000 < (l1.length : Int)) = true := decide_eq_true (by omega)
    rw [if_neg (by omega), if_pos k4] at h
    subst h
    clear h0 em
    go_enter Try.func16, Try.ntmps16
    go_wp2_with (first | (go_at_call 15; refine (packed_Width_uint16.calls _ _ _ _ _ _ (Kd.C_below HR1.out HB.out) hc1 HWF.out).mono ?_; rintro e w1 ⟨rfl, hb⟩; have n1_ := Aside0.mk (below_step HB.out hb); clear HB hb; have HB := n1_; clear n1_))
    refine bodyPost_ret (results_list (rs := [.tmp 4, .tmp 5]) rfl (by simp) (.tmp (.tmp .nil))) rfl ?_
    exact ⟨rfl, HB.out⟩
  · rw [if_neg (by omega), if_neg k4] at h
    exact absurd h.symm h0
set_option maxHeartbeats 800000 in
set_option maxRecDepth 100000 in
theorem new_good (a0 : Int) (A1 : Option Addr) (c1 : Nat) (l1 : List Int) (w : World) (hr1 : Kd.C (Kd.int .u16) w A1 l1.length l1) (hc1 : l1.length ≤ c1) (hb : ∀ x ∈ l1, 0 ≤ x ∧ x < 65536) (hl : l1.length ≤ 1000000) (h : newE a0 l1 = 0) :
    Calls Try.prog 16 #[.int .i64 a0, .slice A1 l1.length c1] w fun e w' => ∃ g, e = .returned (.tuple #[.pointer (some ⟨g, 0, none⟩), .int .i64 0]) ∧ w.heap.size ≤ g ∧ VecAt .u16 86 w' g a0 l1 ∧ Below w.heap.size w w' := by
  have HWF := Aside0.mk (width_f l1 hb hl)
  have HR1 := Aside0.mk hr1
  have HL := Aside0.mk hl
  have HB := Aside0.mk (Below.refl w.heap.size w)
  clear hr1 hb hl
  obtain ⟨k1, k2, k3, k4⟩ := newE_ok h
  obtain ⟨m, em⟩ : ∃ m, widthL l1 = m := ⟨_, rfl⟩
  rw [em] at HWF k3
  have d1 : decide (a0 < 0) = false := decide_eq_false (by omega)
  have d2 : decide (64 < a0) = false := decide_eq_false (by omega)
  have d3 : decide (a0 < (m : Int)) = false := decide_eq_false (by omega)
  have d4 : decide (100000 < (l1.length : Int)) = false := decide_eq_false (by omega)
  clear em h
  go_enter Try.func16, Try.ntmps16
  go_wp2_with (first | (go_at_call 15; refine (packed_Width_uint16.calls _ _ _ _ _ _ (Kd.C_below HR1.out HB.out) hc1 HWF.out).mono ?_; rintro e w1 ⟨rfl, hb⟩; have n1_ := Aside0.mk (below_step HB.out hb); clear HB hb; have HB := n1_; clear n1_) | (go_at_call 49; refine (clone_calls _ _ l1 _ (Kd.C_below HR1.out HB.out) HL.out).mono ?_; rintro e w2 ⟨v2, rfl, ho, hb⟩; obtain ⟨A2, c2, rfl⟩ := Kd.R_slice ho; have HO := Aside0.mk (Kd.R_reads' ho).2; have n1_ := Aside0.mk (below_step HB.out hb); clear HB hb ho; have HB := n1_; clear n1_))
  refine bodyPost_ret (results_list (rs := [.tmp 4, .tmp 5]) rfl (by simp) (.tmp (.tmp .nil))) rfl ?_
  refine ⟨w2.heap.size, rfl, HB.out.size, ⟨A2, c2, blk_new _ _, HO.out.1, Kd.C_alloc HO.out.2 _⟩, below_alloc HB.out _⟩
set_option maxHeartbeats 800000 in
set_option maxRecDepth 100000 in
theorem get_calls (g : Nat) (a0 : Int) (l : List Int) (i : Int) (w : World) (h : VecAt .u16 86 w g a0 l) :
    Calls Try.prog 30 #[.pointer (some ⟨g, 0, none⟩), .int .i64 i] w fun e w' => e = .returned (.int .u16 (if 0 ≤ i ∧ i < l.length then rd l i else 0)) ∧ w' = w := by
  obtain ⟨A, c, hb, hle, hC⟩ := h
  have hx1 := blk_cell hb 1
  by_cases k1 : i < 0
  · have d1 : decide (i < 0) = true := decide_eq_true k1
    rw [if_neg (by omega)]
    clear hC hb
    go_enter Try.func30, Try.ntmps30
    go_wp2
    go_ret
    exact ⟨rfl, rfl⟩
  have d1 : decide (i < 0) = false := decide_eq_false k1
  by_cases k2 : (l.length : Int) ≤ i
  · have d2 : decide ((l.length : Int) ≤ i) = true := decide_eq_true k2
    rw [if_neg (by omega)]
    clear hC hb
    go_enter Try.func30, Try.ntmps30
    go_wp2
    go_ret
    exact ⟨rfl, rfl⟩
  have d2 : decide ((l.length : Int) ≤ i) = false := decide_eq_false k2
  rw [if_pos (by omega)]
  obtain ⟨ad, rfl, hc⟩ := Kd.at_int hC i (by omega) (by omega)
  have k3 : 0 ≤ i := by omega
  have k4 : i < (l.length : Int) := by omega
  clear hC hb k1 k2
  go_enter Try.func30, Try.ntmps30
  go_wp2
  go_ret
  exact ⟨rfl, rfl⟩

set_option maxHeartbeats 800000 in
set_option maxRecDepth 100000 in
theorem len_calls (g : Nat) (a0 : Int) (l : List Int) (w : World) (h : VecAt .u16 86 w g a0 l) :
    Calls Try.prog 28 #[.pointer (some ⟨g, 0, none⟩)] w fun e w' => e = .returned (.int .i64 (l.length : Int)) ∧ w' = w := by
  obtain ⟨A, c, hb, hle, hC⟩ := h
  have hx1 := blk_cell hb 1
  clear hC hb
  go_enter Try.func28, Try.ntmps28
  go_wp2
  go_ret
  exact ⟨rfl, rfl⟩
set_option maxHeartbeats 800000 in
set_option maxRecDepth 100000 in
theorem wid_calls (g : Nat) (a0 : Int) (l : List Int) (w : World) (h : VecAt .u16 86 w g a0 l) :
    Calls Try.prog 57 #[.pointer (some ⟨g, 0, none⟩)] w fun e w' => e = .returned (.int .i64 a0) ∧ w' = w := by
  obtain ⟨A, c, hb, hle, hC⟩ := h
  have hx0 := blk_cell hb 0
  clear hC hb
  go_enter Try.func57, Try.ntmps57
  go_wp2
  go_ret
  exact ⟨rfl, rfl⟩
end Go.Proofs.Ytolncaccemfbdaa.V16

/- packed.Read of the type uint16: what bytes begin with. -/
namespace Go.Proofs.Ytolncaccemfbdaa.V16
open Go.RowKit Go.Proofs.YtolncaccemfbdaaW.PrintWords Go.Proofs.YtolncaccemfbdaaW.PrintLast Go.Proofs.YtolncaccemfbdaaW.PrintMore
open Go.Proofs.Ytolncaccemfbdaa.Plain Go.Proofs.Ytolncaccemfbdaa.PPk Go.Proofs.Ytolncaccemfbdaa.Hand
attribute [local go_sem] max2_int min2_int max_two min_two
set_option linter.unusedVariables false
set_option linter.unusedSimpArgs false
set_option maxHeartbeats 8000000 in
set_option maxRecDepth 100000 in
theorem read_calls (A0 : Option Addr) (c0 : Nat) (l : List Int) (w : World) (hr0 : Kd.C (Kd.int .u8) w A0 l.length l) (hc0 : l.length ≤ c0) (hb : isB l) (hl : l.length ≤ 1000000) (ra : Int) (rx : List Int) (rn re : Int) (hread : readF 16 l = (ra, rx, rn, re)) :
    Calls Try.prog 26 #[.slice A0 l.length c0] w fun e w' => ((re ≠ 0 ∧ e = .returned (.tuple #[.pointer none, .int .i64 0, .int .i64 re])) ∨ (re = 0 ∧ ∃ g, e = .returned (.tuple #[.pointer (some ⟨g, 0, none⟩), .int .i64 rn, .int .i64 0]) ∧ w.heap.size ≤ g ∧ VecAt .u16 86 w' g ra rx)) ∧ Below w.heap.size w w' := by
  have hhd := head_f hb (by omega)
  have HR0 := Aside0.mk hr0
  have HBY := Aside0.mk hb
  have HL := Aside0.mk hl
  clear hr0
  by_cases hh : (headF l).2.2.2 = 0
  · obtain ⟨n, q, a, hd, hn, hq, ha2, ha⟩ := head_ok hb hh
    rw [hd] at hhd
    rw [readF_of hd] at hread
    have HHD := Aside0.mk hhd
    have hnums := Aside0.mk (size_nums hn hq)
    have hsz := size_le hn hq
    obtain ⟨NW, eNW⟩ : ∃ NW, n * q = NW := ⟨_, rfl⟩
    have hmul : (n : Int) * (q : Int) = (NW : Int) := by rw [← eNW]; exact (Int.natCast_mul n q).symm
    have h8 : NW ≤ 8 * sizeN n q := by unfold sizeN; omega
    obtain ⟨sz, esz⟩ : ∃ sz, sizeN n q = sz := ⟨_, rfl⟩
    rw [eNW, esz] at hnums hsz
    rw [esz] at hread h8
    have hN7 : (NW : Int) ≤ 6400000 := by omega
    have hS7 : (sz : Int) ≤ 800000 := by omega
    have haI : (a : Int) ≤ 1000000 := by omega
    have hlI : (l.length : Int) ≤ 1000000 := by omega
    obtain ⟨R, hR⟩ : ∃ R : Nat, (l.length : Int) - (a : Int) = (R : Int) := ⟨l.length - a, by omega⟩
    have hRe : l.length - a = R := by omega
    rw [hRe] at hread
    have HQUO : Aside0 (Int.tdiv ((NW : Int) + 8 - 1) 8 = (sz : Int)) := ⟨hnums.out.2.2.2.1⟩
    have HNW := Aside0.mk (And.intro eNW (And.intro hn (And.intro hq h8)))
    clear hnums hhd hb hd hh eNW hRe esz hsz h8
    by_cases k1 : R < sz
    · have d1 : decide ((R : Int) < (sz : Int)) = true := decide_eq_true (by omega)
      rw [if_pos k1] at hread
      injection hread with e1 hread
      injection hread with e2 hread
      injection hread with e3 e4
      subst e1 e2 e3 e4
      have hquo := HQUO.out
      go_enter Try.func26, Try.ntmps26
      go_wp2_with (first | (go_at_call 54; refine (packed_header.calls _ _ _ _ _ _ _ _ _ HR0.out hc0 HHD.out).mono ?_; rintro e w1 ⟨rfl, ⟨nd, rfl⟩⟩))
      refine bodyPost_ret (results_list (rs := [.tmp 2, .tmp 3, .tmp 4]) rfl (by simp) (.tmp (.tmp (.tmp .nil)))) rfl ?_
      exact ⟨.inl ⟨by decide, rfl⟩, pw_below_drewN (Below.refl _ _) _⟩
    have d1 : decide ((R : Int) < (sz : Int)) = false := decide_eq_false (by omega)
    rw [if_neg k1] at hread
    obtain ⟨Z, hZ⟩ : ∃ Z : Nat, (a : Int) + (sz : Int) = (Z : Int) := ⟨a + sz, by omega⟩
    have hZI : (Z : Int) ≤ 2000000 := by omega
    have hmid : (l.take Z).drop a = (l.drop a).take sz := by
      rw [List.drop_take]
      congr 1
      omega
    obtain ⟨i0, hi0, _, hsz0, _⟩ := info_parts hinfo_u8
    obtain ⟨Ap, hsl, hsA, hsC⟩ := print_mid_of (P := Try.prog) (Value.int .u8) 0 23 5 .i64 .i64 Try.underlying23 hi0 hsz0 A0 c0 l (a : Int) (Z : Int) (by omega) (by omega) (by omega) hc0
    have hRx := Kd.C_of_reads (h1 := fun _ => rfl) (hsA _ (Kd.reads_of_C HR0.out))
    rw [Int.toNat_natCast, Int.toNat_natCast, hmid] at hsl hRx hsC
    have hpB : isB ((l.drop a).take sz) := isB_take (isB_drop HBY.out a) sz
    have hpl : ((l.drop a).take sz).length = sz := by rw [List.length_take, List.length_drop]; omega
    obtain ⟨PT, ePT⟩ : ∃ PT, (l.drop a).take sz = PT := ⟨_, rfl⟩
    rw [ePT] at hsl hRx hsC hpB hpl hread
    obtain ⟨cp, ecp⟩ : ∃ cp, c0 - a = cp := ⟨_, rfl⟩
    rw [ecp] at hsl hsC
    have hNl := numB_lt PT hpB
    have hbit := fun (p : Nat) (hp : p < 8 * PT.length) => bit_f hpB (by omega) hp
    rw [hpl] at hNl hbit hsl hRx hsC
    obtain ⟨N, eN⟩ : ∃ N, numB PT = N := ⟨_, rfl⟩
    rw [eN] at hNl hbit hread
    have HPT : Aside0 (Kd.C (Kd.int .u8) w Ap sz PT) := ⟨hRx⟩
    have HPC := Aside0.mk hsC
    have HBIT := Aside0.mk hbit
    have HNL := Aside0.mk hNl
    have HREAD := Aside0.mk hread
    have HPL := Aside0.mk hpl
    have HZ := Aside0.mk hZ
    clear hi0 hsz0 hsA hRx hmid hpB hpl ePT eN ecp hNl hbit hread hsC
    have hquo := HQUO.out
    go_enter Try.func26, Try.ntmps26
    go_wp2_with (first | (go_at_call 54; refine (packed_header.calls _ _ _ _ _ _ _ _ _ HR0.out hc0 HHD.out).mono ?_; rintro e w1 ⟨rfl, ⟨nd, rfl⟩⟩))
    clear hsl hR hquo
    obtain ⟨wB, ewB⟩ : ∃ wB, w.drewN nd = wB := ⟨_, rfl⟩
    have HBB := Aside0.mk (show Below w.heap.size w wB from by rw [← ewB]; exact pw_below_drewN (Below.refl _ _) _)
    have hgw : wB.heap.size = w.heap.size := by rw [← ewB]; rfl
    have hG0 := (blk_new wB (.cells #[.int .i64 (q : Int), .slice none 0 0] 86 (0, 0)))
    have HB1 := Aside0.mk (below_alloc (Below.refl wB.heap.size wB) (.cells #[.int .i64 (q : Int), .slice none 0 0] 86))
    rw [ewB]
    clear ewB
    have HGE := Aside0.mk hgw
    rw [hgw] at hG0
    have HG0 := Aside0.mk hG0
    clear hgw hG0
    have hnI : (n : Int) ≤ 100000 := by have := HNW.out.2.1; omega
    go_loopg [12, 13, 14, 48] n (fun kq v12 v13 v14 v48 w' => ∃ (i : Nat) (v : Value), v48 = .int .i64 (i : Int) ∧ Aside0 (i ≤ n ∧ n - i ≤ kq ∧ ∀ j, j < i → valN N q j < 2 ^ 16) ∧ Aside0 (w'.heap[w.heap.size]? = some (.cells #[.int .i64 (q : Int), v] 86 (0, 0))) ∧ Aside0 (Kd.R (Kd.int .u16) 40 w' wB.heap.size (fun _ => True) v (valsN N q i)) ∧ Aside0 (Below wB.heap.size wB w'))
    case atStart => exact ⟨0, _, rfl, ⟨by omega, by omega, fun j hj => by omega⟩, ⟨HG0.out⟩, ⟨Kd.R_nil _ _ _ _ _⟩, ⟨HB1.out⟩⟩
    case round =>
      clear HG0 HB1
      obtain ⟨i, v, rfl, HI, HG, HV, HB⟩ := hrel
      have hi5 : (i : Int) ≤ 100000 := by have := HI.out.1; omega
      by_cases k2 : i < n
      · have d2 : decide ((i : Int) < (n : Int)) = true := decide_eq_true (by omega)
        have HK2 := Aside0.mk k2
        obtain ⟨IW, eIW⟩ : ∃ IW, i * q = IW := ⟨_, rfl⟩
        have hmul2 : (i : Int) * (q : Int) = (IW : Int) := by rw [← eIW]; exact (Int.natCast_mul i q).symm
        have hIWN : ∀ k, k < q → IW + k < NW := fun k hk => by rw [← eIW, ← HNW.out.1]; exact place_lt k2 hk
        have hIWm : IW ≤ NW := by rw [← eIW, ← HNW.out.1]; exact Nat.mul_le_mul_right q (Nat.le_of_lt k2)
        have HIW := Aside0.mk (And.intro eIW hIWN)
        have hIWI : (IW : Int) ≤ 6400000 := by omega
        clear eIW hIWN hIWm
        go_wp2
        obtain ⟨wo, hwo⟩ : ∃ wo, wo = wr := ⟨_, rfl⟩
        rw [← hwo]
        go_loopg [13, 14, 52] 65 (fun kq v13 v14 v52 w' => ∃ k : Nat, v52 = .int .i64 (k : Int) ∧ v13 = .int .u64 ((N / 2 ^ (q * i) % 2 ^ k : Nat) : Int) ∧ Aside0 (k ≤ q ∧ q - k ≤ kq) ∧ Aside0 (Below wo.heap.size wo w'))
        case atStart => exact ⟨0, rfl, by rw [Nat.pow_zero, Nat.mod_one]; rfl, ⟨by omega, by have := HNW.out.2.2.1; omega⟩, ⟨Below.refl _ _⟩⟩
        case round =>
          obtain ⟨k, rfl, rfl, HK, HBo⟩ := hrel
          have hq64 := HNW.out.2.2.1
          have hBr := below_step HB.out (by rw [← hwo]; exact HBo.out)
          by_cases k3 : k < q
          · have d3 : decide ((k : Int) < (q : Int)) = true := decide_eq_true (by omega)
            obtain ⟨p, hp⟩ : ∃ p : Nat, (IW : Int) + (k : Int) = (p : Int) := ⟨IW + k, by omega⟩
            have hp8 : p < 8 * sz := by have h1 := HIW.out.2 k k3; have h2 := HNW.out.2.2.2; omega
            have hbit := HBIT.out p hp8
            have hvb := val_bit N q i k
            rw [show q * i + k = p from by have := HIW.out.1; rw [Nat.mul_comm] at this; omega] at hvb
            obtain ⟨b, eb⟩ : ∃ b, N / 2 ^ p % 2 = b := ⟨_, rfl⟩
            have hb2 : b < 2 := by rw [← eb]; exact Nat.mod_lt _ (by decide)
            rw [eb] at hbit hvb
            have hxl : N / 2 ^ (q * i) % 2 ^ (k + 1) < 18446744073709551616 := by
              have h1 := Nat.mod_lt (N / 2 ^ (q * i)) (Nat.two_pow_pos (k + 1))
              have h2 := Nat.pow_le_pow_right (n := 2) (by decide) (show k + 1 ≤ 64 by omega)
              omega
            have hsl : b * 2 ^ k < 18446744073709551616 := by
              have h1 := Nat.mul_le_mul_right (2 ^ k) (show b ≤ 1 by omega)
              have h2 := Nat.pow_le_pow_right (n := 2) (by decide) (show k ≤ 63 by omega)
              omega
            have hx0 : N / 2 ^ (q * i) % 2 ^ k < 18446744073709551616 := by
              have h1 := Nat.mod_lt (N / 2 ^ (q * i)) (Nat.two_pow_pos k)
              have h2 := Nat.pow_le_pow_right (n := 2) (by decide) (show k ≤ 64 by omega)
              omega
            obtain ⟨X, eX⟩ : ∃ X, N / 2 ^ (q * i) % 2 ^ k = X := ⟨_, rfl⟩
            obtain ⟨Y, eY⟩ : ∃ Y, N / 2 ^ (q * i) % 2 ^ (k + 1) = Y := ⟨_, rfl⟩
            obtain ⟨S, eS⟩ : ∃ S, b * 2 ^ k = S := ⟨_, rfl⟩
            rw [eX, eY, eS] at hvb
            rw [eX] at hx0 ⊢
            rw [eS] at hsl
            have hmn : min k 64 = k := Nat.min_eq_left (by omega)
            have hsh : IntKind.u64.wrap ((b : Int) * 2 ^ k) = (S : Int) := by
              rw [show (2 : Int) ^ k = ((2 ^ k : Nat) : Int) from by rw [Int.natCast_pow]; rfl, ← Int.natCast_mul, eS, wrap_u64]
              omega
            have hor : Go.bits .or .u64 (X : Int) (S : Int) = (Y : Int) := by rw [Go.u64_or_nat _ _ hx0 hsl, hvb]
            have HBITS := Aside0.mk hbit
            have HEY := Aside0.mk eY
            have HK3 := Aside0.mk k3
            have HBR := Aside0.mk hBr
            clear hbit hvb eX eY eS hxl hsl hx0 eb hp8 hBr
            go_wp2_with (go_at_call 55; refine (bit_calls Ap cp PT sz (p : Int) (b : Int) _ HPL.out (Kd.C_below (Kd.C_below HPT.out HBB.out) HBR.out) HPC.out HBITS.out).mono ?_; rintro e w2 ⟨rfl, ⟨nd2, rfl⟩⟩)
            go_roundg (q - 1 - k)
            case measure => have := HK.out; have := HK3.out; omega
            case rel => exact ⟨k + 1, by go_num, by have := HEY.out; go_num, ⟨by have := HK3.out; omega, by omega⟩, ⟨pw_below_drewN HBo.out _⟩⟩
          · have d3 : decide ((k : Int) < (q : Int)) = false := decide_eq_false (by omega)
            obtain rfl : k = q := by have := HK.out.1; omega
            have hBr2 : Below wo.heap.size wo wr := HBo.out
            have hvn : N / 2 ^ (k * i) % 2 ^ k = valN N k i := rfl
            obtain ⟨X, eX⟩ : ∃ X, valN N k i = X := ⟨_, rfl⟩
            rw [hvn, eX]
            have hXl : X < 18446744073709551616 := by
              rw [← eX]
              have h1 := Nat.mod_lt (N / 2 ^ (k * i)) (Nat.two_pow_pos k)
              have h2 := Nat.pow_le_pow_right (n := 2) (by decide) hq64
              unfold valN
              omega
            have HEX := Aside0.mk eX
            have HG1 := Aside0.mk (show wr.heap[w.heap.size]? = _ from blk_below (by rw [hwo]; exact HG.out) hBr2)
            have HV1 := Aside0.mk (Kd.R_below (by rw [hwo]; exact HV.out) hBr2)
            have HBR := Aside0.mk hBr
            clear hvn eX HG HV HBo hBr hBr2 HB
            have hlen := valsN_length N k i
            obtain ⟨XS, eXS⟩ : ∃ XS, valsN N k i = XS := ⟨_, rfl⟩
            rw [eXS] at HV1 hlen
            have HXS := Aside0.mk (And.intro eXS hlen)
            obtain ⟨Av, cv, rfl⟩ := Kd.R_slice HV1.out
            have hcell : wr.cell? ⟨w.heap.size, 1, none⟩ = some (.slice Av XS.length cv) := by rw [blk_cell HG1.out]; rfl
            clear eXS hlen
            by_cases k4 : X < 2 ^ 16
            · have hc1 : IntKind.u16.wrap (X : Int) = (X : Int) := by rw [Go.IntKind.wrap_u16]; omega
              have hc2 : IntKind.u64.wrap (X : Int) = (X : Int) := by rw [wrap_u64]; omega
              have HSM := Aside0.mk k4
              have HRL := Aside0.mk (show XS.length ≤ 100000 by have := HXS.out.2; omega)
              have HNE := Aside0.mk (own_ne HV1.out HG1.out (by decide))
              go_wp2_with (first | ((with_reducible refine gate_builtin (b := .append) (xs := #[.tmp 76, .tmp 79]) rfl ?_); at_builtin; refine Kd.R_append (Kd.int .u16) (w0 := wB) wB.heap.size rfl (.tmp 76) (.tmp 79) 38 40 (.int .u16 0) 2 rfl Try.underlying38 hinfo rfl (by decide) (by omega) (.slice Av XS.length cv) XS (X : Int) [.int .u16 (X : Int)] (fun _ => True) (fun _ => False) rfl rfl rfl (fun _ h => h.elim) (fun _ _ => trivial) HV1.out HBR.out HBR.out.size (by have := HRL.out; omega) ?_; intro w3v w3 ho hb3 hg3 hat; obtain ⟨A4, c4, rfl⟩ := Kd.R_slice ho; rw [List.length_append, List.length_singleton] at ho; have HG3 := Aside0.mk (blk_grown HG1.out hg3 HNE.out); have hcell3 : w3.cell? ⟨w.heap.size, 1, none⟩ = some (.slice Av XS.length cv) := (by rw [blk_cell HG3.out]; rfl); have hfr3 : w3.frozen? ⟨w.heap.size, 1, none⟩ = false := blk_frozen HG3.out 1; have HO3 := Aside0.mk ho; have HB3 := Aside0.mk hb3; clear ho hb3 hg3 hat hcell))
              go_roundg (n - 1 - i)
              case measure => have := HI.out; have := HK2.out; omega
              case rel =>
                refine ⟨i + 1, .slice A4 (XS.length + 1) c4, by go_num, ⟨by have := HK2.out; omega, by omega, fun j hj => ?_⟩, ⟨blk_put HG3.out 1 _ rfl⟩, ⟨?_⟩, ⟨below_set HB3.out (by rw [HGE.out]; exact Nat.le_refl _)⟩⟩
                · rcases Nat.lt_or_ge j i with h | h
                  · exact HI.out.2.2 j h
                  · have : j = i := by omega
                    subst this
                    rw [HEX.out]
                    exact HSM.out
                · rw [valsN_succ, HXS.out.1, HEX.out]
                  exact Kd.R_set HO3.out HG3.out (by decide) 1 _
            · obtain ⟨Y, hY⟩ : ∃ Y : Nat, X % 65536 = Y := ⟨_, rfl⟩
              have hc1 : IntKind.u16.wrap (X : Int) = (Y : Int) := by rw [Go.IntKind.wrap_u16]; omega
              have hc2 : IntKind.u64.wrap (Y : Int) = (Y : Int) := by rw [wrap_u64]; omega
              have hc3 : ((Y : Int) != (X : Int)) = true := bne_iff_ne.mpr (by omega)
              have hc4 : (X : Int) % 65536 = (Y : Int) := by omega
              have HK4 := Aside0.mk k4
              clear k4 hY
              go_wp2
              refine bodyPost_ret (results_list (rs := [.tmp 2, .tmp 3, .tmp 4]) rfl (by simp) (.tmp (.tmp (.tmp .nil)))) rfl ?_
              have hr := HREAD.out
              rw [if_neg (by rintro ⟨h1, _⟩; have h2 := h1 i HK2.out; rw [HEX.out] at h2; exact HK4.out h2)] at hr
              injection hr with e1 hr
              injection hr with e2 hr
              injection hr with e3 e4
              subst e1 e2 e3 e4
              exact ⟨.inl ⟨by decide, rfl⟩, below_step HBB.out HBR.out⟩
      · have d2 : decide ((i : Int) < (n : Int)) = false := decide_eq_false (by omega)
        obtain rfl : i = n := by have := HI.out.1; omega
        go_wp2
        obtain ⟨wo, hwo⟩ : ∃ wo, wo = wr := ⟨_, rfl⟩
        rw [← hwo]
        go_loopg [15] (8 * sz) (fun kq v15 w' => ∃ p : Nat, v15 = .int .i64 (p : Int) ∧ Aside0 (NW ≤ p ∧ p ≤ 8 * sz ∧ 8 * sz - p ≤ kq ∧ ∀ b, NW ≤ b → b < p → N / 2 ^ b % 2 = 0) ∧ Aside0 (Below wo.heap.size wo w'))
        case atStart => exact ⟨NW, rfl, ⟨Nat.le_refl _, HNW.out.2.2.2, by omega, fun b h1 h2 => by omega⟩, ⟨Below.refl _ _⟩⟩
        case round =>
          obtain ⟨p, rfl, HP, HBo⟩ := hrel
          have hBr := below_step HB.out (by rw [← hwo]; exact HBo.out)
          have hp64 : p ≤ 6400000 := by have := HP.out.2.1; omega
          have HBR := Aside0.mk hBr
          have hwN : NW = i * q := HNW.out.1.symm
          by_cases k4 : p < 8 * sz
          · have d4 : decide ((p : Int) < (sz : Int) * 8) = true := decide_eq_true (by omega)
            have hbit := HBIT.out p k4
            obtain ⟨b, eb⟩ : ∃ b, N / 2 ^ p % 2 = b := ⟨_, rfl⟩
            have hb2 : b < 2 := by rw [← eb]; exact Nat.mod_lt _ (by decide)
            rw [eb] at hbit
            have HBITS := Aside0.mk hbit
            have HEB := Aside0.mk eb
            have HK4 := Aside0.mk k4
            have k4' : (p : Int) < (sz : Int) * 8 := by omega
            clear hbit eb hBr hwN
            by_cases k5 : b = 1
            · subst k5
              go_wp2_with (go_at_call 55; refine (bit_calls Ap cp PT sz (p : Int) ((1 : Nat) : Int) _ HPL.out (Kd.C_below (Kd.C_below HPT.out HBB.out) HBR.out) HPC.out HBITS.out).mono ?_; rintro e w2 ⟨rfl, ⟨nd2, rfl⟩⟩)
              refine bodyPost_ret (results_list (rs := [.tmp 2, .tmp 3, .tmp 4]) rfl (by simp) (.tmp (.tmp (.tmp .nil)))) rfl ?_
              have hr := HREAD.out
              rw [if_neg (by
                rintro ⟨_, h2⟩
                have h3 := (high_zero (8 * sz - q * i) (by rw [show q * i + (8 * sz - q * i) = 8 * sz from by have h1 := HNW.out.1; have h2 := HNW.out.2.2.2; rw [Nat.mul_comm] at h1; omega]; exact HNL.out)).2 h2 p (by have h1 := HNW.out.1; rw [Nat.mul_comm] at h1; have := HP.out.1; omega) (by have := HK4.out; omega)
                rw [HEB.out] at h3
                omega)] at hr
              injection hr with e1 hr
              injection hr with e2 hr
              injection hr with e3 e4
              subst e1 e2 e3 e4
              exact ⟨.inl ⟨by decide, rfl⟩, pw_below_drewN (below_step HBB.out HBR.out) _⟩
            · have hb0 : b = 0 := by omega
              subst hb0
              clear k5
              go_wp2_with (go_at_call 55; refine (bit_calls Ap cp PT sz (p : Int) ((0 : Nat) : Int) _ HPL.out (Kd.C_below (Kd.C_below HPT.out HBB.out) HBR.out) HPC.out HBITS.out).mono ?_; rintro e w2 ⟨rfl, ⟨nd2, rfl⟩⟩)
              go_roundg (8 * sz - 1 - p)
              case measure => have := HP.out; have := HK4.out; omega
              case rel =>
                refine ⟨p + 1, by go_num, ⟨by have := HP.out.1; omega, by have := HK4.out; omega, by omega, fun b h1 h2 => ?_⟩, ⟨pw_below_drewN HBo.out _⟩⟩
                rcases Nat.lt_or_ge b p with h | h
                · exact HP.out.2.2.2 b h1 h
                · have : b = p := by omega
                  subst this
                  exact HEB.out
          · have d4 : decide ((p : Int) < (sz : Int) * 8) = false := decide_eq_false (by omega)
            have k4' : ¬ (p : Int) < (sz : Int) * 8 := by omega
            have HK4 := Aside0.mk (show p = 8 * sz by have := HP.out.2.1; omega)
            have hZ := HZ.out
            clear hBr hwN
            go_wp2
            refine bodyPost_ret (results_list (rs := [.tmp 2, .tmp 3, .tmp 4]) rfl (by simp) (.tmp (.tmp (.tmp .nil)))) rfl ?_
            have hr := HREAD.out
            have hNW : N < 2 ^ (q * i) := by
              refine (high_zero (8 * sz - q * i) (by rw [show q * i + (8 * sz - q * i) = 8 * sz from by have h1 := HNW.out.1; have h2 := HNW.out.2.2.2; rw [Nat.mul_comm] at h1; omega]; exact HNL.out)).1 (fun b h1 h2 => ?_)
              have h3 := HNW.out.1
              have h4 := HNW.out.2.2.2
              rw [Nat.mul_comm] at h3
              exact HP.out.2.2.2 b (by omega) (by rw [HK4.out]; omega)
            rw [if_pos ⟨HI.out.2.2, hNW⟩] at hr
            injection hr with e1 hr
            injection hr with e2 hr
            injection hr with e3 e4
            subst e1 e2 e3 e4
            have hBo : Below wo.heap.size wo wr := HBo.out
            have hg1 := blk_below (by rw [hwo]; exact HG.out) hBo
            have hv1 := Kd.R_below (by rw [hwo]; exact HV.out) hBo
            obtain ⟨Av, cv, rfl⟩ := Kd.R_slice hv1
            have hrd := (Kd.R_reads' hv1).2
            refine ⟨.inr ⟨rfl, w.heap.size, ?_, Nat.le_refl _, ⟨Av, cv, hg1, hrd.1, hrd.2⟩⟩, below_step HBB.out HBR.out⟩
            rw [show ((a + sz : Nat) : Int) = (Z : Int) from by have := HZ.out; omega]
            rfl
  · obtain ⟨h1, h2, h3, h4, hd⟩ : ∃ h1 h2 h3 h4, headF l = (h1, h2, h3, h4) := ⟨_, _, _, _, rfl⟩
    rw [hd] at hhd hh
    rw [readF_head (by rw [hd]; exact hh), hd] at hread
    dsimp only at hh hread
    injection hread with e1 hread
    injection hread with e2 hread
    injection hread with e3 e4
    subst e1 e2 e3 e4
    have h4b : (h4 != 0) = true := bne_iff_ne.mpr hh
    have HHD := Aside0.mk hhd
    have HH := Aside0.mk hh
    clear hhd hb hd hh
    go_enter Try.func26, Try.ntmps26
    go_wp2_with (first | (go_at_call 54; refine (packed_header.calls _ _ _ _ _ _ _ _ _ HR0.out hc0 HHD.out).mono ?_; rintro e w1 ⟨rfl, ⟨nd, rfl⟩⟩))
    refine bodyPost_ret (results_list (rs := [.tmp 2, .tmp 3, .tmp 4]) rfl (by simp) (.tmp (.tmp (.tmp .nil)))) rfl ?_
    exact ⟨.inl ⟨HH.out, rfl⟩, pw_below_drewN (Below.refl _ _) _⟩
theorem read_good (A0 : Option Addr) (c0 : Nat) (l : List Int) (w : World) (hr0 : Kd.C (Kd.int .u8) w A0 l.length l) (hc0 : l.length ≤ c0) (hb : isB l) (hl : l.length ≤ 1000000) (ra : Int) (rx : List Int) (rn : Int) (hread : readF 16 l = (ra, rx, rn, 0)) :
    Calls Try.prog 26 #[.slice A0 l.length c0] w fun e w' => ∃ g, e = .returned (.tuple #[.pointer (some ⟨g, 0, none⟩), .int .i64 rn, .int .i64 0]) ∧ VecAt .u16 86 w' g ra rx ∧ Below w.heap.size w w' :=
  (read_calls A0 c0 l w hr0 hc0 hb hl ra rx rn 0 hread).mono fun e w' ⟨h, hb⟩ => by
    rcases h with ⟨h, _⟩ | ⟨_, g, h1, _, h2⟩
    · exact absurd rfl h
    · exact ⟨g, h1, h2, hb⟩
theorem read_bad (A0 : Option Addr) (c0 : Nat) (l : List Int) (w : World) (hr0 : Kd.C (Kd.int .u8) w A0 l.length l) (hc0 : l.length ≤ c0) (hb : isB l) (hl : l.length ≤ 1000000) (ra : Int) (rx : List Int) (rn re : Int) (hread : readF 16 l = (ra, rx, rn, re)) (hre : re ≠ 0) :
    Calls Try.prog 26 #[.slice A0 l.length c0] w fun e w' => e = .returned (.tuple #[.pointer none, .int .i64 0, .int .i64 re]) ∧ Below w.heap.size w w' :=
  (read_calls A0 c0 l w hr0 hc0 hb hl ra rx rn re hread).mono fun e w' ⟨h, hb⟩ => by
    rcases h with ⟨_, h⟩ | ⟨h, _⟩
    · exact ⟨h, hb⟩
    · exact absurd h hre
end Go.Proofs.Ytolncaccemfbdaa.V16

/- The contract, proved by hand, of slices.Grow at bytes, of nil: an empty row of the call's own. -/
namespace Go.Proofs.Ytolncaccemfbdaa.Hand
open Go.RowKit Go.Proofs.YtolncaccemfbdaaW.PrintWords Go.Proofs.YtolncaccemfbdaaW.PrintLast Go.Proofs.YtolncaccemfbdaaW.PrintMore
set_option linter.unusedVariables false
set_option linter.unusedSimpArgs false

set_option maxHeartbeats 800000 in
set_option maxRecDepth 100000 in
theorem grow_calls (n : Nat) (w : World) (hn : n ≤ 140737488355328) :
    Calls Try.prog 65 #[.slice none 0 0, .int .i64 (n : Int)] w fun e w' => ∃ v0_ : Value, e = .returned v0_ ∧ Kd.R (Kd.int .u8) 5 w' w.heap.size (fun _ => True) v0_ ([] : List Int) ∧ Below w.heap.size w w' := by
  have d0 : decide ((n : Int) < 0) = false := decide_eq_false (by omega)
  by_cases h0 : n = 0
  · subst h0
    go_enter Try.func65, Try.ntmps65
    go_wp2
    go_ret
    exact ⟨_, rfl, Kd.R_nil _ _ _ _ _, Below.refl _ _⟩
  · have d1 : decide (0 < (n : Int)) = true := decide_eq_true (by omega)
    obtain ⟨i, hi, hz, h1, h2⟩ : ∃ i, Try.prog.info? 5 = some i ∧ i.zero = some (.int .u8 0) ∧ i.size = 1 ∧ i.bytes = 1 := ⟨_, rfl, rfl, rfl, rfl⟩
    have hrun := fun ty => Lib.run_append_nil_zeros (P := Try.prog) w 23 3 ty 5 i (.int .u8 0) .i64 .i64 Try.underlying23 Try.underlying3 hi hz n (by omega) (by omega) (by omega) (by rw [h2]; omega)
    have hw : wrap64 ((n : Int) - 0) = (n : Int) := by unfold wrap64; omega
    go_enter Try.func65, Try.ntmps65
    go_wp2_with ((with_reducible refine gate_builtin (b := .append) (xs := #[.tmp 20, .tmp 21]) rfl ?_); refine Lib.wpList_append_run w rfl (.tmp 20) (.tmp 21) 23 3 rfl _ _ rfl rfl _ _ (hrun _) ?_)
    go_ret
    have hge := grownCap_ge w n 0 5
    have hle := grownCap_le_maxLen w n 0 5 (by simp only [maxLen]; omega)
    refine ⟨_, rfl, Kd.R_of_own (enc := fun x => Value.int .u8 x) (h1 := fun _ => rfl) (xs := ([] : List Int)) (ok := fun _ => True) ⟨rfl, .inr ⟨w.heap.size, _, _, rfl, Nat.le_refl _, blk_new w.drew _, Nat.zero_le _, hle, ?_, rfl⟩⟩ (fun _ _ => trivial), ?_⟩
    · simp only [Array.size_append, size_zeroCells, Value.cells]
      simp
      omega
    · exact below_alloc (w := w) (below_drew (Below.refl _ _)) _
end Go.Proofs.Ytolncaccemfbdaa.Hand

/- The contract, proved by hand, of slices.Concat at bytes: all rows, one behind the other, in a row of the call's own. -/
namespace Go.Proofs.Ytolncaccemfbdaa.Hand
open Go.RowKit Go.Proofs.YtolncaccemfbdaaW.PrintWords Go.Proofs.YtolncaccemfbdaaW.PrintLast Go.Proofs.YtolncaccemfbdaaW.PrintMore
open Go.Proofs.Ytolncaccemfbdaa.Plain Go.Proofs.Ytolncaccemfbdaa.PPk
set_option linter.unusedVariables false
set_option linter.unusedSimpArgs false

def concatF (l : List (List Int)) : Option (List Int) := if l.length ≤ 1000000 ∧ l.flatten.length ≤ 140737488355328 then some l.flatten else none
theorem flat_next (l : List (List Int)) (i : Nat) (h : i < l.length) : (l.take (i + 1)).flatten = (l.take i).flatten ++ rd_L2 l (i : Int) := by
  rw [List.take_succ_eq_append_getElem h, List.flatten_append]
  unfold rd_L2
  rw [Int.toNat_natCast, List.getD_eq_getElem?_getD, List.getElem?_eq_getElem h]
  simp
theorem flat_le (l : List (List Int)) (i : Nat) : (l.take i).flatten.length ≤ l.flatten.length := by
  conv => rhs; rw [← List.take_append_drop i l]
  rw [List.flatten_append, List.length_append]
  exact Nat.le_add_right _ _
/-- How long the first rows are together. -/
def tot (l : List (List Int)) (i : Nat) : Nat := (l.take i).flatten.length
theorem tot_next (l : List (List Int)) (i : Nat) (h : i < l.length) : tot l (i + 1) = tot l i + (rd_L2 l (i : Int)).length := by
  unfold tot
  rw [flat_next l i h, List.length_append]
theorem tot_le (l : List (List Int)) (i : Nat) : tot l i ≤ l.flatten.length := flat_le l i
theorem tot_all (l : List (List Int)) : tot l l.length = l.flatten.length := by
  unfold tot
  rw [List.take_length]
set_option maxHeartbeats 800000 in
set_option maxRecDepth 100000 in
theorem concat_calls (A0 : Option Addr) (c0 : Nat) (l0 : List (List Int)) (r : List Int) (w : World) (hr0 : Kd.C (Kd.slice 5 (Kd.int .u8)) w A0 l0.length l0) (hc0 : l0.length ≤ c0) (h : concatF l0 = some r) :
    Calls Try.prog 52 #[.slice A0 l0.length c0] w fun e w' => ∃ v0_ : Value, e = .returned (v0_) ∧ Kd.R (Kd.int .u8) 5 w' w.heap.size (fun _ => True) v0_ r ∧ Below w.heap.size w w' := by
  unfold concatF at h
  by_cases hc : l0.length ≤ 1000000 ∧ l0.flatten.length ≤ 140737488355328
  · rw [if_pos hc] at h
    obtain rfl := Option.some.inj h
    clear h
    have HC := Aside0.mk hc
    have HR := Aside0.mk hr0
    clear hc hr0
    go_enter Try.func52, Try.ntmps52
    go_wp2
    go_loopg [3, 11] l0.length (fun kq v3 v11 w' => ∃ (i : Nat), v11 = .int .i64 (i : Int) ∧ v3 = .int .i64 ((tot l0 i : Nat) : Int) ∧ Aside0 (i ≤ l0.length ∧ l0.length - i ≤ kq) ∧ w' = w)
    case atStart => exact ⟨0, rfl, rfl, ⟨by omega, by omega⟩, rfl⟩
    case round =>
      obtain ⟨i, rfl, rfl, HI, rfl⟩ := hrel
      by_cases c2 : (i : Int) < (l0.length : Int)
      · have d2 : decide ((i : Int) < (l0.length : Int)) = true := decide_eq_true c2
        have hlt : i < l0.length := by omega
        obtain ⟨ad, A1, c1, rfl, hcell, _, _⟩ := at_L2 HR.out (i : Int) (by omega) c2
        rw [Int.toNat_natCast] at hcell
        have hfn := tot_next l0 i hlt
        have hfl := tot_le l0 (i + 1)
        have hw : wrap64 (((tot l0 i : Nat) : Int) + (((rd_L2 l0 (i : Int)).length : Nat) : Int)) = ((tot l0 (i + 1) : Nat) : Int) := by
          have := HC.out.2
          rw [hfn] at hfl ⊢
          generalize tot l0 i = p at hfl ⊢
          generalize (rd_L2 l0 (i : Int)).length = q at hfl ⊢
          generalize l0.flatten.length = t at hfl this
          clear hfn hcell HI HR c2 d2 hlt
          unfold wrap64
          omega
        have d3 : decide (((tot l0 (i + 1) : Nat) : Int) < 0) = false := decide_eq_false (by omega)
        have HLT := Aside0.mk hlt
        clear hfn hfl hlt
        go_wp2
        rw [show wrap64 ((i : Int) + 1) = ((i + 1 : Nat) : Int) from by have := HC.out.1; have := HLT.out; clear hw d3 hcell; unfold wrap64; omega]
        go_roundg (l0.length - 1 - i)
        case measure => have := HI.out; have := HLT.out; omega
        case rel => exact ⟨i + 1, rfl, by rw [hw], ⟨HLT.out, by omega⟩, rfl⟩
      · have d2 : decide ((i : Int) < (l0.length : Int)) = false := decide_eq_false c2
        have hi : i = l0.length := by have := HI.out; omega
        subst hi
        have htot : tot l0 l0.length ≤ 140737488355328 := by rw [tot_all]; exact HC.out.2
        go_wp2_with (go_at_call 65; refine (grow_calls _ _ htot).mono ?_; rintro e w1 ⟨v, rfl, ho, hb⟩; have HO := Aside0.mk ho; have HB := Aside0.mk hb; clear ho hb)
        obtain ⟨wo, hwo⟩ : ∃ wo, wo = wr := ⟨_, rfl⟩
        subst hwo
        clear htot
        go_loopg [6, 27] l0.length (fun kq v6 v27 w' => ∃ (i : Nat), v27 = .int .i64 (i : Int) ∧ Aside0 (i ≤ l0.length ∧ l0.length - i ≤ kq) ∧ Aside0 (Kd.R (Kd.int .u8) 5 w' wo.heap.size (fun _ => True) v6 (l0.take i).flatten) ∧ Aside0 (Below wo.heap.size wo w'))
        case atStart => exact ⟨0, rfl, ⟨by omega, by omega⟩, ⟨HO.out⟩, ⟨HB.out⟩⟩
        case round =>
          clear HO HB HI
          obtain ⟨i, rfl, HI, HO, HB⟩ := hrel
          by_cases c3 : (i : Int) < (l0.length : Int)
          · have d3 : decide ((i : Int) < (l0.length : Int)) = true := decide_eq_true c3
            have hlt : i < l0.length := by omega
            obtain ⟨ad, A1, c1, rfl, hcell, _, hC1⟩ := at_L2 (Kd.C_below HR.out HB.out) (i : Int) (by omega) c3
            rw [Int.toNat_natCast] at hcell
            have HFN := Aside0.mk (flat_next l0 i hlt)
            have hln : (l0.take i).flatten.length + (rd_L2 l0 (i : Int)).length ≤ 140737488355328 := by
              have h1 := tot_next l0 i hlt
              have h2 := tot_le l0 (i + 1)
              have h3 := HC.out.2
              show tot l0 i + _ ≤ _
              omega
            have HLN := Aside0.mk hln
            have HC1 := Aside0.mk hC1
            have HLT := Aside0.mk hlt
            clear hln hC1 hlt
            skip
            go_wp2_with (first | ((with_reducible refine gate_builtin (b := .append) (xs := #[.tmp 31, .tmp 32]) rfl ?_); at_builtin; refine Kd.R_append_rows (Kd.int .u8) (w0 := wo) wo.heap.size rfl (.tmp 31) (.tmp 32) 23 5 (.int .u8 0) 1 rfl Try.underlying23 hinfo_u8 rfl (by decide) (by omega) u6 (l0.take i).flatten (rd_L2 l0 (i : Int)) _ _ _ (fun _ => True) (fun _ => False) rfl rfl ?aO ?aR (fun _ _ h => h) (fun _ h => h.elim) ?aF ?aB ?aS ?aL ?_; (case aR => exact HC1.out); (case aO => exact HO.out); (case aB => exact HB.out); (case aF => exact (fun _ _ => trivial)); (case aS => exact HB.out.size); (case aL => have := HLN.out; omega); intro v1 w2 ho hb hg hat; rw [← HFN.out] at ho; have n0_ := Aside0.mk ho; have n1_ := Aside0.mk hb; clear HO HB; have HO := n0_; have HB := n1_; clear n0_ n1_ ho hb hg hat))
            rw [show wrap64 ((i : Int) + 1) = ((i + 1 : Nat) : Int) from by have := HC.out.1; have := HLT.out; clear hcell; unfold wrap64; omega]
            go_roundg (l0.length - 1 - i)
            case measure => have := HI.out; have := HLT.out; omega
            case rel => exact ⟨i + 1, rfl, ⟨HLT.out, by omega⟩, ⟨HO.out⟩, ⟨HB.out⟩⟩
          · have d3 : decide ((i : Int) < (l0.length : Int)) = false := decide_eq_false c3
            have hi : i = l0.length := by have := HI.out; omega
            subst hi
            go_wp2
            go_ret
            rw [List.take_length] at HO
            exact ⟨_, rfl, HO.out, HB.out⟩
  · rw [if_neg hc] at h
    cases h
end Go.Proofs.Ytolncaccemfbdaa.Hand
