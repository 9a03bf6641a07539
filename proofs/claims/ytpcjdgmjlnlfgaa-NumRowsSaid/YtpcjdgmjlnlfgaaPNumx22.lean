/- Printed by a program of this session (drv.py) from the translation of this seat: functions, their contracts, rows. -/
import Derived.Test.YtpcjdgmjlnlfgaaPNumx0
import Derived.Test.YtpcjdgmjlnlfgaaPNumx3
import Derived.Test.YtpcjdgmjlnlfgaaPNumx8
import Derived.Test.YtpcjdgmjlnlfgaaPNumx19
namespace Go.Proofs.Ytpcjdgmjlnlfgaa.PNum
open Go.RowKit Go.Proofs.YtpcjdgmjlnlfgaaW.PrintWords Go.Proofs.YtpcjdgmjlnlfgaaW.PrintLast Go.Proofs.YtpcjdgmjlnlfgaaW.PrintMore
attribute [local go_sem] max2_int min2_int max_two min_two max_three min_three max_four min_four   -- for this text's walks alone
set_option linter.unusedVariables false
set_option linter.unusedSimpArgs false

/-! ### concordancelaw1_NumRows: function 8 -/
mutual
def concordancelaw1_NumRows.j1 : Nat → List Int → Int → List Int → List Int → Option (Bool)
  | 0, _, _, _, _ => none
  | k + 1, x0, x1, x5, x6 => if (wrap64 ((x5.length : Int) + 1)) = 0 then (none) else (if 0 ≤ (Int.tmod (Go.bits .and .i64 x1 65535) (wrap64 ((x5.length : Int) + 1))) then (if (Int.tmod (Go.bits .and .i64 x1 65535) (wrap64 ((x5.length : Int) + 1))) ≤ (x5.length : Int) then ((concordancelaw1_told.f (x5.take ((Int.tmod (Go.bits .and .i64 x1 65535) (wrap64 ((x5.length : Int) + 1))) : Int).toNat) 100).bind fun bt233 => (concordancelaw1_NumRows.l1 k x0 x6 (Int.tmod (Go.bits .and .i64 x1 65535) (wrap64 ((x5.length : Int) + 1))) bt233.1 bt233.2 0)) else (none)) else (none))
def concordancelaw1_NumRows.j3 : Nat → List Int → List Int → List Int → List Int → Int → Option (Bool)
  | 0, _, _, _, _, _ => none
  | k + 1, x0, x6, x9, x10, x11 => if (x10.length : Int) = x11 then (concordancelaw1_NumRows.j4 k x0 x6 x9 x10 x11 ((x9.length : Int) != x11)) else (concordancelaw1_NumRows.j4 k x0 x6 x9 x10 x11 true)
def concordancelaw1_NumRows.j4 : Nat → List Int → List Int → List Int → List Int → Int → Bool → Option (Bool)
  | 0, _, _, _, _, _, _ => none
  | k + 1, x0, x6, x9, x10, x11, x70 => if x70 = true then (some false) else (concordancelaw1_NumRows.l2 k x0 x6 x9 x10 x11 0)
def concordancelaw1_NumRows.l2 : Nat → List Int → List Int → List Int → List Int → Int → Int → Option (Bool)
  | 0, _, _, _, _, _, _ => none
  | k + 1, x0, x6, x9, x10, x11, x12 => if x12 < x11 then (if 0 ≤ x12 then (if x12 < (x10.length : Int) then (if x12 < (x0.length : Int) then (if (rd x10 x12) = (rd x0 x12) then (if x12 > 0 then (if x12 < (x9.length : Int) then (if 0 ≤ (wrap64 (x12 - 1)) then (if (wrap64 (x12 - 1)) < (x6.length : Int) then (if (rd x9 x12) = (rd x6 (wrap64 (x12 - 1))) then (concordancelaw1_NumRows.l2 k x0 x6 x9 x10 x11 (wrap64 (x12 + 1))) else (some false)) else (none)) else (none)) else (none)) else (concordancelaw1_NumRows.l2 k x0 x6 x9 x10 x11 (wrap64 (x12 + 1)))) else (some false)) else (none)) else (none)) else (none)) else ((concordancelaw1_awake.f k).bind fun t244 => (some t244))
def concordancelaw1_NumRows.l1 : Nat → List Int → List Int → Int → List Int → List Int → Int → Option (Bool)
  | 0, _, _, _, _, _, _ => none
  | k + 1, x0, x6, x8, x9, x10, x11 => if x11 < (x6.length : Int) then (if 0 ≤ x11 then (if (rd x6 x11) ≤ x8 then (concordancelaw1_NumRows.l1 k x0 x6 x8 x9 x10 (wrap64 (x11 + 1))) else (concordancelaw1_NumRows.j3 k x0 x6 x9 x10 x11)) else (none)) else (concordancelaw1_NumRows.j3 k x0 x6 x9 x10 x11)
def concordancelaw1_NumRows.l0 : Nat → List Int → Int → List Int → List Int → Int → Option (Bool)
  | 0, _, _, _, _, _ => none
  | k + 1, x0, x1, x5, x6, x7 => if x7 < (x0.length : Int) then (if x7 < 40 then (if 0 ≤ x7 then ((num_Put.f x5 (rd x0 x7)).bind fun t222 => (if x6.length < 17592186044416 then (concordancelaw1_NumRows.l0 k x0 x1 t222 (x6 ++ [(t222.length : Int)]) (wrap64 (x7 + 1))) else (none))) else (none)) else (concordancelaw1_NumRows.j1 k x0 x1 x5 x6)) else (concordancelaw1_NumRows.j1 k x0 x1 x5 x6)
end
def concordancelaw1_NumRows.f (k : Nat) (l0 : List Int) (a1 : Int) : Option (Bool) := concordancelaw1_NumRows.l0 k l0 a1 ([] : List Int) ([] : List Int) 0
theorem concordancelaw1_NumRows.mono_l : ∀ k, (∀ y0 y1 y2 y3, LeO (concordancelaw1_NumRows.j1 k y0 y1 y2 y3) (concordancelaw1_NumRows.j1 (k + 1) y0 y1 y2 y3)) ∧ (∀ y0 y1 y2 y3 y4, LeO (concordancelaw1_NumRows.j3 k y0 y1 y2 y3 y4) (concordancelaw1_NumRows.j3 (k + 1) y0 y1 y2 y3 y4)) ∧ (∀ y0 y1 y2 y3 y4 y5, LeO (concordancelaw1_NumRows.j4 k y0 y1 y2 y3 y4 y5) (concordancelaw1_NumRows.j4 (k + 1) y0 y1 y2 y3 y4 y5)) ∧ (∀ y0 y1 y2 y3 y4 y5, LeO (concordancelaw1_NumRows.l2 k y0 y1 y2 y3 y4 y5) (concordancelaw1_NumRows.l2 (k + 1) y0 y1 y2 y3 y4 y5)) ∧ (∀ y0 y1 y2 y3 y4 y5, LeO (concordancelaw1_NumRows.l1 k y0 y1 y2 y3 y4 y5) (concordancelaw1_NumRows.l1 (k + 1) y0 y1 y2 y3 y4 y5)) ∧ (∀ y0 y1 y2 y3 y4, LeO (concordancelaw1_NumRows.l0 k y0 y1 y2 y3 y4) (concordancelaw1_NumRows.l0 (k + 1) y0 y1 y2 y3 y4))
  | 0 => ⟨fun _ _ _ _ r h => by simp [concordancelaw1_NumRows.j1] at h, fun _ _ _ _ _ r h => by simp [concordancelaw1_NumRows.j3] at h, fun _ _ _ _ _ _ r h => by simp [concordancelaw1_NumRows.j4] at h, fun _ _ _ _ _ _ r h => by simp [concordancelaw1_NumRows.l2] at h, fun _ _ _ _ _ _ r h => by simp [concordancelaw1_NumRows.l1] at h, fun _ _ _ _ _ r h => by simp [concordancelaw1_NumRows.l0] at h⟩
  | k + 1 => by
    obtain ⟨ih0, ih1, ih2, ih3, ih4, ih5⟩ := concordancelaw1_NumRows.mono_l k
    refine ⟨?_, ?_, ?_, ?_, ?_, ?_⟩
    · intro y0 y1 y2 y3
      unfold concordancelaw1_NumRows.j1
      repeat' first
      | (with_reducible exact ih0 _ _ _ _)
      | (with_reducible exact ih1 _ _ _ _ _)
      | (with_reducible exact ih2 _ _ _ _ _ _)
      | (with_reducible exact ih3 _ _ _ _ _ _)
      | (with_reducible exact ih4 _ _ _ _ _ _)
      | (with_reducible exact ih5 _ _ _ _ _)
      | (with_reducible exact concordancelaw1_awake.mono _)
      | (with_reducible exact LeO.refl _)
      | (with_reducible exact LeO.none _)
      | (with_reducible refine LeO.ite ?_ ?_)
      | (with_reducible refine LeO.bind ?_ (fun _ => ?_))
      | exact ih0 _ _ _ _
      | exact ih1 _ _ _ _ _
      | exact ih2 _ _ _ _ _ _
      | exact ih3 _ _ _ _ _ _
      | exact ih4 _ _ _ _ _ _
      | exact ih5 _ _ _ _ _
      | exact concordancelaw1_awake.mono _
      | exact LeO.none _
      | refine LeO.ite ?_ ?_
      | refine LeO.bind ?_ (fun _ => ?_)
    · intro y0 y1 y2 y3 y4
      unfold concordancelaw1_NumRows.j3
      repeat' first
      | (with_reducible exact ih0 _ _ _ _)
      | (with_reducible exact ih1 _ _ _ _ _)
      | (with_reducible exact ih2 _ _ _ _ _ _)
      | (with_reducible exact ih3 _ _ _ _ _ _)
      | (with_reducible exact ih4 _ _ _ _ _ _)
      | (with_reducible exact ih5 _ _ _ _ _)
      | (with_reducible exact concordancelaw1_awake.mono _)
      | (with_reducible exact LeO.refl _)
      | (with_reducible exact LeO.none _)
      | (with_reducible refine LeO.ite ?_ ?_)
      | (with_reducible refine LeO.bind ?_ (fun _ => ?_))
      | exact ih0 _ _ _ _
      | exact ih1 _ _ _ _ _
      | exact ih2 _ _ _ _ _ _
      | exact ih3 _ _ _ _ _ _
      | exact ih4 _ _ _ _ _ _
      | exact ih5 _ _ _ _ _
      | exact concordancelaw1_awake.mono _
      | exact LeO.none _
      | refine LeO.ite ?_ ?_
      | refine LeO.bind ?_ (fun _ => ?_)
    · intro y0 y1 y2 y3 y4 y5
      unfold concordancelaw1_NumRows.j4
      repeat' first
      | (with_reducible exact ih0 _ _ _ _)
      | (with_reducible exact ih1 _ _ _ _ _)
      | (with_reducible exact ih2 _ _ _ _ _ _)
      | (with_reducible exact ih3 _ _ _ _ _ _)
      | (with_reducible exact ih4 _ _ _ _ _ _)
      | (with_reducible exact ih5 _ _ _ _ _)
      | (with_reducible exact concordancelaw1_awake.mono _)
      | (with_reducible exact LeO.refl _)
      | (with_reducible exact LeO.none _)
      | (with_reducible refine LeO.ite ?_ ?_)
      | (with_reducible refine LeO.bind ?_ (fun _ => ?_))
      | exact ih0 _ _ _ _
      | exact ih1 _ _ _ _ _
      | exact ih2 _ _ _ _ _ _
      | exact ih3 _ _ _ _ _ _
      | exact ih4 _ _ _ _ _ _
      | exact ih5 _ _ _ _ _
      | exact concordancelaw1_awake.mono _
      | exact LeO.none _
      | refine LeO.ite ?_ ?_
      | refine LeO.bind ?_ (fun _ => ?_)
    · intro y0 y1 y2 y3 y4 y5
      unfold concordancelaw1_NumRows.l2
      repeat' first
      | (with_reducible exact ih0 _ _ _ _)
      | (with_reducible exact ih1 _ _ _ _ _)
      | (with_reducible exact ih2 _ _ _ _ _ _)
      | (with_reducible exact ih3 _ _ _ _ _ _)
      | (with_reducible exact ih4 _ _ _ _ _ _)
      | (with_reducible exact ih5 _ _ _ _ _)
      | (with_reducible exact concordancelaw1_awake.mono _)
      | (with_reducible exact LeO.refl _)
      | (with_reducible exact LeO.none _)
      | (with_reducible refine LeO.ite ?_ ?_)
      | (with_reducible refine LeO.bind ?_ (fun _ => ?_))
      | exact ih0 _ _ _ _
      | exact ih1 _ _ _ _ _
      | exact ih2 _ _ _ _ _ _
      | exact ih3 _ _ _ _ _ _
      | exact ih4 _ _ _ _ _ _
      | exact ih5 _ _ _ _ _
      | exact concordancelaw1_awake.mono _
      | exact LeO.none _
      | refine LeO.ite ?_ ?_
      | refine LeO.bind ?_ (fun _ => ?_)
    · intro y0 y1 y2 y3 y4 y5
      unfold concordancelaw1_NumRows.l1
      repeat' first
      | (with_reducible exact ih0 _ _ _ _)
      | (with_reducible exact ih1 _ _ _ _ _)
      | (with_reducible exact ih2 _ _ _ _ _ _)
      | (with_reducible exact ih3 _ _ _ _ _ _)
      | (with_reducible exact ih4 _ _ _ _ _ _)
      | (with_reducible exact ih5 _ _ _ _ _)
      | (with_reducible exact concordancelaw1_awake.mono _)
      | (with_reducible exact LeO.refl _)
      | (with_reducible exact LeO.none _)
      | (with_reducible refine LeO.ite ?_ ?_)
      | (with_reducible refine LeO.bind ?_ (fun _ => ?_))
      | exact ih0 _ _ _ _
      | exact ih1 _ _ _ _ _
      | exact ih2 _ _ _ _ _ _
      | exact ih3 _ _ _ _ _ _
      | exact ih4 _ _ _ _ _ _
      | exact ih5 _ _ _ _ _
      | exact concordancelaw1_awake.mono _
      | exact LeO.none _
      | refine LeO.ite ?_ ?_
      | refine LeO.bind ?_ (fun _ => ?_)
    · intro y0 y1 y2 y3 y4
      unfold concordancelaw1_NumRows.l0
      repeat' first
      | (with_reducible exact ih0 _ _ _ _)
      | (with_reducible exact ih1 _ _ _ _ _)
      | (with_reducible exact ih2 _ _ _ _ _ _)
      | (with_reducible exact ih3 _ _ _ _ _ _)
      | (with_reducible exact ih4 _ _ _ _ _ _)
      | (with_reducible exact ih5 _ _ _ _ _)
      | (with_reducible exact concordancelaw1_awake.mono _)
      | (with_reducible exact LeO.refl _)
      | (with_reducible exact LeO.none _)
      | (with_reducible refine LeO.ite ?_ ?_)
      | (with_reducible refine LeO.bind ?_ (fun _ => ?_))
      | exact ih0 _ _ _ _
      | exact ih1 _ _ _ _ _
      | exact ih2 _ _ _ _ _ _
      | exact ih3 _ _ _ _ _ _
      | exact ih4 _ _ _ _ _ _
      | exact ih5 _ _ _ _ _
      | exact concordancelaw1_awake.mono _
      | exact LeO.none _
      | refine LeO.ite ?_ ?_
      | refine LeO.bind ?_ (fun _ => ?_)
theorem concordancelaw1_NumRows.mono : ∀ a0 a1 k, LeO (concordancelaw1_NumRows.f k a0 a1) (concordancelaw1_NumRows.f (k + 1) a0 a1) := by
  intro a0 a1 k
  obtain ⟨ih0, ih1, ih2, ih3, ih4, ih5⟩ := concordancelaw1_NumRows.mono_l k
  unfold concordancelaw1_NumRows.f
  repeat' first
      | (with_reducible exact ih0 _ _ _ _)
      | (with_reducible exact ih1 _ _ _ _ _)
      | (with_reducible exact ih2 _ _ _ _ _ _)
      | (with_reducible exact ih3 _ _ _ _ _ _)
      | (with_reducible exact ih4 _ _ _ _ _ _)
      | (with_reducible exact ih5 _ _ _ _ _)
      | (with_reducible exact concordancelaw1_awake.mono _)
      | (with_reducible exact LeO.refl _)
      | (with_reducible exact LeO.none _)
      | (with_reducible refine LeO.ite ?_ ?_)
      | (with_reducible refine LeO.bind ?_ (fun _ => ?_))
      | exact ih0 _ _ _ _
      | exact ih1 _ _ _ _ _
      | exact ih2 _ _ _ _ _ _
      | exact ih3 _ _ _ _ _ _
      | exact ih4 _ _ _ _ _ _
      | exact ih5 _ _ _ _ _
      | exact concordancelaw1_awake.mono _
      | exact LeO.none _
      | refine LeO.ite ?_ ?_
      | refine LeO.bind ?_ (fun _ => ?_)
set_option maxHeartbeats 8000000 in
set_option maxRecDepth 100000 in
theorem concordancelaw1_NumRows.calls (k : Nat) (A0 : Option Addr) (c0 : Nat) (l0 : List Int) (a1 : Int) (r : Bool) (w : World) (hr0 : Kd.C (Kd.int .u64) w A0 l0.length l0) (hc0 : l0.length ≤ c0) (h : concordancelaw1_NumRows.f k l0 a1 = some r) :
    Calls Try.prog 8 #[.slice A0 l0.length c0, .int .i64 a1] w fun e w' => e = .returned (.bool r) ∧ Below w.heap.size w w' := by
  have HR0 := Aside0.mk hr0
  have HC0 := Aside0.mk hc0
  clear hr0 hc0
  have HB := Aside0.mk (Below.refl w.heap.size w)
  have H : (concordancelaw1_NumRows.l0 k l0 a1 ([] : List Int) ([] : List Int) 0) = some r := h
  clear h
  have HC3 := Aside0.mk H
  clear H
  go_enter Try.func8, Try.ntmps8
  go_upto_block 0 with (fail)
  repeat (go_quiet (fail); go_upto_block 0 with (fail))
  go_cut [5, 6] (fun v5 v6 wc => ∃ (kq : Nat) (x5_2 : List Int) (x6_2 : List Int), Aside0 (concordancelaw1_NumRows.j1 kq l0 a1 x5_2 x6_2 = some r) ∧ Aside0 (kq ≤ k) ∧ Aside0 (Kd.V (Kd.int .u8) 5 wc w.heap.size (fun k_ => some k_ ≠ (v6 : Value).ownBlock) v5 x5_2) ∧ Aside0 (Kd.R (Kd.int .i64) 3 wc w.heap.size (fun _ => True) v6 x6_2) ∧ Aside0 (Below w.heap.size w wc))
  case first =>
    have H := HC3.out
    clear HC3
    have H' := Aside0.mk H
    clear H
    go_wp2
    repeat (go_quiet (fail); try go_wp2)
    go_loopg [5, 6, 7] k (fun kq v5 v6 v7 w' => ∃ (x5_1 : List Int) (x6_1 : List Int) (x7_1 : Int), v7 = .int .i64 x7_1 ∧ Aside0 (concordancelaw1_NumRows.l0 kq l0 a1 x5_1 x6_1 x7_1 = some r) ∧ Aside0 (kq ≤ k) ∧ Aside0 (Kd.V (Kd.int .u8) 5 w' w.heap.size (fun k_ => some k_ ≠ (v6 : Value).ownBlock) v5 x5_1) ∧ Aside0 (Kd.R (Kd.int .i64) 3 w' w.heap.size (fun _ => True) v6 x6_1) ∧ Aside0 (Below w.heap.size w w'))
    case atStart => exact ⟨(([] : List Int)), (([] : List Int)), (0), (by first | rfl | (simp; done) | (simp [*]; done)), H', ⟨Nat.le_refl _⟩, ⟨Kd.V_nil _ _ _ _ _⟩, ⟨by first | exact Kd.R_nil _ _ _ _ _ | exact Kd.N_nil _ _ _ _ _ | exact Kd.V_nil _ _ _ _ _ | exact Kd.Q_nil _ _ _ _ _ | exact Kd.S_nil _ _ _ _ _⟩, ⟨by repeat (first | (with_reducible first | exact HB.out | apply below_alloc | apply pw_below_drewN | apply below_drew1) | exact HB.out)⟩⟩
    case round =>
      clear H'
      try clear p2
      obtain ⟨x5_1, x6_1, x7_1, rfl, HA, HK1, HO_5, HO_6, HB⟩ := hrel
      cases gk with
      | zero => exact absurd HA.out (by simp [concordancelaw1_NumRows.l0])
      | succ k1 =>
        have H := HA.out
        clear HA
        simp only [concordancelaw1_NumRows.l0] at H
        by_cases c4 : x7_1 < (l0.length : Int)
        · rw [if_pos c4] at H
          have c4b0 : decide (x7_1 < (l0.length : Int)) = true := decide_eq_true c4
          clear c4
          (first | rw [c4b0] | (simp only [i64_w, i32_w]; rw [c4b0]) | skip)
          by_cases c5 : x7_1 < 40
          · rw [if_pos c5] at H
            have c5b0 : decide (x7_1 < 40) = true := decide_eq_true c5
            clear c5
            by_cases c6 : 0 ≤ x7_1
            · rw [if_pos c6] at H
              have c6b0 : decide (0 ≤ x7_1) = true := decide_eq_true c6
              clear c6
              replace H := Option.bind_eq_some_iff.mp H
              obtain ⟨t222, A70, H⟩ := H
              replace H : (if x6_1.length < 17592186044416 then (concordancelaw1_NumRows.l0 k1 l0 a1 t222 (x6_1 ++ [(t222.length : Int)]) (wrap64 (x7_1 + 1))) else (none)) = some r := H
              have A7 := Aside0.mk A70
              clear A70
              by_cases c8 : x6_1.length < 17592186044416
              · rw [if_pos c8] at H
                have LMc8 := Aside0.mk c8
                clear c8
                obtain ⟨y225, hy225⟩ : ∃ y_ : List Int, y_ = (x6_1 ++ [(t222.length : Int)]) := ⟨_, rfl⟩
                replace H : (concordancelaw1_NumRows.l0 k1 l0 a1 t222 y225 (wrap64 (x7_1 + 1))) = some r := by first | (rw [hy225]; with_reducible exact H) | (have H2_ := (Option.bind_some _ _).symm.trans H; rw [hy225]; with_reducible exact H2_) | (have H2_ := (Option.bind_some _ _).symm.trans H; with_reducible exact H2_) | with_reducible exact H | (rw [hy225]; exact H) | exact H
                have Ny225 := Aside0.mk hy225
                clear hy225
                have H' := Aside0.mk H
                clear H
                have p221 : 0 ≤ (x7_1 : Int) := of_decide_eq_true (by first | (with_reducible assumption) | assumption)
                have q221 : x7_1 < (l0.length : Int) := of_decide_eq_true (by first | (with_reducible assumption) | assumption)
                obtain ⟨ad221, e221, hx221_0⟩ := Kd.at_int HR0.out x7_1 p221 q221
                cases e221
                replace hx221_0 := (HB.out.cell (World.block_lt_of_cell? w _ hx221_0)).trans hx221_0
                replace p221 := eq_true p221
                replace q221 := eq_true q221
                obtain ⟨Ao9, co9, eo9⟩ := Kd.V_slice HO_5.out
                subst eo9
                go_wp2_with (first | (go_at_call 10; (with_reducible refine (num_Put.calls _ _ x5_1 (rd l0 x7_1) t222 _ ?side1 ?side2 A7.out).mono ?_); (case side1 => repeat (first | exact (Kd.V_reads' HO_5.out).2.2 | (with_reducible refine Kd.C_alloc ?_ _) | (with_reducible refine Kd.C_drewN ?_ _) | (with_reducible refine Kd.C_drew ?_))); (case side2 => exact (Kd.V_reads' HO_5.out).2.1); rintro e w10 ⟨v223, rfl, ho0, hb⟩; have n0_ := Aside0.mk (Kd.V_below (by (with_reducible repeat (first | apply Kd.V_alloc | apply Kd.V_drewN | apply Kd.V_drew)); exact HO_5.out) hb); have n1_ := Aside0.mk (Kd.R_below (by (with_reducible repeat (first | apply Kd.R_alloc | apply Kd.R_drewN | apply Kd.R_drew)); exact HO_6.out) hb); have n2_ := Aside0.mk (Kd.V_lower (Kd.V_mono (ok' := fun k_ => some k_ ≠ (u6 : Value).ownBlock) ho0 (fun k_ hk_ => (Kd.fresh' (Kd.R_lt (by (with_reducible repeat (first | apply Kd.R_alloc | apply Kd.R_drewN | apply Kd.R_drew)); exact HO_6.out)) k_ hk_))) (below_size (by repeat (first | (with_reducible first | exact HB.out | apply below_alloc | apply pw_below_drewN | apply below_drew1) | exact HB.out)))); have n3_ := Aside0.mk (below_step (by repeat (first | (with_reducible first | exact HB.out | apply below_alloc | apply pw_below_drewN | apply below_drew1) | exact HB.out)) hb); clear HO_5; clear HO_6; clear HB; have HO_5 := n0_; have HO_6 := n1_; have HO224 := n2_; have HB := n3_; clear n0_ n1_ n2_ n3_; (try clear hb); (try clear hb2); (try clear hk); (try clear hi); (try clear ho0); obtain ⟨Ao11, co11, eo11⟩ := Kd.V_slice HO224.out; subst eo11) | ((with_reducible refine gate_builtin (b := .append) (xs := #[.tmp 29, .tmp 32]) rfl ?_); (try (refine gate_guard (by rfl) ?_; dsimp only)); at_builtin; refine Kd.R_append (Kd.int .i64) (w0 := w) w.heap.size rfl (.tmp 29) (.tmp 32) 39 3 (.int .i64 0) 8 rfl Try.underlying39 info3 rfl (by decide) (by omega) u6 x6_1 (t222.length : Int) [.int .i64 (t222.length : Int)] (fun _ => True) (fun _ => False) rfl rfl ?aP (fun _ hk => hk.elim) ?aF ?aO ?aB ?aS ?aL ?_; (case aP => exact rfl); (case aB => exact (by repeat (first | (with_reducible first | exact HB.out | apply below_alloc | apply pw_below_drewN | apply below_drew1) | exact HB.out))); (case aF => exact (fun _ _ => trivial)); (case aO => exact (by (with_reducible repeat (first | apply Kd.R_alloc | apply Kd.R_drewN | apply Kd.R_drew)); exact HO_6.out)); (case aS => exact (below_size (by repeat (first | (with_reducible first | exact HB.out | apply below_alloc | apply pw_below_drewN | apply below_drew1) | exact HB.out)))); (case aL => have := LMc8.out; omega); intro v226 w12 ho hb hg hat; rw [← Ny225.out] at ho; have n0_ := Aside0.mk (Kd.V_afterv (ok := (fun _ => True)) (by (with_reducible repeat (first | apply Kd.V_alloc | apply Kd.V_drewN | apply Kd.V_drew)); exact Kd.V_mono HO_5.out (fun _ hk => ⟨trivial, hk⟩)) hg hat); have n1_ := Aside0.mk (Kd.V_afterv (ok := (fun _ => True)) (by (with_reducible repeat (first | apply Kd.V_alloc | apply Kd.V_drewN | apply Kd.V_drew)); exact Kd.V_mono HO224.out (fun _ hk => ⟨trivial, hk⟩)) hg hat); have n2_ := Aside0.mk (hb); have n3_ := Aside0.mk (ho); clear HO_5; clear HO224; clear HB; clear HO_6; have HO_5 := n0_; have HO224 := n1_; have HB := n2_; have HO227 := n3_; clear n0_ n1_ n2_ n3_; clear ho hb hg hat))
                repeat (go_quiet (first | (go_at_call 10; (with_reducible refine (num_Put.calls _ _ x5_1 (rd l0 x7_1) t222 _ ?side1 ?side2 A7.out).mono ?_); (case side1 => repeat (first | exact (Kd.V_reads' HO_5.out).2.2 | (with_reducible refine Kd.C_alloc ?_ _) | (with_reducible refine Kd.C_drewN ?_ _) | (with_reducible refine Kd.C_drew ?_))); (case side2 => exact (Kd.V_reads' HO_5.out).2.1); rintro e w10 ⟨v223, rfl, ho0, hb⟩; have n0_ := Aside0.mk (Kd.V_below (by (with_reducible repeat (first | apply Kd.V_alloc | apply Kd.V_drewN | apply Kd.V_drew)); exact HO_5.out) hb); have n1_ := Aside0.mk (Kd.R_below (by (with_reducible repeat (first | apply Kd.R_alloc | apply Kd.R_drewN | apply Kd.R_drew)); exact HO_6.out) hb); have n2_ := Aside0.mk (Kd.V_lower (Kd.V_mono (ok' := fun k_ => some k_ ≠ (u6 : Value).ownBlock) ho0 (fun k_ hk_ => (Kd.fresh' (Kd.R_lt (by (with_reducible repeat (first | apply Kd.R_alloc | apply Kd.R_drewN | apply Kd.R_drew)); exact HO_6.out)) k_ hk_))) (below_size (by repeat (first | (with_reducible first | exact HB.out | apply below_alloc | apply pw_below_drewN | apply below_drew1) | exact HB.out)))); have n3_ := Aside0.mk (below_step (by repeat (first | (with_reducible first | exact HB.out | apply below_alloc | apply pw_below_drewN | apply below_drew1) | exact HB.out)) hb); clear HO_5; clear HO_6; clear HB; have HO_5 := n0_; have HO_6 := n1_; have HO224 := n2_; have HB := n3_; clear n0_ n1_ n2_ n3_; (try clear hb); (try clear hb2); (try clear hk); (try clear hi); (try clear ho0); obtain ⟨Ao11, co11, eo11⟩ := Kd.V_slice HO224.out; subst eo11) | ((with_reducible refine gate_builtin (b := .append) (xs := #[.tmp 29, .tmp 32]) rfl ?_); (try (refine gate_guard (by rfl) ?_; dsimp only)); at_builtin; refine Kd.R_append (Kd.int .i64) (w0 := w) w.heap.size rfl (.tmp 29) (.tmp 32) 39 3 (.int .i64 0) 8 rfl Try.underlying39 info3 rfl (by decide) (by omega) u6 x6_1 (t222.length : Int) [.int .i64 (t222.length : Int)] (fun _ => True) (fun _ => False) rfl rfl ?aP (fun _ hk => hk.elim) ?aF ?aO ?aB ?aS ?aL ?_; (case aP => exact rfl); (case aB => exact (by repeat (first | (with_reducible first | exact HB.out | apply below_alloc | apply pw_below_drewN | apply below_drew1) | exact HB.out))); (case aF => exact (fun _ _ => trivial)); (case aO => exact (by (with_reducible repeat (first | apply Kd.R_alloc | apply Kd.R_drewN | apply Kd.R_drew)); exact HO_6.out)); (case aS => exact (below_size (by repeat (first | (with_reducible first | exact HB.out | apply below_alloc | apply pw_below_drewN | apply below_drew1) | exact HB.out)))); (case aL => have := LMc8.out; omega); intro v226 w12 ho hb hg hat; rw [← Ny225.out] at ho; have n0_ := Aside0.mk (Kd.V_afterv (ok := (fun _ => True)) (by (with_reducible repeat (first | apply Kd.V_alloc | apply Kd.V_drewN | apply Kd.V_drew)); exact Kd.V_mono HO_5.out (fun _ hk => ⟨trivial, hk⟩)) hg hat); have n1_ := Aside0.mk (Kd.V_afterv (ok := (fun _ => True)) (by (with_reducible repeat (first | apply Kd.V_alloc | apply Kd.V_drewN | apply Kd.V_drew)); exact Kd.V_mono HO224.out (fun _ hk => ⟨trivial, hk⟩)) hg hat); have n2_ := Aside0.mk (hb); have n3_ := Aside0.mk (ho); clear HO_5; clear HO224; clear HB; clear HO_6; have HO_5 := n0_; have HO224 := n1_; have HB := n2_; have HO227 := n3_; clear n0_ n1_ n2_ n3_; clear ho hb hg hat)); try go_wp2_with (first | (go_at_call 10; (with_reducible refine (num_Put.calls _ _ x5_1 (rd l0 x7_1) t222 _ ?side1 ?side2 A7.out).mono ?_); (case side1 => repeat (first | exact (Kd.V_reads' HO_5.out).2.2 | (with_reducible refine Kd.C_alloc ?_ _) | (with_reducible refine Kd.C_drewN ?_ _) | (with_reducible refine Kd.C_drew ?_))); (case side2 => exact (Kd.V_reads' HO_5.out).2.1); rintro e w10 ⟨v223, rfl, ho0, hb⟩; have n0_ := Aside0.mk (Kd.V_below (by (with_reducible repeat (first | apply Kd.V_alloc | apply Kd.V_drewN | apply Kd.V_drew)); exact HO_5.out) hb); have n1_ := Aside0.mk (Kd.R_below (by (with_reducible repeat (first | apply Kd.R_alloc | apply Kd.R_drewN | apply Kd.R_drew)); exact HO_6.out) hb); have n2_ := Aside0.mk (Kd.V_lower (Kd.V_mono (ok' := fun k_ => some k_ ≠ (u6 : Value).ownBlock) ho0 (fun k_ hk_ => (Kd.fresh' (Kd.R_lt (by (with_reducible repeat (first | apply Kd.R_alloc | apply Kd.R_drewN | apply Kd.R_drew)); exact HO_6.out)) k_ hk_))) (below_size (by repeat (first | (with_reducible first | exact HB.out | apply below_alloc | apply pw_below_drewN | apply below_drew1) | exact HB.out)))); have n3_ := Aside0.mk (below_step (by repeat (first | (with_reducible first | exact HB.out | apply below_alloc | apply pw_below_drewN | apply below_drew1) | exact HB.out)) hb); clear HO_5; clear HO_6; clear HB; have HO_5 := n0_; have HO_6 := n1_; have HO224 := n2_; have HB := n3_; clear n0_ n1_ n2_ n3_; (try clear hb); (try clear hb2); (try clear hk); (try clear hi); (try clear ho0); obtain ⟨Ao11, co11, eo11⟩ := Kd.V_slice HO224.out; subst eo11) | ((with_reducible refine gate_builtin (b := .append) (xs := #[.tmp 29, .tmp 32]) rfl ?_); (try (refine gate_guard (by rfl) ?_; dsimp only)); at_builtin; refine Kd.R_append (Kd.int .i64) (w0 := w) w.heap.size rfl (.tmp 29) (.tmp 32) 39 3 (.int .i64 0) 8 rfl Try.underlying39 info3 rfl (by decide) (by omega) u6 x6_1 (t222.length : Int) [.int .i64 (t222.length : Int)] (fun _ => True) (fun _ => False) rfl rfl ?aP (fun _ hk => hk.elim) ?aF ?aO ?aB ?aS ?aL ?_; (case aP => exact rfl); (case aB => exact (by repeat (first | (with_reducible first | exact HB.out | apply below_alloc | apply pw_below_drewN | apply below_drew1) | exact HB.out))); (case aF => exact (fun _ _ => trivial)); (case aO => exact (by (with_reducible repeat (first | apply Kd.R_alloc | apply Kd.R_drewN | apply Kd.R_drew)); exact HO_6.out)); (case aS => exact (below_size (by repeat (first | (with_reducible first | exact HB.out | apply below_alloc | apply pw_below_drewN | apply below_drew1) | exact HB.out)))); (case aL => have := LMc8.out; omega); intro v226 w12 ho hb hg hat; rw [← Ny225.out] at ho; have n0_ := Aside0.mk (Kd.V_afterv (ok := (fun _ => True)) (by (with_reducible repeat (first | apply Kd.V_alloc | apply Kd.V_drewN | apply Kd.V_drew)); exact Kd.V_mono HO_5.out (fun _ hk => ⟨trivial, hk⟩)) hg hat); have n1_ := Aside0.mk (Kd.V_afterv (ok := (fun _ => True)) (by (with_reducible repeat (first | apply Kd.V_alloc | apply Kd.V_drewN | apply Kd.V_drew)); exact Kd.V_mono HO224.out (fun _ hk => ⟨trivial, hk⟩)) hg hat); have n2_ := Aside0.mk (hb); have n3_ := Aside0.mk (ho); clear HO_5; clear HO224; clear HB; clear HO_6; have HO_5 := n0_; have HO224 := n1_; have HB := n2_; have HO227 := n3_; clear n0_ n1_ n2_ n3_; clear ho hb hg hat)))
                go_roundg k1
                case measure => have := HK1.out; omega
                case rel => exact ⟨(t222), (y225), (wrap64 (x7_1 + 1)), (by first | rfl | (simp; done) | (simp [*]; done)), H', ⟨by have := HK1.out; omega⟩, ⟨by (with_reducible repeat (first | apply Kd.V_alloc | apply Kd.V_drewN | apply Kd.V_drew)); exact Kd.V_mono HO224.out (fun _ hk => hk.2)⟩, ⟨by (with_reducible repeat (first | apply Kd.R_alloc | apply Kd.R_drewN | apply Kd.R_drew)); exact HO227.out⟩, ⟨by repeat (first | (with_reducible first | exact HB.out | apply below_alloc | apply pw_below_drewN | apply below_drew1) | exact HB.out)⟩⟩
              · rw [if_neg c8] at H
                exact absurd H (by simp)
            · rw [if_neg c6] at H
              exact absurd H (by simp)
          · rw [if_neg c5] at H
            have c5b0 : decide (x7_1 < 40) = false := decide_eq_false c5
            clear c5
            have H' := Aside0.mk H
            clear H
            go_wp2
            repeat (go_quiet (fail); try go_wp2)
            go_meet
            case rel => exact ⟨_, (x5_1), (x6_1), H', ⟨by have := HK1.out; first | omega | exact Nat.le_refl _⟩, ⟨by (with_reducible repeat (first | apply Kd.V_alloc | apply Kd.V_drewN | apply Kd.V_drew)); exact HO_5.out⟩, ⟨by (with_reducible repeat (first | apply Kd.R_alloc | apply Kd.R_drewN | apply Kd.R_drew)); exact HO_6.out⟩, ⟨by repeat (first | (with_reducible first | exact HB.out | apply below_alloc | apply pw_below_drewN | apply below_drew1) | exact HB.out)⟩⟩
        · rw [if_neg c4] at H
          have c4b0 : decide (x7_1 < (l0.length : Int)) = false := decide_eq_false c4
          clear c4
          (first | rw [c4b0] | (simp only [i64_w, i32_w]; rw [c4b0]) | skip)
          have H' := Aside0.mk H
          clear H
          go_wp2
          repeat (go_quiet (fail); try go_wp2)
          go_meet
          case rel => exact ⟨_, (x5_1), (x6_1), H', ⟨by have := HK1.out; first | omega | exact Nat.le_refl _⟩, ⟨by (with_reducible repeat (first | apply Kd.V_alloc | apply Kd.V_drewN | apply Kd.V_drew)); exact HO_5.out⟩, ⟨by (with_reducible repeat (first | apply Kd.R_alloc | apply Kd.R_drewN | apply Kd.R_drew)); exact HO_6.out⟩, ⟨by repeat (first | (with_reducible first | exact HB.out | apply below_alloc | apply pw_below_drewN | apply below_drew1) | exact HB.out)⟩⟩
  case rest =>
    clear HC3
    try clear p2
    try clear q2
    try clear hx2
    try clear c4
    try clear c4b0
    try clear c5
    try clear c5b0
    try clear c6
    try clear c6b0
    try clear p6
    try clear c8
    try clear hx221_0
    try clear p2
    try clear p221
    try clear q221
    obtain ⟨kq, x5_2, x6_2, HA, HJ2, HO_5, HO_6, HB⟩ := hcut
    cases kq with
    | zero => exact absurd HA.out (by simp [concordancelaw1_NumRows.j1])
    | succ kj2 =>
      have H := HA.out
      clear HA
      simp only [concordancelaw1_NumRows.j1] at H
      by_cases c13 : (wrap64 ((x5_2.length : Int) + 1)) = 0
      · rw [if_pos c13] at H
        exact absurd H (by simp)
      · rw [if_neg c13] at H
        have c13b0 : ((wrap64 ((x5_2.length : Int) + 1)) == 0) = false := beq_eq_false_iff_ne.mpr c13
        have c13b1 : ((wrap64 ((x5_2.length : Int) + 1)) != 0) = true := bne_iff_ne.mpr c13
        obtain ⟨ji14, hji14⟩ : ∃ j_ : Int, (Int.tmod (Go.bits .and .i64 a1 65535) (wrap64 ((x5_2.length : Int) + 1))) = j_ := ⟨_, rfl⟩
        replace H : (if 0 ≤ (ji14) then (if (ji14) ≤ (x5_2.length : Int) then ((concordancelaw1_told.f (x5_2.take ((ji14) : Int).toNat) 100).bind fun bt233 => (concordancelaw1_NumRows.l1 kj2 l0 x6_2 ji14 bt233.1 bt233.2 0)) else (none)) else (none)) = some r := by first | (rw [hji14] at H; exact H) | (simp only [hji14] at H ⊢; exact H)
        by_cases c15 : 0 ≤ (ji14)
        · rw [if_pos c15] at H
          have c15b0 := eq_true c15
          have c15b1 : decide (0 ≤ (ji14)) = true := decide_eq_true c15
          clear c15
          by_cases c16 : (ji14) ≤ (x5_2.length : Int)
          · rw [if_pos c16] at H
            have c16b0 := eq_true c16
            have c16b1 : decide ((ji14) ≤ (x5_2.length : Int)) = true := decide_eq_true c16
            clear c16
            obtain ⟨y228, hy228⟩ : ∃ y_ : List Int, y_ = (x5_2.take ((ji14) : Int).toNat) := ⟨_, rfl⟩
            replace H : ((concordancelaw1_told.f y228 100).bind fun bt233 => (concordancelaw1_NumRows.l1 kj2 l0 x6_2 ji14 bt233.1 bt233.2 0)) = some r := by first | (rw [hy228]; with_reducible exact H) | (have H2_ := (Option.bind_some _ _).symm.trans H; rw [hy228]; with_reducible exact H2_) | (have H2_ := (Option.bind_some _ _).symm.trans H; with_reducible exact H2_) | with_reducible exact H | (rw [hy228]; exact H) | exact H
            have Ny228 := Aside0.mk hy228
            clear hy228
            replace H := Option.bind_eq_some_iff.mp H
            obtain ⟨⟨t233, t234⟩, A170, H⟩ := H
            replace H : (concordancelaw1_NumRows.l1 kj2 l0 x6_2 ji14 t233 t234 0) = some r := H
            have A17 := Aside0.mk A170
            clear A170
            have HC18 := Aside0.mk H
            clear H
            obtain ⟨Ao19, co19, eo19⟩ := Kd.V_slice HO_5.out
            subst eo19
            have q20 : ((ji14) : Int) ≤ ((x5_2.length : Int) : Int) := of_decide_eq_true (by first | (with_reducible assumption) | assumption)
            obtain ⟨i020, hi020, _, hsz20, _⟩ := info_parts info5
            have hroom20 : x5_2.length ≤ co19 := (Kd.V_reads' HO_5.out).2.1
            have hC20 : Kd.F (Kd.int .u8) _ _ Ao19 x5_2.length x5_2 := (Kd.V_at (base := w.heap.size) HO_5.out).2.2
            have hcut20 := cut_to (P := Try.prog) 23 5 .i64 Try.underlying23 hi020 Ao19 x5_2.length co19 (ji14) (of_decide_eq_true (by first | (with_reducible assumption) | assumption)) q20 hroom20
            have hr20 := Kd.F_take (m := ((ji14) : Int).toNat) hC20 (by omega)
            have hy20 : y228.length = ((ji14) : Int).toNat := (by rw [Ny228.out, List.length_take]; omega)
            rw [← Ny228.out] at hr20
            rw [← hy20] at hcut20
            have HO232 := Aside0.mk (show Kd.V (Kd.int .u8) 5 _ w.heap.size _ (.slice Ao19 y228.length co19) y228 from Kd.V_mk (by omega) hr20)
            have HC232 := Aside0.mk (show y228.length ≤ co19 from by omega)
            clear hr20 hC20 hroom20 hi020 hsz20
            have KY20 := Aside0.mk hy20
            clear hy20
            replace q20 := eq_true q20
            go_upto_block 2 with (first | (go_at_call 21; (with_reducible refine (concordancelaw1_told.calls _ _ y228 100 t233 t234 _ ?side1 ?side2 A17.out).mono ?_); (case side1 => repeat (first | exact (Kd.V_reads' HO232.out).2.2 | (with_reducible refine Kd.C_alloc ?_ _) | (with_reducible refine Kd.C_drewN ?_ _) | (with_reducible refine Kd.C_drew ?_))); (case side2 => exact (Kd.V_reads' HO232.out).2.1); rintro e w21 ⟨v235, v237, rfl, ho0, ho1, hb⟩; have n0_ := Aside0.mk (Kd.V_mono (Kd.V_told (Kd.V_told (Kd.V_old (by (with_reducible repeat (first | apply Kd.V_alloc | apply Kd.V_drewN | apply Kd.V_drew)); exact HO_5.out) hb) (Kd.R_base ho0)) (Kd.R_base ho1)) (fun _ h_ => h_.1)); have n1_ := Aside0.mk (Kd.R_elder' (by (with_reducible repeat (first | apply Kd.R_alloc | apply Kd.R_drewN | apply Kd.R_drew)); exact HO_6.out) (Kd.R_base ho0) hb); have n2_ := Aside0.mk (Kd.V_mono (Kd.V_told (Kd.V_told (Kd.V_old (by (with_reducible repeat (first | apply Kd.V_alloc | apply Kd.V_drewN | apply Kd.V_drew)); exact HO232.out) hb) (Kd.R_base ho0)) (Kd.R_base ho1)) (fun _ h_ => h_.1)); have n3_ := Aside0.mk (Kd.R_lower (Kd.R_new' ho0 (Kd.R_lt (by (with_reducible repeat (first | apply Kd.R_alloc | apply Kd.R_drewN | apply Kd.R_drew)); exact HO_6.out))) (below_size (by repeat (first | (with_reducible first | exact HB.out | apply below_alloc | apply pw_below_drewN | apply below_drew1) | exact HB.out)))); have n4_ := Aside0.mk (Kd.R_lower ho1 (below_size (by repeat (first | (with_reducible first | exact HB.out | apply below_alloc | apply pw_below_drewN | apply below_drew1) | exact HB.out)))); have n5_ := Aside0.mk (below_step (by repeat (first | (with_reducible first | exact HB.out | apply below_alloc | apply pw_below_drewN | apply below_drew1) | exact HB.out)) hb); clear HO_5; clear HO_6; clear HO232; clear HB; have HO_5 := n0_; have HO_6 := n1_; have HO232 := n2_; have HO236 := n3_; have HO238 := n4_; have HB := n5_; clear n0_ n1_ n2_ n3_ n4_ n5_; (try clear hb); (try clear hb2); (try clear hk); (try clear hi); (try clear ho0); (try clear ho1)))
            repeat (go_quiet (first | (go_at_call 21; (with_reducible refine (concordancelaw1_told.calls _ _ y228 100 t233 t234 _ ?side1 ?side2 A17.out).mono ?_); (case side1 => repeat (first | exact (Kd.V_reads' HO232.out).2.2 | (with_reducible refine Kd.C_alloc ?_ _) | (with_reducible refine Kd.C_drewN ?_ _) | (with_reducible refine Kd.C_drew ?_))); (case side2 => exact (Kd.V_reads' HO232.out).2.1); rintro e w21 ⟨v235, v237, rfl, ho0, ho1, hb⟩; have n0_ := Aside0.mk (Kd.V_mono (Kd.V_told (Kd.V_told (Kd.V_old (by (with_reducible repeat (first | apply Kd.V_alloc | apply Kd.V_drewN | apply Kd.V_drew)); exact HO_5.out) hb) (Kd.R_base ho0)) (Kd.R_base ho1)) (fun _ h_ => h_.1)); have n1_ := Aside0.mk (Kd.R_elder' (by (with_reducible repeat (first | apply Kd.R_alloc | apply Kd.R_drewN | apply Kd.R_drew)); exact HO_6.out) (Kd.R_base ho0) hb); have n2_ := Aside0.mk (Kd.V_mono (Kd.V_told (Kd.V_told (Kd.V_old (by (with_reducible repeat (first | apply Kd.V_alloc | apply Kd.V_drewN | apply Kd.V_drew)); exact HO232.out) hb) (Kd.R_base ho0)) (Kd.R_base ho1)) (fun _ h_ => h_.1)); have n3_ := Aside0.mk (Kd.R_lower (Kd.R_new' ho0 (Kd.R_lt (by (with_reducible repeat (first | apply Kd.R_alloc | apply Kd.R_drewN | apply Kd.R_drew)); exact HO_6.out))) (below_size (by repeat (first | (with_reducible first | exact HB.out | apply below_alloc | apply pw_below_drewN | apply below_drew1) | exact HB.out)))); have n4_ := Aside0.mk (Kd.R_lower ho1 (below_size (by repeat (first | (with_reducible first | exact HB.out | apply below_alloc | apply pw_below_drewN | apply below_drew1) | exact HB.out)))); have n5_ := Aside0.mk (below_step (by repeat (first | (with_reducible first | exact HB.out | apply below_alloc | apply pw_below_drewN | apply below_drew1) | exact HB.out)) hb); clear HO_5; clear HO_6; clear HO232; clear HB; have HO_5 := n0_; have HO_6 := n1_; have HO232 := n2_; have HO236 := n3_; have HO238 := n4_; have HB := n5_; clear n0_ n1_ n2_ n3_ n4_ n5_; (try clear hb); (try clear hb2); (try clear hk); (try clear hi); (try clear ho0); (try clear ho1))); go_upto_block 2 with (first | (go_at_call 21; (with_reducible refine (concordancelaw1_told.calls _ _ y228 100 t233 t234 _ ?side1 ?side2 A17.out).mono ?_); (case side1 => repeat (first | exact (Kd.V_reads' HO232.out).2.2 | (with_reducible refine Kd.C_alloc ?_ _) | (with_reducible refine Kd.C_drewN ?_ _) | (with_reducible refine Kd.C_drew ?_))); (case side2 => exact (Kd.V_reads' HO232.out).2.1); rintro e w21 ⟨v235, v237, rfl, ho0, ho1, hb⟩; have n0_ := Aside0.mk (Kd.V_mono (Kd.V_told (Kd.V_told (Kd.V_old (by (with_reducible repeat (first | apply Kd.V_alloc | apply Kd.V_drewN | apply Kd.V_drew)); exact HO_5.out) hb) (Kd.R_base ho0)) (Kd.R_base ho1)) (fun _ h_ => h_.1)); have n1_ := Aside0.mk (Kd.R_elder' (by (with_reducible repeat (first | apply Kd.R_alloc | apply Kd.R_drewN | apply Kd.R_drew)); exact HO_6.out) (Kd.R_base ho0) hb); have n2_ := Aside0.mk (Kd.V_mono (Kd.V_told (Kd.V_told (Kd.V_old (by (with_reducible repeat (first | apply Kd.V_alloc | apply Kd.V_drewN | apply Kd.V_drew)); exact HO232.out) hb) (Kd.R_base ho0)) (Kd.R_base ho1)) (fun _ h_ => h_.1)); have n3_ := Aside0.mk (Kd.R_lower (Kd.R_new' ho0 (Kd.R_lt (by (with_reducible repeat (first | apply Kd.R_alloc | apply Kd.R_drewN | apply Kd.R_drew)); exact HO_6.out))) (below_size (by repeat (first | (with_reducible first | exact HB.out | apply below_alloc | apply pw_below_drewN | apply below_drew1) | exact HB.out)))); have n4_ := Aside0.mk (Kd.R_lower ho1 (below_size (by repeat (first | (with_reducible first | exact HB.out | apply below_alloc | apply pw_below_drewN | apply below_drew1) | exact HB.out)))); have n5_ := Aside0.mk (below_step (by repeat (first | (with_reducible first | exact HB.out | apply below_alloc | apply pw_below_drewN | apply below_drew1) | exact HB.out)) hb); clear HO_5; clear HO_6; clear HO232; clear HB; have HO_5 := n0_; have HO_6 := n1_; have HO232 := n2_; have HO236 := n3_; have HO238 := n4_; have HB := n5_; clear n0_ n1_ n2_ n3_ n4_ n5_; (try clear hb); (try clear hb2); (try clear hk); (try clear hi); (try clear ho0); (try clear ho1))))
            (try simp only [Act.put, List.setIfInBounds_toArray, List.set_cons_zero, List.set_cons_succ])
            go_cut [11] (fun v11 wc => ∃ (kq : Nat) (x11_17 : Int), v11 = .int .i64 x11_17 ∧ Aside0 (concordancelaw1_NumRows.j3 kq l0 x6_2 t233 t234 x11_17 = some r) ∧ Aside0 (kq ≤ kj2) ∧ Aside0 (Kd.R (Kd.int .i64) 3 wc w.heap.size (fun k_ => some k_ ≠ (v235 : Value).ownBlock) u6 x6_2) ∧ Aside0 (Kd.R (Kd.int .i64) 3 wc w.heap.size (fun k_ => some k_ ≠ (u6 : Value).ownBlock) v235 t233) ∧ Aside0 (Kd.R (Kd.int .u64) 22 wc w.heap.size (fun _ => True) v237 t234) ∧ Aside0 (Below w.heap.size w wc))
            case first =>
              have H := HC18.out
              clear HC18
              have H' := Aside0.mk H
              clear H
              go_wp2
              repeat (go_quiet (fail); try go_wp2)
              go_loopg [11] kj2 (fun kq v11 w' => ∃ (x11_2 : Int), v11 = .int .i64 x11_2 ∧ Aside0 (concordancelaw1_NumRows.l1 kq l0 x6_2 ji14 t233 t234 x11_2 = some r) ∧ Aside0 (kq ≤ kj2) ∧ Aside0 (Kd.R (Kd.int .i64) 3 w' w.heap.size (fun k_ => some k_ ≠ (v235 : Value).ownBlock) u6 x6_2) ∧ Aside0 (Kd.R (Kd.int .i64) 3 w' w.heap.size (fun k_ => some k_ ≠ (u6 : Value).ownBlock) v235 t233) ∧ Aside0 (Kd.R (Kd.int .u64) 22 w' w.heap.size (fun _ => True) v237 t234) ∧ Aside0 (Below w.heap.size w w'))
              case atStart => exact ⟨(0), (by first | rfl | (simp; done) | (simp [*]; done)), H', ⟨Nat.le_refl _⟩, ⟨by (with_reducible repeat (first | apply Kd.R_alloc | apply Kd.R_drewN | apply Kd.R_drew)); exact Kd.R_mono HO_6.out (fun _ hk => hk.2)⟩, ⟨by (with_reducible repeat (first | apply Kd.R_alloc | apply Kd.R_drewN | apply Kd.R_drew)); exact Kd.R_mono HO236.out (fun _ hk => hk.2)⟩, ⟨by (with_reducible repeat (first | apply Kd.R_alloc | apply Kd.R_drewN | apply Kd.R_drew)); exact HO238.out⟩, ⟨by repeat (first | (with_reducible first | exact HB.out | apply below_alloc | apply pw_below_drewN | apply below_drew1) | exact HB.out)⟩⟩
              case round =>
                clear H'
                try clear c1
                try clear p2
                try clear q2
                try clear hx2
                try clear c4
                try clear c4b0
                try clear c5
                try clear c5b0
                try clear c6
                try clear c6b0
                try clear p6
                try clear c8
                try clear c13
                try clear c13b0
                try clear c13b1
                try clear c15
                try clear c15b0
                try clear c15b1
                try clear c16
                try clear c16b0
                try clear c16b1
                try clear q20
                try clear hx221_0
                try clear p2
                try clear p221
                try clear p6
                try clear q2
                try clear q20
                try clear q221
                obtain ⟨x11_2, rfl, HA, HK2, HO_6, HO_9, HO_10, HB⟩ := hrel
                cases gk with
                | zero => exact absurd HA.out (by simp [concordancelaw1_NumRows.l1])
                | succ k2 =>
                  have H := HA.out
                  clear HA
                  simp only [concordancelaw1_NumRows.l1] at H
                  by_cases c22 : x11_2 < (x6_2.length : Int)
                  · rw [if_pos c22] at H
                    have c22b0 : decide (x11_2 < (x6_2.length : Int)) = true := decide_eq_true c22
                    clear c22
                    (first | rw [c22b0] | (simp only [i64_w, i32_w]; rw [c22b0]) | skip)
                    by_cases c23 : 0 ≤ x11_2
                    · rw [if_pos c23] at H
                      have c23b0 : decide (0 ≤ x11_2) = true := decide_eq_true c23
                      clear c23
                      by_cases c24 : (rd x6_2 x11_2) ≤ ji14
                      · rw [if_pos c24] at H
                        have c24b0 : decide ((rd x6_2 x11_2) ≤ ji14) = true := decide_eq_true c24
                        clear c24
                        have H' := Aside0.mk H
                        clear H
                        obtain ⟨Ao25, co25, eo25⟩ := Kd.R_slice HO_6.out
                        subst eo25
                        have p239 : 0 ≤ (x11_2 : Int) := of_decide_eq_true (by first | (with_reducible assumption) | assumption)
                        have q239 : x11_2 < (x6_2.length : Int) := of_decide_eq_true (by first | (with_reducible assumption) | assumption)
                        obtain ⟨ad239, e239, hx239_0⟩ := Kd.at_int (Kd.R_reads' HO_6.out).2.2 x11_2 p239 q239
                        cases e239
                        replace p239 := eq_true p239
                        replace q239 := eq_true q239
                        go_wp2
                        repeat (go_quiet (fail); try go_wp2)
                        go_roundg k2
                        case measure => have := HJ2.out; have := HK2.out; omega
                        case rel => exact ⟨(wrap64 (x11_2 + 1)), (by first | rfl | (simp; done) | (simp [*]; done)), H', ⟨by have := HJ2.out; have := HK2.out; omega⟩, ⟨by (with_reducible repeat (first | apply Kd.R_alloc | apply Kd.R_drewN | apply Kd.R_drew)); exact HO_6.out⟩, ⟨by (with_reducible repeat (first | apply Kd.R_alloc | apply Kd.R_drewN | apply Kd.R_drew)); exact HO_9.out⟩, ⟨by (with_reducible repeat (first | apply Kd.R_alloc | apply Kd.R_drewN | apply Kd.R_drew)); exact HO_10.out⟩, ⟨by repeat (first | (with_reducible first | exact HB.out | apply below_alloc | apply pw_below_drewN | apply below_drew1) | exact HB.out)⟩⟩
                      · rw [if_neg c24] at H
                        have c24b0 : decide ((rd x6_2 x11_2) ≤ ji14) = false := decide_eq_false c24
                        clear c24
                        have H' := Aside0.mk H
                        clear H
                        obtain ⟨Ao26, co26, eo26⟩ := Kd.R_slice HO_6.out
                        subst eo26
                        have p239 : 0 ≤ (x11_2 : Int) := of_decide_eq_true (by first | (with_reducible assumption) | assumption)
                        have q239 : x11_2 < (x6_2.length : Int) := of_decide_eq_true (by first | (with_reducible assumption) | assumption)
                        obtain ⟨ad239, e239, hx239_0⟩ := Kd.at_int (Kd.R_reads' HO_6.out).2.2 x11_2 p239 q239
                        cases e239
                        replace p239 := eq_true p239
                        replace q239 := eq_true q239
                        go_wp2
                        repeat (go_quiet (fail); try go_wp2)
                        go_meet
                        case rel => exact ⟨_, (x11_2), (by first | rfl | (simp; done) | (simp [*]; done)), H', ⟨by have := HJ2.out; have := HK2.out; first | omega | exact Nat.le_refl _⟩, ⟨by (with_reducible repeat (first | apply Kd.R_alloc | apply Kd.R_drewN | apply Kd.R_drew)); exact HO_6.out⟩, ⟨by (with_reducible repeat (first | apply Kd.R_alloc | apply Kd.R_drewN | apply Kd.R_drew)); exact HO_9.out⟩, ⟨by (with_reducible repeat (first | apply Kd.R_alloc | apply Kd.R_drewN | apply Kd.R_drew)); exact HO_10.out⟩, ⟨by repeat (first | (with_reducible first | exact HB.out | apply below_alloc | apply pw_below_drewN | apply below_drew1) | exact HB.out)⟩⟩
                    · rw [if_neg c23] at H
                      exact absurd H (by simp)
                  · rw [if_neg c22] at H
                    have c22b0 : decide (x11_2 < (x6_2.length : Int)) = false := decide_eq_false c22
                    clear c22
                    (first | rw [c22b0] | (simp only [i64_w, i32_w]; rw [c22b0]) | skip)
                    have H' := Aside0.mk H
                    clear H
                    obtain ⟨Ao27, co27, eo27⟩ := Kd.R_slice HO_6.out
                    subst eo27
                    go_wp2
                    repeat (go_quiet (fail); try go_wp2)
                    go_meet
                    case rel => exact ⟨_, (x11_2), (by first | rfl | (simp; done) | (simp [*]; done)), H', ⟨by have := HJ2.out; have := HK2.out; first | omega | exact Nat.le_refl _⟩, ⟨by (with_reducible repeat (first | apply Kd.R_alloc | apply Kd.R_drewN | apply Kd.R_drew)); exact HO_6.out⟩, ⟨by (with_reducible repeat (first | apply Kd.R_alloc | apply Kd.R_drewN | apply Kd.R_drew)); exact HO_9.out⟩, ⟨by (with_reducible repeat (first | apply Kd.R_alloc | apply Kd.R_drewN | apply Kd.R_drew)); exact HO_10.out⟩, ⟨by repeat (first | (with_reducible first | exact HB.out | apply below_alloc | apply pw_below_drewN | apply below_drew1) | exact HB.out)⟩⟩
            case rest =>
              clear HC18
              try clear c1
              try clear c2
              try clear p2
              try clear q2
              try clear hx2
              try clear c4
              try clear c4b0
              try clear c5
              try clear c5b0
              try clear c6
              try clear c6b0
              try clear p6
              try clear c8
              try clear c13
              try clear c13b0
              try clear c13b1
              try clear c15
              try clear c15b0
              try clear c15b1
              try clear c16
              try clear c16b0
              try clear c16b1
              try clear q20
              try clear c22
              try clear c22b0
              try clear p22
              try clear q22
              try clear hx22
              try clear c23
              try clear c23b0
              try clear p23
              try clear q23
              try clear hx23
              try clear c24
              try clear c24b0
              try clear hx221_0
              try clear hx239_0
              try clear p2
              try clear p221
              try clear p239
              try clear p6
              try clear q2
              try clear q20
              try clear q221
              try clear q239
              obtain ⟨kq, x11_17, rfl, HA, HJ17, HO_6, HO_9, HO_10, HB⟩ := hcut
              cases kq with
              | zero => exact absurd HA.out (by simp [concordancelaw1_NumRows.j3])
              | succ kj17 =>
                have H := HA.out
                clear HA
                simp only [concordancelaw1_NumRows.j3] at H
                have HC28 := Aside0.mk H
                clear H
                go_upto_region 13 with (fail)
                repeat (go_quiet (fail); go_upto_region 13 with (fail))
                go_cut [70] (fun v70 wc => ∃ (kq : Nat) (x70_27 : Bool), v70 = .bool x70_27 ∧ Aside0 (concordancelaw1_NumRows.j4 kq l0 x6_2 t233 t234 x11_17 x70_27 = some r) ∧ Aside0 (kq ≤ kj17) ∧ Aside0 (Kd.R (Kd.int .i64) 3 wc w.heap.size (fun k_ => some k_ ≠ (v235 : Value).ownBlock) u6 x6_2) ∧ Aside0 (Kd.R (Kd.int .i64) 3 wc w.heap.size (fun k_ => some k_ ≠ (u6 : Value).ownBlock) v235 t233) ∧ Aside0 (Kd.R (Kd.int .u64) 22 wc w.heap.size (fun _ => True) v237 t234) ∧ Aside0 (Below w.heap.size w wc))
                case first =>
                  have H := HC28.out
                  clear HC28
                  by_cases c29 : (t234.length : Int) = x11_17
                  · rw [if_pos c29] at H
                    have c29b0 : ((t234.length : Int) == x11_17) = true := beq_iff_eq.mpr c29
                    have c29b1 : ((t234.length : Int) != x11_17) = false := bne_eq_false_iff_eq.mpr c29
                    clear c29
                    (first | rw [c29b0] | (simp only [i64_w, i32_w]; rw [c29b0]) | skip)
                    have H' := Aside0.mk H
                    clear H
                    obtain ⟨Ao30, co30, eo30⟩ := Kd.R_slice HO_10.out
                    subst eo30
                    obtain ⟨Ao31, co31, eo31⟩ := Kd.R_slice HO_9.out
                    subst eo31
                    go_wp2
                    repeat (go_quiet (fail); try go_wp2)
                    go_meet
                    case rel => exact ⟨_, (((t233.length : Int) != x11_17)), (by first | rfl | (simp; done) | (simp [*]; done)), H', ⟨by have := HJ2.out; have := HJ17.out; first | omega | exact Nat.le_refl _⟩, ⟨by (with_reducible repeat (first | apply Kd.R_alloc | apply Kd.R_drewN | apply Kd.R_drew)); exact HO_6.out⟩, ⟨by (with_reducible repeat (first | apply Kd.R_alloc | apply Kd.R_drewN | apply Kd.R_drew)); exact HO_9.out⟩, ⟨by (with_reducible repeat (first | apply Kd.R_alloc | apply Kd.R_drewN | apply Kd.R_drew)); exact HO_10.out⟩, ⟨by repeat (first | (with_reducible first | exact HB.out | apply below_alloc | apply pw_below_drewN | apply below_drew1) | exact HB.out)⟩⟩
                  · rw [if_neg c29] at H
                    have c29b0 : ((t234.length : Int) == x11_17) = false := beq_eq_false_iff_ne.mpr c29
                    have c29b1 : ((t234.length : Int) != x11_17) = true := bne_iff_ne.mpr c29
                    (first | rw [c29b0] | (simp only [i64_w, i32_w]; rw [c29b0]) | skip)
                    have H' := Aside0.mk H
                    clear H
                    obtain ⟨Ao32, co32, eo32⟩ := Kd.R_slice HO_10.out
                    subst eo32
                    go_wp2
                    repeat (go_quiet (fail); try go_wp2)
                    go_meet
                    case rel => exact ⟨_, (true), (by first | rfl | (simp; done) | (simp [*]; done)), H', ⟨by have := HJ2.out; have := HJ17.out; first | omega | exact Nat.le_refl _⟩, ⟨by (with_reducible repeat (first | apply Kd.R_alloc | apply Kd.R_drewN | apply Kd.R_drew)); exact HO_6.out⟩, ⟨by (with_reducible repeat (first | apply Kd.R_alloc | apply Kd.R_drewN | apply Kd.R_drew)); exact HO_9.out⟩, ⟨by (with_reducible repeat (first | apply Kd.R_alloc | apply Kd.R_drewN | apply Kd.R_drew)); exact HO_10.out⟩, ⟨by repeat (first | (with_reducible first | exact HB.out | apply below_alloc | apply pw_below_drewN | apply below_drew1) | exact HB.out)⟩⟩
                case rest =>
                  clear HC28
                  try clear c1
                  try clear c2
                  try clear p2
                  try clear q2
                  try clear hx2
                  try clear c4
                  try clear c4b0
                  try clear c5
                  try clear c5b0
                  try clear c6
                  try clear c6b0
                  try clear p6
                  try clear c8
                  try clear c13
                  try clear c13b0
                  try clear c13b1
                  try clear c15
                  try clear c15b0
                  try clear c15b1
                  try clear c16
                  try clear c16b0
                  try clear c16b1
                  try clear q20
                  try clear c22
                  try clear c22b0
                  try clear p22
                  try clear q22
                  try clear hx22
                  try clear c23
                  try clear c23b0
                  try clear p23
                  try clear q23
                  try clear hx23
                  try clear c24
                  try clear c24b0
                  try clear c29
                  try clear c29b0
                  try clear c29b1
                  try clear hx221_0
                  try clear hx239_0
                  try clear p2
                  try clear p22
                  try clear p221
                  try clear p23
                  try clear p239
                  try clear p6
                  try clear q2
                  try clear q20
                  try clear q22
                  try clear q221
                  try clear q23
                  try clear q239
                  obtain ⟨kq, x70_27, rfl, HA, HJ27, HO_6, HO_9, HO_10, HB⟩ := hcut
                  cases kq with
                  | zero => exact absurd HA.out (by simp [concordancelaw1_NumRows.j4])
                  | succ kj27 =>
                    have H := HA.out
                    clear HA
                    simp only [concordancelaw1_NumRows.j4] at H
                    by_cases c33 : x70_27 = true
                    · subst c33
                      have H1 : (some false) = some r := by rw [if_pos rfl] at H; exact H
                      clear H
                      have H := H1
                      clear H1
                      obtain rfl := Option.some.inj H
                      go_wp2
                      repeat (go_quiet (fail); try go_wp2)
                      go_ret
                      exact ⟨by first | rfl | (simp [errW_none, errW_some] <;> rfl) | (simp only [← hji14]; first | rfl | (simp [errW_none, errW_some] <;> rfl)) | (simp [*, errW_none, errW_some] <;> rfl), by repeat (first | (with_reducible first | exact HB.out | apply below_alloc | apply pw_below_drewN | apply below_drew1) | exact HB.out)⟩
                    · replace c33 := Bool.eq_false_iff.mpr c33
                      subst c33
                      have H1 : (concordancelaw1_NumRows.l2 kj27 l0 x6_2 t233 t234 x11_17 0) = some r := by rw [if_neg (show ¬ (false = true) by decide)] at H; exact H
                      clear H
                      have H := H1
                      clear H1
                      have H' := Aside0.mk H
                      clear H
                      go_wp2
                      repeat (go_quiet (fail); try go_wp2)
                      go_loopg [12] kj27 (fun kq v12 w' => ∃ (x12_4 : Int), v12 = .int .i64 x12_4 ∧ Aside0 (concordancelaw1_NumRows.l2 kq l0 x6_2 t233 t234 x11_17 x12_4 = some r) ∧ Aside0 (kq ≤ kj27) ∧ Aside0 (Kd.R (Kd.int .i64) 3 w' w.heap.size (fun k_ => some k_ ≠ (v235 : Value).ownBlock) u6 x6_2) ∧ Aside0 (Kd.R (Kd.int .i64) 3 w' w.heap.size (fun k_ => some k_ ≠ (u6 : Value).ownBlock) v235 t233) ∧ Aside0 (Kd.R (Kd.int .u64) 22 w' w.heap.size (fun _ => True) v237 t234) ∧ Aside0 (Below w.heap.size w w'))
                      case atStart => exact ⟨(0), (by first | rfl | (simp; done) | (simp [*]; done)), H', ⟨Nat.le_refl _⟩, ⟨by (with_reducible repeat (first | apply Kd.R_alloc | apply Kd.R_drewN | apply Kd.R_drew)); exact HO_6.out⟩, ⟨by (with_reducible repeat (first | apply Kd.R_alloc | apply Kd.R_drewN | apply Kd.R_drew)); exact HO_9.out⟩, ⟨by (with_reducible repeat (first | apply Kd.R_alloc | apply Kd.R_drewN | apply Kd.R_drew)); exact HO_10.out⟩, ⟨by repeat (first | (with_reducible first | exact HB.out | apply below_alloc | apply pw_below_drewN | apply below_drew1) | exact HB.out)⟩⟩
                      case round =>
                        clear H'
                        try clear c1
                        try clear c2
                        try clear p2
                        try clear q2
                        try clear hx2
                        try clear c3
                        try clear c4
                        try clear c4b0
                        try clear c5
                        try clear c5b0
                        try clear c6
                        try clear c6b0
                        try clear p6
                        try clear c8
                        try clear c13
                        try clear c13b0
                        try clear c13b1
                        try clear c15
                        try clear c15b0
                        try clear c15b1
                        try clear c16
                        try clear c16b0
                        try clear c16b1
                        try clear q20
                        try clear c22
                        try clear c22b0
                        try clear p22
                        try clear q22
                        try clear hx22
                        try clear c23
                        try clear c23b0
                        try clear p23
                        try clear q23
                        try clear hx23
                        try clear c24
                        try clear c24b0
                        try clear c29
                        try clear c29b0
                        try clear c29b1
                        try clear c33
                        try clear hx221_0
                        try clear hx239_0
                        try clear p2
                        try clear p22
                        try clear p221
                        try clear p23
                        try clear p239
                        try clear p6
                        try clear q2
                        try clear q20
                        try clear q22
                        try clear q221
                        try clear q23
                        try clear q239
                        obtain ⟨x12_4, rfl, HA, HK4, HO_6, HO_9, HO_10, HB⟩ := hrel
                        cases gk with
                        | zero => exact absurd HA.out (by simp [concordancelaw1_NumRows.l2])
                        | succ k4 =>
                          have H := HA.out
                          clear HA
                          simp only [concordancelaw1_NumRows.l2] at H
                          by_cases c34 : x12_4 < x11_17
                          · rw [if_pos c34] at H
                            have c34b0 : decide (x12_4 < x11_17) = true := decide_eq_true c34
                            clear c34
                            by_cases c35 : 0 ≤ x12_4
                            · rw [if_pos c35] at H
                              have c35b0 : decide (0 ≤ x12_4) = true := decide_eq_true c35
                              clear c35
                              by_cases c36 : x12_4 < (t234.length : Int)
                              · rw [if_pos c36] at H
                                have c36b0 : decide (x12_4 < (t234.length : Int)) = true := decide_eq_true c36
                                clear c36
                                by_cases c37 : x12_4 < (l0.length : Int)
                                · rw [if_pos c37] at H
                                  have c37b0 : decide (x12_4 < (l0.length : Int)) = true := decide_eq_true c37
                                  clear c37
                                  by_cases c38 : (rd t234 x12_4) = (rd l0 x12_4)
                                  · rw [if_pos c38] at H
                                    have c38b0 : ((rd t234 x12_4) == (rd l0 x12_4)) = true := beq_iff_eq.mpr c38
                                    have c38b1 : ((rd t234 x12_4) != (rd l0 x12_4)) = false := bne_eq_false_iff_eq.mpr c38
                                    clear c38
                                    by_cases c39 : x12_4 > 0
                                    · rw [if_pos c39] at H
                                      have c39b0 : decide (0 < x12_4) = true := decide_eq_true c39
                                      clear c39
                                      by_cases c40 : x12_4 < (t233.length : Int)
                                      · rw [if_pos c40] at H
                                        have c40b0 : decide (x12_4 < (t233.length : Int)) = true := decide_eq_true c40
                                        clear c40
                                        obtain ⟨ji41, hji41⟩ : ∃ j_ : Int, (wrap64 (x12_4 - 1)) = j_ := ⟨_, rfl⟩
                                        replace H : (if 0 ≤ (ji41) then (if (ji41) < (x6_2.length : Int) then (if (rd t233 x12_4) = (rd x6_2 (ji41)) then (concordancelaw1_NumRows.l2 k4 l0 x6_2 t233 t234 x11_17 (wrap64 (x12_4 + 1))) else (some false)) else (none)) else (none)) = some r := by first | (rw [hji41] at H; exact H) | (simp only [hji41] at H ⊢; exact H)
                                        have hji41w : (IntKind.i64.wrap (x12_4 - 1)) = ji41 := (i64_w _).trans hji41
                                        by_cases c42 : 0 ≤ (ji41)
                                        · rw [if_pos c42] at H
                                          have c42b0 : decide (0 ≤ (ji41)) = true := decide_eq_true c42
                                          clear c42
                                          by_cases c43 : (ji41) < (x6_2.length : Int)
                                          · rw [if_pos c43] at H
                                            have c43b0 : decide ((ji41) < (x6_2.length : Int)) = true := decide_eq_true c43
                                            clear c43
                                            by_cases c44 : (rd t233 x12_4) = (rd x6_2 (ji41))
                                            · rw [if_pos c44] at H
                                              have c44b0 : ((rd t233 x12_4) == (rd x6_2 (ji41))) = true := beq_iff_eq.mpr c44
                                              have c44b1 : ((rd t233 x12_4) != (rd x6_2 (ji41))) = false := bne_eq_false_iff_eq.mpr c44
                                              clear c44
                                              have H' := Aside0.mk H
                                              clear H
                                              obtain ⟨Ao45, co45, eo45⟩ := Kd.R_slice HO_10.out
                                              subst eo45
                                              have p240 : 0 ≤ (x12_4 : Int) := of_decide_eq_true (by first | (with_reducible assumption) | assumption)
                                              have q240 : x12_4 < (t234.length : Int) := of_decide_eq_true (by first | (with_reducible assumption) | assumption)
                                              obtain ⟨ad240, e240, hx240_0⟩ := Kd.at_int (Kd.R_reads' HO_10.out).2.2 x12_4 p240 q240
                                              cases e240
                                              replace p240 := eq_true p240
                                              replace q240 := eq_true q240
                                              have p241 : 0 ≤ (x12_4 : Int) := of_decide_eq_true (by first | (with_reducible assumption) | assumption)
                                              have q241 : x12_4 < (l0.length : Int) := of_decide_eq_true (by first | (with_reducible assumption) | assumption)
                                              obtain ⟨ad241, e241, hx241_0⟩ := Kd.at_int HR0.out x12_4 p241 q241
                                              cases e241
                                              replace hx241_0 := (HB.out.cell (World.block_lt_of_cell? w _ hx241_0)).trans hx241_0
                                              replace p241 := eq_true p241
                                              replace q241 := eq_true q241
                                              obtain ⟨Ao46, co46, eo46⟩ := Kd.R_slice HO_9.out
                                              subst eo46
                                              have p242 : 0 ≤ (x12_4 : Int) := of_decide_eq_true (by first | (with_reducible assumption) | assumption)
                                              have q242 : x12_4 < (t233.length : Int) := of_decide_eq_true (by first | (with_reducible assumption) | assumption)
                                              obtain ⟨ad242, e242, hx242_0⟩ := Kd.at_int (Kd.R_reads' HO_9.out).2.2 x12_4 p242 q242
                                              cases e242
                                              replace p242 := eq_true p242
                                              replace q242 := eq_true q242
                                              obtain ⟨Ao47, co47, eo47⟩ := Kd.R_slice HO_6.out
                                              subst eo47
                                              have p243 : 0 ≤ ((ji41) : Int) := of_decide_eq_true (by first | (with_reducible assumption) | assumption)
                                              have q243 : (ji41) < (x6_2.length : Int) := of_decide_eq_true (by first | (with_reducible assumption) | assumption)
                                              obtain ⟨ad243, e243, hx243_0⟩ := Kd.at_int (Kd.R_reads' HO_6.out).2.2 (ji41) p243 q243
                                              cases e243
                                              replace p243 := eq_true p243
                                              replace q243 := eq_true q243
                                              go_wp2
                                              repeat (go_quiet (fail); try go_wp2)
                                              go_roundg k4
                                              case measure => have := HJ2.out; have := HJ17.out; have := HJ27.out; have := HK4.out; omega
                                              case rel => exact ⟨(wrap64 (x12_4 + 1)), (by first | rfl | (simp; done) | (simp [*]; done)), H', ⟨by have := HJ2.out; have := HJ17.out; have := HJ27.out; have := HK4.out; omega⟩, ⟨by (with_reducible repeat (first | apply Kd.R_alloc | apply Kd.R_drewN | apply Kd.R_drew)); exact HO_6.out⟩, ⟨by (with_reducible repeat (first | apply Kd.R_alloc | apply Kd.R_drewN | apply Kd.R_drew)); exact HO_9.out⟩, ⟨by (with_reducible repeat (first | apply Kd.R_alloc | apply Kd.R_drewN | apply Kd.R_drew)); exact HO_10.out⟩, ⟨by repeat (first | (with_reducible first | exact HB.out | apply below_alloc | apply pw_below_drewN | apply below_drew1) | exact HB.out)⟩⟩
                                            · rw [if_neg c44] at H
                                              have c44b0 : ((rd t233 x12_4) == (rd x6_2 (ji41))) = false := beq_eq_false_iff_ne.mpr c44
                                              have c44b1 : ((rd t233 x12_4) != (rd x6_2 (ji41))) = true := bne_iff_ne.mpr c44
                                              obtain rfl := Option.some.inj H
                                              obtain ⟨Ao48, co48, eo48⟩ := Kd.R_slice HO_10.out
                                              subst eo48
                                              have p240 : 0 ≤ (x12_4 : Int) := of_decide_eq_true (by first | (with_reducible assumption) | assumption)
                                              have q240 : x12_4 < (t234.length : Int) := of_decide_eq_true (by first | (with_reducible assumption) | assumption)
                                              obtain ⟨ad240, e240, hx240_0⟩ := Kd.at_int (Kd.R_reads' HO_10.out).2.2 x12_4 p240 q240
                                              cases e240
                                              replace p240 := eq_true p240
                                              replace q240 := eq_true q240
                                              have p241 : 0 ≤ (x12_4 : Int) := of_decide_eq_true (by first | (with_reducible assumption) | assumption)
                                              have q241 : x12_4 < (l0.length : Int) := of_decide_eq_true (by first | (with_reducible assumption) | assumption)
                                              obtain ⟨ad241, e241, hx241_0⟩ := Kd.at_int HR0.out x12_4 p241 q241
                                              cases e241
                                              replace hx241_0 := (HB.out.cell (World.block_lt_of_cell? w _ hx241_0)).trans hx241_0
                                              replace p241 := eq_true p241
                                              replace q241 := eq_true q241
                                              obtain ⟨Ao49, co49, eo49⟩ := Kd.R_slice HO_9.out
                                              subst eo49
                                              have p242 : 0 ≤ (x12_4 : Int) := of_decide_eq_true (by first | (with_reducible assumption) | assumption)
                                              have q242 : x12_4 < (t233.length : Int) := of_decide_eq_true (by first | (with_reducible assumption) | assumption)
                                              obtain ⟨ad242, e242, hx242_0⟩ := Kd.at_int (Kd.R_reads' HO_9.out).2.2 x12_4 p242 q242
                                              cases e242
                                              replace p242 := eq_true p242
                                              replace q242 := eq_true q242
                                              obtain ⟨Ao50, co50, eo50⟩ := Kd.R_slice HO_6.out
                                              subst eo50
                                              have p243 : 0 ≤ ((ji41) : Int) := of_decide_eq_true (by first | (with_reducible assumption) | assumption)
                                              have q243 : (ji41) < (x6_2.length : Int) := of_decide_eq_true (by first | (with_reducible assumption) | assumption)
                                              obtain ⟨ad243, e243, hx243_0⟩ := Kd.at_int (Kd.R_reads' HO_6.out).2.2 (ji41) p243 q243
                                              cases e243
                                              replace p243 := eq_true p243
                                              replace q243 := eq_true q243
                                              go_wp2
                                              repeat (go_quiet (fail); try go_wp2)
                                              go_ret
                                              exact ⟨by first | rfl | (simp [errW_none, errW_some] <;> rfl) | (simp only [← hji14, ← hji41]; first | rfl | (simp [errW_none, errW_some] <;> rfl)) | (simp [*, errW_none, errW_some] <;> rfl), by repeat (first | (with_reducible first | exact HB.out | apply below_alloc | apply pw_below_drewN | apply below_drew1) | exact HB.out)⟩
                                          · rw [if_neg c43] at H
                                            exact absurd H (by simp)
                                        · rw [if_neg c42] at H
                                          exact absurd H (by simp)
                                      · rw [if_neg c40] at H
                                        exact absurd H (by simp)
                                    · rw [if_neg c39] at H
                                      have c39b0 : decide (0 < x12_4) = false := decide_eq_false c39
                                      clear c39
                                      have H' := Aside0.mk H
                                      clear H
                                      obtain ⟨Ao51, co51, eo51⟩ := Kd.R_slice HO_10.out
                                      subst eo51
                                      have p240 : 0 ≤ (x12_4 : Int) := of_decide_eq_true (by first | (with_reducible assumption) | assumption)
                                      have q240 : x12_4 < (t234.length : Int) := of_decide_eq_true (by first | (with_reducible assumption) | assumption)
                                      obtain ⟨ad240, e240, hx240_0⟩ := Kd.at_int (Kd.R_reads' HO_10.out).2.2 x12_4 p240 q240
                                      cases e240
                                      replace p240 := eq_true p240
                                      replace q240 := eq_true q240
                                      have p241 : 0 ≤ (x12_4 : Int) := of_decide_eq_true (by first | (with_reducible assumption) | assumption)
                                      have q241 : x12_4 < (l0.length : Int) := of_decide_eq_true (by first | (with_reducible assumption) | assumption)
                                      obtain ⟨ad241, e241, hx241_0⟩ := Kd.at_int HR0.out x12_4 p241 q241
                                      cases e241
                                      replace hx241_0 := (HB.out.cell (World.block_lt_of_cell? w _ hx241_0)).trans hx241_0
                                      replace p241 := eq_true p241
                                      replace q241 := eq_true q241
                                      go_wp2
                                      repeat (go_quiet (fail); try go_wp2)
                                      go_roundg k4
                                      case measure => have := HJ2.out; have := HJ17.out; have := HJ27.out; have := HK4.out; omega
                                      case rel => exact ⟨(wrap64 (x12_4 + 1)), (by first | rfl | (simp; done) | (simp [*]; done)), H', ⟨by have := HJ2.out; have := HJ17.out; have := HJ27.out; have := HK4.out; omega⟩, ⟨by (with_reducible repeat (first | apply Kd.R_alloc | apply Kd.R_drewN | apply Kd.R_drew)); exact HO_6.out⟩, ⟨by (with_reducible repeat (first | apply Kd.R_alloc | apply Kd.R_drewN | apply Kd.R_drew)); exact HO_9.out⟩, ⟨by (with_reducible repeat (first | apply Kd.R_alloc | apply Kd.R_drewN | apply Kd.R_drew)); exact HO_10.out⟩, ⟨by repeat (first | (with_reducible first | exact HB.out | apply below_alloc | apply pw_below_drewN | apply below_drew1) | exact HB.out)⟩⟩
                                  · rw [if_neg c38] at H
                                    have c38b0 : ((rd t234 x12_4) == (rd l0 x12_4)) = false := beq_eq_false_iff_ne.mpr c38
                                    have c38b1 : ((rd t234 x12_4) != (rd l0 x12_4)) = true := bne_iff_ne.mpr c38
                                    obtain rfl := Option.some.inj H
                                    obtain ⟨Ao52, co52, eo52⟩ := Kd.R_slice HO_10.out
                                    subst eo52
                                    have p240 : 0 ≤ (x12_4 : Int) := of_decide_eq_true (by first | (with_reducible assumption) | assumption)
                                    have q240 : x12_4 < (t234.length : Int) := of_decide_eq_true (by first | (with_reducible assumption) | assumption)
                                    obtain ⟨ad240, e240, hx240_0⟩ := Kd.at_int (Kd.R_reads' HO_10.out).2.2 x12_4 p240 q240
                                    cases e240
                                    replace p240 := eq_true p240
                                    replace q240 := eq_true q240
                                    have p241 : 0 ≤ (x12_4 : Int) := of_decide_eq_true (by first | (with_reducible assumption) | assumption)
                                    have q241 : x12_4 < (l0.length : Int) := of_decide_eq_true (by first | (with_reducible assumption) | assumption)
                                    obtain ⟨ad241, e241, hx241_0⟩ := Kd.at_int HR0.out x12_4 p241 q241
                                    cases e241
                                    replace hx241_0 := (HB.out.cell (World.block_lt_of_cell? w _ hx241_0)).trans hx241_0
                                    replace p241 := eq_true p241
                                    replace q241 := eq_true q241
                                    go_wp2
                                    repeat (go_quiet (fail); try go_wp2)
                                    go_ret
                                    exact ⟨by first | rfl | (simp [errW_none, errW_some] <;> rfl) | (simp only [← hji14]; first | rfl | (simp [errW_none, errW_some] <;> rfl)) | (simp [*, errW_none, errW_some] <;> rfl), by repeat (first | (with_reducible first | exact HB.out | apply below_alloc | apply pw_below_drewN | apply below_drew1) | exact HB.out)⟩
                                · rw [if_neg c37] at H
                                  exact absurd H (by simp)
                              · rw [if_neg c36] at H
                                exact absurd H (by simp)
                            · rw [if_neg c35] at H
                              exact absurd H (by simp)
                          · rw [if_neg c34] at H
                            have c34b0 : decide (x12_4 < x11_17) = false := decide_eq_false c34
                            clear c34
                            replace H := Option.bind_eq_some_iff.mp H
                            obtain ⟨t244, A530, H⟩ := H
                            replace H : (some t244) = some r := H
                            have A53 := Aside0.mk A530
                            clear A530
                            obtain rfl := Option.some.inj H
                            go_wp2_with (first | (go_at_call 12; (with_reducible refine (concordancelaw1_awake.calls k4  t244 _ A53.out).mono ?_); rintro e w54 ⟨rfl, hb⟩; have n0_ := Aside0.mk (Kd.R_below (by (with_reducible repeat (first | apply Kd.R_alloc | apply Kd.R_drewN | apply Kd.R_drew)); exact HO_6.out) hb); have n1_ := Aside0.mk (Kd.R_below (by (with_reducible repeat (first | apply Kd.R_alloc | apply Kd.R_drewN | apply Kd.R_drew)); exact HO_9.out) hb); have n2_ := Aside0.mk (Kd.R_below (by (with_reducible repeat (first | apply Kd.R_alloc | apply Kd.R_drewN | apply Kd.R_drew)); exact HO_10.out) hb); have n3_ := Aside0.mk (below_step (by repeat (first | (with_reducible first | exact HB.out | apply below_alloc | apply pw_below_drewN | apply below_drew1) | exact HB.out)) hb); clear HO_6; clear HO_9; clear HO_10; clear HB; have HO_6 := n0_; have HO_9 := n1_; have HO_10 := n2_; have HB := n3_; clear n0_ n1_ n2_ n3_; (try clear hb); (try clear hb2); (try clear hk); (try clear hi)))
                            repeat (go_quiet (first | (go_at_call 12; (with_reducible refine (concordancelaw1_awake.calls k4  t244 _ A53.out).mono ?_); rintro e w54 ⟨rfl, hb⟩; have n0_ := Aside0.mk (Kd.R_below (by (with_reducible repeat (first | apply Kd.R_alloc | apply Kd.R_drewN | apply Kd.R_drew)); exact HO_6.out) hb); have n1_ := Aside0.mk (Kd.R_below (by (with_reducible repeat (first | apply Kd.R_alloc | apply Kd.R_drewN | apply Kd.R_drew)); exact HO_9.out) hb); have n2_ := Aside0.mk (Kd.R_below (by (with_reducible repeat (first | apply Kd.R_alloc | apply Kd.R_drewN | apply Kd.R_drew)); exact HO_10.out) hb); have n3_ := Aside0.mk (below_step (by repeat (first | (with_reducible first | exact HB.out | apply below_alloc | apply pw_below_drewN | apply below_drew1) | exact HB.out)) hb); clear HO_6; clear HO_9; clear HO_10; clear HB; have HO_6 := n0_; have HO_9 := n1_; have HO_10 := n2_; have HB := n3_; clear n0_ n1_ n2_ n3_; (try clear hb); (try clear hb2); (try clear hk); (try clear hi))); try go_wp2_with (first | (go_at_call 12; (with_reducible refine (concordancelaw1_awake.calls k4  t244 _ A53.out).mono ?_); rintro e w54 ⟨rfl, hb⟩; have n0_ := Aside0.mk (Kd.R_below (by (with_reducible repeat (first | apply Kd.R_alloc | apply Kd.R_drewN | apply Kd.R_drew)); exact HO_6.out) hb); have n1_ := Aside0.mk (Kd.R_below (by (with_reducible repeat (first | apply Kd.R_alloc | apply Kd.R_drewN | apply Kd.R_drew)); exact HO_9.out) hb); have n2_ := Aside0.mk (Kd.R_below (by (with_reducible repeat (first | apply Kd.R_alloc | apply Kd.R_drewN | apply Kd.R_drew)); exact HO_10.out) hb); have n3_ := Aside0.mk (below_step (by repeat (first | (with_reducible first | exact HB.out | apply below_alloc | apply pw_below_drewN | apply below_drew1) | exact HB.out)) hb); clear HO_6; clear HO_9; clear HO_10; clear HB; have HO_6 := n0_; have HO_9 := n1_; have HO_10 := n2_; have HB := n3_; clear n0_ n1_ n2_ n3_; (try clear hb); (try clear hb2); (try clear hk); (try clear hi))))
                            go_ret
                            exact ⟨by first | rfl | (simp [errW_none, errW_some] <;> rfl) | (simp only [← hji14]; first | rfl | (simp [errW_none, errW_some] <;> rfl)) | (simp [*, errW_none, errW_some] <;> rfl), by repeat (first | (with_reducible first | exact HB.out | apply below_alloc | apply pw_below_drewN | apply below_drew1) | exact HB.out)⟩
          · rw [if_neg c16] at H
            exact absurd H (by simp)
        · rw [if_neg c15] at H
          exact absurd H (by simp)

/-- THE ONE PURE STATEMENT of concordancelaw1_NumRows: yours. -/
def concordancelaw1_NumRows.Pure : Prop := ∀ (l0 : List Int) (a1 : Int), l0.length ≤ maxLen → l0.length * 8 ≤ 140737488351232 → (∀ x ∈ l0, (Lit.int .u64 x).wf = true) → (Lit.int .i64 a1).wf = true → ∃ k, concordancelaw1_NumRows.f k l0 a1 = some true
theorem concordancelaw1_NumRows.walk (P : concordancelaw1_NumRows.Pure) (a0 : Option Addr) (len0 cap0 : Nat) (z0 : List Int) (a1 : Int) (w : World) (w0 : (a0 = none ∧ len0 = 0 ∧ cap0 = 0 ∧ z0 = []) ∨ ∃ x, a0 = some x ∧ len0 ≤ cap0 ∧ cap0 ≤ maxLen ∧ z0.length = cap0 ∧ (∀ i, i < z0.length → w.cell? (x.add i) = some (.int .u64 (z0.getD i 0))) ∧ ∀ n ∈ z0, (Lit.int .u64 n).wf = true) (y0 : len0 * 8 ≤ 140737488351232) (w1 : (Lit.int .i64 a1).wf = true) :
    Calls Try.prog 8 #[.slice a0 len0 cap0, .int .i64 a1] w fun e w' => e = .returned (.bool true) ∧ Below w.heap.size w w' := by
  obtain ⟨l0, rfl, hr0, hm0, hw0, hc0⟩ := ReadsInt.ofRowC w0
  obtain ⟨k, h⟩ := P l0 a1 hm0 y0 hw0 w1
  refine (concordancelaw1_NumRows.calls k _ _ l0 a1 true w (Kd.C_of_reads (d := (0 : Int)) (h1 := fun _ => rfl) hr0) hc0 h).mono ?_
  rintro e w' ⟨rfl, hd⟩
  exact ⟨rfl, hd⟩

end Go.Proofs.Ytpcjdgmjlnlfgaa.PNum
