/- Printed by a program of this session (drv.py) from the translation of this seat: functions, their contracts, rows. -/
import Derived.Test.YtpcjdgmjlnlfgaaPNumx0
import Derived.Test.YtpcjdgmjlnlfgaaPNumx8
import Derived.Test.YtpcjdgmjlnlfgaaPNumx17
import Derived.Test.YtpcjdgmjlnlfgaaPNumx19
import Derived.Test.YtpcjdgmjlnlfgaaPNumx20
namespace Go.Proofs.Ytpcjdgmjlnlfgaa.PNum
open Go.RowKit Go.Proofs.YtpcjdgmjlnlfgaaW.PrintWords Go.Proofs.YtpcjdgmjlnlfgaaW.PrintLast Go.Proofs.YtpcjdgmjlnlfgaaW.PrintMore
attribute [local go_sem] max2_int min2_int max_two min_two max_three min_three max_four min_four   -- for this text's walks alone
set_option linter.unusedVariables false
set_option linter.unusedSimpArgs false

/-! ### concordancelaw1_NumAll: function 7 -/
mutual
def concordancelaw1_NumAll.j1 : Nat → List Int → Int → List Int → List Int → Option (Bool)
  | 0, _, _, _, _ => none
  | k + 1, x0, x1, x5, x6 => (concordancelaw1_told.f x0 2000).bind fun bt198 => ((concordancelaw1_told.f x0 (Go.bits .and .i64 x1 255)).bind fun bt204 => ((concordancelaw1_same.f k bt198.1 x5).bind fun t210 => (if t210 = true then (if (bt198.2.length : Int) = (x6.length : Int) then (if 0 ≤ (mn (Go.bits .and .i64 x1 255) (x5.length : Int)) then (if (mn (Go.bits .and .i64 x1 255) (x5.length : Int)) ≤ (x5.length : Int) then ((concordancelaw1_same.f k bt204.1 (x5.take ((mn (Go.bits .and .i64 x1 255) (x5.length : Int)) : Int).toNat)).bind fun t215 => (if t215 = true then (concordancelaw1_NumAll.j2 k x6 bt198.2 bt204.2 (mn (Go.bits .and .i64 x1 255) (x5.length : Int)) ((bt204.2.length : Int) != (mn (Go.bits .and .i64 x1 255) (x5.length : Int)))) else (concordancelaw1_NumAll.j2 k x6 bt198.2 bt204.2 (mn (Go.bits .and .i64 x1 255) (x5.length : Int)) true))) else (none)) else (none)) else (concordancelaw1_NumAll.j2 k x6 bt198.2 bt204.2 (mn (Go.bits .and .i64 x1 255) (x5.length : Int)) true)) else (concordancelaw1_NumAll.j2 k x6 bt198.2 bt204.2 (mn (Go.bits .and .i64 x1 255) (x5.length : Int)) true))))
def concordancelaw1_NumAll.j2 : Nat → List Int → List Int → List Int → Int → Bool → Option (Bool)
  | 0, _, _, _, _, _ => none
  | k + 1, x6, x12, x14, x15, x88 => if x88 = true then (some false) else (concordancelaw1_NumAll.l1 k x6 x12 x14 x15 0)
def concordancelaw1_NumAll.l1 : Nat → List Int → List Int → List Int → Int → Int → Option (Bool)
  | 0, _, _, _, _, _ => none
  | k + 1, x6, x12, x14, x15, x16 => if x16 < (x6.length : Int) then (if 0 ≤ x16 then (if x16 < (x12.length : Int) then (if (rd x12 x16) = (rd x6 x16) then (if x16 < x15 then (if x16 < (x14.length : Int) then (if (rd x14 x16) = (rd x6 x16) then (concordancelaw1_NumAll.l1 k x6 x12 x14 x15 (wrap64 (x16 + 1))) else (some false)) else (none)) else (concordancelaw1_NumAll.l1 k x6 x12 x14 x15 (wrap64 (x16 + 1)))) else (some false)) else (none)) else (none)) else ((concordancelaw1_awake.f k).bind fun t220 => (some t220))
def concordancelaw1_NumAll.l0 : Nat → List Int → Int → List Int → List Int → Int → Option (Bool)
  | 0, _, _, _, _, _ => none
  | k + 1, x0, x1, x5, x6, x7 => if x7 < (x0.length : Int) then (if 0 ≤ x7 then (if x7 ≤ (x0.length : Int) then ((concordanceref1_Take.f k (strOfNums (x0.drop (x7 : Int).toNat))).bind fun bt189 => (if bt189.2.2 = 0 then (if x5.length < 17592186044416 then (if x6.length < 17592186044416 then (concordancelaw1_NumAll.l0 k x0 x1 (x5 ++ [x7]) (x6 ++ [bt189.1]) (wrap64 (x7 + bt189.2.1))) else (none)) else (none)) else (concordancelaw1_NumAll.j1 k x0 x1 x5 x6))) else (none)) else (none)) else (concordancelaw1_NumAll.j1 k x0 x1 x5 x6)
end
def concordancelaw1_NumAll.f (k : Nat) (l0 : List Int) (a1 : Int) : Option (Bool) := if (l0.length : Int) > 1000 then ((concordancelaw1_awake.f k).bind fun t187 => (some t187)) else (concordancelaw1_NumAll.l0 k l0 a1 ([] : List Int) ([] : List Int) 0)
theorem concordancelaw1_NumAll.mono_l : ∀ k, (∀ y0 y1 y2 y3, LeO (concordancelaw1_NumAll.j1 k y0 y1 y2 y3) (concordancelaw1_NumAll.j1 (k + 1) y0 y1 y2 y3)) ∧ (∀ y0 y1 y2 y3 y4, LeO (concordancelaw1_NumAll.j2 k y0 y1 y2 y3 y4) (concordancelaw1_NumAll.j2 (k + 1) y0 y1 y2 y3 y4)) ∧ (∀ y0 y1 y2 y3 y4, LeO (concordancelaw1_NumAll.l1 k y0 y1 y2 y3 y4) (concordancelaw1_NumAll.l1 (k + 1) y0 y1 y2 y3 y4)) ∧ (∀ y0 y1 y2 y3 y4, LeO (concordancelaw1_NumAll.l0 k y0 y1 y2 y3 y4) (concordancelaw1_NumAll.l0 (k + 1) y0 y1 y2 y3 y4))
  | 0 => ⟨fun _ _ _ _ r h => by simp [concordancelaw1_NumAll.j1] at h, fun _ _ _ _ _ r h => by simp [concordancelaw1_NumAll.j2] at h, fun _ _ _ _ _ r h => by simp [concordancelaw1_NumAll.l1] at h, fun _ _ _ _ _ r h => by simp [concordancelaw1_NumAll.l0] at h⟩
  | k + 1 => by
    obtain ⟨ih0, ih1, ih2, ih3⟩ := concordancelaw1_NumAll.mono_l k
    refine ⟨?_, ?_, ?_, ?_⟩
    · intro y0 y1 y2 y3
      unfold concordancelaw1_NumAll.j1
      repeat' first
      | (with_reducible exact ih0 _ _ _ _)
      | (with_reducible exact ih1 _ _ _ _ _)
      | (with_reducible exact ih2 _ _ _ _ _)
      | (with_reducible exact ih3 _ _ _ _ _)
      | (with_reducible exact concordancelaw1_awake.mono _)
      | (with_reducible exact concordancelaw1_same.mono _ _ _)
      | (with_reducible exact concordanceref1_Take.mono _ _)
      | (with_reducible exact LeO.refl _)
      | (with_reducible exact LeO.none _)
      | (with_reducible refine LeO.ite ?_ ?_)
      | (with_reducible refine LeO.bind ?_ (fun _ => ?_))
      | exact ih0 _ _ _ _
      | exact ih1 _ _ _ _ _
      | exact ih2 _ _ _ _ _
      | exact ih3 _ _ _ _ _
      | exact concordancelaw1_awake.mono _
      | exact concordancelaw1_same.mono _ _ _
      | exact concordanceref1_Take.mono _ _
      | exact LeO.none _
      | refine LeO.ite ?_ ?_
      | refine LeO.bind ?_ (fun _ => ?_)
    · intro y0 y1 y2 y3 y4
      unfold concordancelaw1_NumAll.j2
      repeat' first
      | (with_reducible exact ih0 _ _ _ _)
      | (with_reducible exact ih1 _ _ _ _ _)
      | (with_reducible exact ih2 _ _ _ _ _)
      | (with_reducible exact ih3 _ _ _ _ _)
      | (with_reducible exact concordancelaw1_awake.mono _)
      | (with_reducible exact concordancelaw1_same.mono _ _ _)
      | (with_reducible exact concordanceref1_Take.mono _ _)
      | (with_reducible exact LeO.refl _)
      | (with_reducible exact LeO.none _)
      | (with_reducible refine LeO.ite ?_ ?_)
      | (with_reducible refine LeO.bind ?_ (fun _ => ?_))
      | exact ih0 _ _ _ _
      | exact ih1 _ _ _ _ _
      | exact ih2 _ _ _ _ _
      | exact ih3 _ _ _ _ _
      | exact concordancelaw1_awake.mono _
      | exact concordancelaw1_same.mono _ _ _
      | exact concordanceref1_Take.mono _ _
      | exact LeO.none _
      | refine LeO.ite ?_ ?_
      | refine LeO.bind ?_ (fun _ => ?_)
    · intro y0 y1 y2 y3 y4
      unfold concordancelaw1_NumAll.l1
      repeat' first
      | (with_reducible exact ih0 _ _ _ _)
      | (with_reducible exact ih1 _ _ _ _ _)
      | (with_reducible exact ih2 _ _ _ _ _)
      | (with_reducible exact ih3 _ _ _ _ _)
      | (with_reducible exact concordancelaw1_awake.mono _)
      | (with_reducible exact concordancelaw1_same.mono _ _ _)
      | (with_reducible exact concordanceref1_Take.mono _ _)
      | (with_reducible exact LeO.refl _)
      | (with_reducible exact LeO.none _)
      | (with_reducible refine LeO.ite ?_ ?_)
      | (with_reducible refine LeO.bind ?_ (fun _ => ?_))
      | exact ih0 _ _ _ _
      | exact ih1 _ _ _ _ _
      | exact ih2 _ _ _ _ _
      | exact ih3 _ _ _ _ _
      | exact concordancelaw1_awake.mono _
      | exact concordancelaw1_same.mono _ _ _
      | exact concordanceref1_Take.mono _ _
      | exact LeO.none _
      | refine LeO.ite ?_ ?_
      | refine LeO.bind ?_ (fun _ => ?_)
    · intro y0 y1 y2 y3 y4
      unfold concordancelaw1_NumAll.l0
      repeat' first
      | (with_reducible exact ih0 _ _ _ _)
      | (with_reducible exact ih1 _ _ _ _ _)
      | (with_reducible exact ih2 _ _ _ _ _)
      | (with_reducible exact ih3 _ _ _ _ _)
      | (with_reducible exact concordancelaw1_awake.mono _)
      | (with_reducible exact concordancelaw1_same.mono _ _ _)
      | (with_reducible exact concordanceref1_Take.mono _ _)
      | (with_reducible exact LeO.refl _)
      | (with_reducible exact LeO.none _)
      | (with_reducible refine LeO.ite ?_ ?_)
      | (with_reducible refine LeO.bind ?_ (fun _ => ?_))
      | exact ih0 _ _ _ _
      | exact ih1 _ _ _ _ _
      | exact ih2 _ _ _ _ _
      | exact ih3 _ _ _ _ _
      | exact concordancelaw1_awake.mono _
      | exact concordancelaw1_same.mono _ _ _
      | exact concordanceref1_Take.mono _ _
      | exact LeO.none _
      | refine LeO.ite ?_ ?_
      | refine LeO.bind ?_ (fun _ => ?_)
theorem concordancelaw1_NumAll.mono : ∀ a0 a1 k, LeO (concordancelaw1_NumAll.f k a0 a1) (concordancelaw1_NumAll.f (k + 1) a0 a1) := by
  intro a0 a1 k
  obtain ⟨ih0, ih1, ih2, ih3⟩ := concordancelaw1_NumAll.mono_l k
  unfold concordancelaw1_NumAll.f
  repeat' first
      | (with_reducible exact ih0 _ _ _ _)
      | (with_reducible exact ih1 _ _ _ _ _)
      | (with_reducible exact ih2 _ _ _ _ _)
      | (with_reducible exact ih3 _ _ _ _ _)
      | (with_reducible exact concordancelaw1_awake.mono _)
      | (with_reducible exact concordancelaw1_same.mono _ _ _)
      | (with_reducible exact concordanceref1_Take.mono _ _)
      | (with_reducible exact LeO.refl _)
      | (with_reducible exact LeO.none _)
      | (with_reducible refine LeO.ite ?_ ?_)
      | (with_reducible refine LeO.bind ?_ (fun _ => ?_))
      | exact ih0 _ _ _ _
      | exact ih1 _ _ _ _ _
      | exact ih2 _ _ _ _ _
      | exact ih3 _ _ _ _ _
      | exact concordancelaw1_awake.mono _
      | exact concordancelaw1_same.mono _ _ _
      | exact concordanceref1_Take.mono _ _
      | exact LeO.none _
      | refine LeO.ite ?_ ?_
      | refine LeO.bind ?_ (fun _ => ?_)
set_option maxHeartbeats 8000000 in
set_option maxRecDepth 100000 in
theorem concordancelaw1_NumAll.calls (k : Nat) (A0 : Option Addr) (c0 : Nat) (l0 : List Int) (a1 : Int) (r : Bool) (w : World) (hr0 : Kd.C (Kd.int .u8) w A0 l0.length l0) (hc0 : l0.length ≤ c0) (h : concordancelaw1_NumAll.f k l0 a1 = some r) :
    Calls Try.prog 7 #[.slice A0 l0.length c0, .int .i64 a1] w fun e w' => e = .returned (.bool r) ∧ Below w.heap.size w w' := by
  have HR0 := Aside0.mk hr0
  have HC0 := Aside0.mk hc0
  clear hr0 hc0
  have HB := Aside0.mk (Below.refl w.heap.size w)
  have H : (if (l0.length : Int) > 1000 then ((concordancelaw1_awake.f k).bind fun t187 => (some t187)) else (concordancelaw1_NumAll.l0 k l0 a1 ([] : List Int) ([] : List Int) 0)) = some r := h
  clear h
  by_cases c3 : (l0.length : Int) > 1000
  · rw [if_pos c3] at H
    have c3b0 : decide (1000 < (l0.length : Int)) = true := decide_eq_true c3
    have c3b1 : decide (1000 < l0.length) = true := decide_eq_true (by omega)
    clear c3
    replace H := Option.bind_eq_some_iff.mp H
    obtain ⟨t187, A40, H⟩ := H
    replace H : (some t187) = some r := H
    have A4 := Aside0.mk A40
    clear A40
    obtain rfl := Option.some.inj H
    go_enter Try.func7, Try.ntmps7
    go_wp2_with (first | (go_at_call 12; (with_reducible refine (concordancelaw1_awake.calls k  t187 _ A4.out).mono ?_); rintro e w5 ⟨rfl, hb⟩; have n0_ := Aside0.mk (below_step (by repeat (first | (with_reducible first | exact HB.out | apply below_alloc | apply pw_below_drewN | apply below_drew1) | exact HB.out)) hb); clear HB; have HB := n0_; clear n0_; (try clear hb); (try clear hb2); (try clear hk); (try clear hi)))
    repeat (go_quiet (first | (go_at_call 12; (with_reducible refine (concordancelaw1_awake.calls k  t187 _ A4.out).mono ?_); rintro e w5 ⟨rfl, hb⟩; have n0_ := Aside0.mk (below_step (by repeat (first | (with_reducible first | exact HB.out | apply below_alloc | apply pw_below_drewN | apply below_drew1) | exact HB.out)) hb); clear HB; have HB := n0_; clear n0_; (try clear hb); (try clear hb2); (try clear hk); (try clear hi))); try go_wp2_with (first | (go_at_call 12; (with_reducible refine (concordancelaw1_awake.calls k  t187 _ A4.out).mono ?_); rintro e w5 ⟨rfl, hb⟩; have n0_ := Aside0.mk (below_step (by repeat (first | (with_reducible first | exact HB.out | apply below_alloc | apply pw_below_drewN | apply below_drew1) | exact HB.out)) hb); clear HB; have HB := n0_; clear n0_; (try clear hb); (try clear hb2); (try clear hk); (try clear hi))))
    go_ret
    exact ⟨by first | rfl | (simp [errW_none, errW_some] <;> rfl) | (simp [*, errW_none, errW_some] <;> rfl), by repeat (first | (with_reducible first | exact HB.out | apply below_alloc | apply pw_below_drewN | apply below_drew1) | exact HB.out)⟩
  · rw [if_neg c3] at H
    have c3b0 : decide (1000 < (l0.length : Int)) = false := decide_eq_false c3
    have c3b1 : decide (1000 < l0.length) = false := decide_eq_false (by omega)
    clear c3
    have HC6 := Aside0.mk H
    clear H
    go_enter Try.func7, Try.ntmps7
    go_upto_block 0 with (fail)
    repeat (go_quiet (fail); go_upto_block 0 with (fail))
    go_cut [5, 6] (fun v5 v6 wc => ∃ (kq : Nat) (x5_5 : List Int) (x6_5 : List Int), Aside0 (concordancelaw1_NumAll.j1 kq l0 a1 x5_5 x6_5 = some r) ∧ Aside0 (kq ≤ k) ∧ Aside0 (Kd.R (Kd.int .i64) 3 wc w.heap.size (fun _ => True) v5 x5_5) ∧ Aside0 (Kd.R (Kd.int .u64) 22 wc w.heap.size (fun _ => True) v6 x6_5) ∧ Aside0 (Below w.heap.size w wc))
    case first =>
      have H := HC6.out
      clear HC6
      have H' := Aside0.mk H
      clear H
      go_wp2
      repeat (go_quiet (fail); try go_wp2)
      go_loopg [5, 6, 7] k (fun kq v5 v6 v7 w' => ∃ (x5_1 : List Int) (x6_1 : List Int) (x7_1 : Int), v7 = .int .i64 x7_1 ∧ Aside0 (concordancelaw1_NumAll.l0 kq l0 a1 x5_1 x6_1 x7_1 = some r) ∧ Aside0 (kq ≤ k) ∧ Aside0 (Kd.R (Kd.int .i64) 3 w' w.heap.size (fun _ => True) v5 x5_1) ∧ Aside0 (Kd.R (Kd.int .u64) 22 w' w.heap.size (fun _ => True) v6 x6_1) ∧ Aside0 (Below w.heap.size w w'))
      case atStart => exact ⟨(([] : List Int)), (([] : List Int)), (0), (by first | rfl | (simp; done) | (simp [*]; done)), H', ⟨Nat.le_refl _⟩, ⟨by first | exact Kd.R_nil _ _ _ _ _ | exact Kd.N_nil _ _ _ _ _ | exact Kd.V_nil _ _ _ _ _ | exact Kd.Q_nil _ _ _ _ _ | exact Kd.S_nil _ _ _ _ _⟩, ⟨by first | exact Kd.R_nil _ _ _ _ _ | exact Kd.N_nil _ _ _ _ _ | exact Kd.V_nil _ _ _ _ _ | exact Kd.Q_nil _ _ _ _ _ | exact Kd.S_nil _ _ _ _ _⟩, ⟨by repeat (first | (with_reducible first | exact HB.out | apply below_alloc | apply pw_below_drewN | apply below_drew1) | exact HB.out)⟩⟩
      case round =>
        clear H'
        try clear p2
        try clear c3
        try clear c3b0
        try clear c3b1
        obtain ⟨x5_1, x6_1, x7_1, rfl, HA, HK1, HO_5, HO_6, HB⟩ := hrel
        cases gk with
        | zero => exact absurd HA.out (by simp [concordancelaw1_NumAll.l0])
        | succ k1 =>
          have H := HA.out
          clear HA
          simp only [concordancelaw1_NumAll.l0] at H
          by_cases c7 : x7_1 < (l0.length : Int)
          · rw [if_pos c7] at H
            have c7b0 : decide (x7_1 < (l0.length : Int)) = true := decide_eq_true c7
            clear c7
            (first | rw [c7b0] | (simp only [i64_w, i32_w]; rw [c7b0]) | skip)
            by_cases c8 : 0 ≤ x7_1
            · rw [if_pos c8] at H
              have c8b0 := eq_true c8
              have c8b1 : decide (0 ≤ x7_1) = true := decide_eq_true c8
              clear c8
              by_cases c9 : x7_1 ≤ (l0.length : Int)
              · rw [if_pos c9] at H
                have c9b0 := eq_true c9
                have c9b1 : decide (x7_1 ≤ (l0.length : Int)) = true := decide_eq_true c9
                clear c9
                replace H := Option.bind_eq_some_iff.mp H
                obtain ⟨⟨t189, t190, t191⟩, A100, H⟩ := H
                replace H : (if t191 = 0 then (if x5_1.length < 17592186044416 then (if x6_1.length < 17592186044416 then (concordancelaw1_NumAll.l0 k1 l0 a1 (x5_1 ++ [x7_1]) (x6_1 ++ [t189]) (wrap64 (x7_1 + t190))) else (none)) else (none)) else (concordancelaw1_NumAll.j1 k1 l0 a1 x5_1 x6_1)) = some r := H
                have A10 := Aside0.mk A100
                clear A100
                by_cases c11 : t191 = 0
                · rw [if_pos c11] at H
                  have c11b0 : (t191 == 0) = true := beq_iff_eq.mpr c11
                  have c11b1 : (t191 != 0) = false := bne_eq_false_iff_eq.mpr c11
                  clear c11
                  by_cases c12 : x5_1.length < 17592186044416
                  · rw [if_pos c12] at H
                    have LMc12 := Aside0.mk c12
                    clear c12
                    obtain ⟨y192, hy192⟩ : ∃ y_ : List Int, y_ = (x5_1 ++ [x7_1]) := ⟨_, rfl⟩
                    replace H : (if x6_1.length < 17592186044416 then (concordancelaw1_NumAll.l0 k1 l0 a1 y192 (x6_1 ++ [t189]) (wrap64 (x7_1 + t190))) else (none)) = some r := by first | (rw [hy192]; with_reducible exact H) | (have H2_ := (Option.bind_some _ _).symm.trans H; rw [hy192]; with_reducible exact H2_) | (have H2_ := (Option.bind_some _ _).symm.trans H; with_reducible exact H2_) | with_reducible exact H | (rw [hy192]; exact H) | exact H
                    have Ny192 := Aside0.mk hy192
                    clear hy192
                    by_cases c13 : x6_1.length < 17592186044416
                    · rw [if_pos c13] at H
                      have LMc13 := Aside0.mk c13
                      clear c13
                      obtain ⟨y195, hy195⟩ : ∃ y_ : List Int, y_ = (x6_1 ++ [t189]) := ⟨_, rfl⟩
                      replace H : (concordancelaw1_NumAll.l0 k1 l0 a1 y192 y195 (wrap64 (x7_1 + t190))) = some r := by first | (rw [hy195]; with_reducible exact H) | (have H2_ := (Option.bind_some _ _).symm.trans H; rw [hy195]; with_reducible exact H2_) | (have H2_ := (Option.bind_some _ _).symm.trans H; with_reducible exact H2_) | with_reducible exact H | (rw [hy195]; exact H) | exact H
                      have Ny195 := Aside0.mk hy195
                      clear hy195
                      have H' := Aside0.mk H
                      clear H
                      obtain ⟨i014, hi014, _, hsz14, _⟩ := info_parts info5
                      obtain ⟨A14, hcut14, hA14, hC14⟩ := print_drop_of (P := Try.prog) (Value.int .u8) 0 23 5 .i64 Try.underlying23 hi014 hsz14 A0 c0 l0 x7_1 (of_decide_eq_true (by first | (with_reducible assumption) | assumption)) (of_decide_eq_true (by first | (with_reducible assumption) | assumption)) HC0.out
                      have HR188 := Aside0.mk (Kd.C_of_reads (h1 := fun _ => rfl) (hA14 _ (Kd.reads_of_C HR0.out)))
                      have HC188 := Aside0.mk hC14
                      clear hA14 hC14 hi014 hsz14
                      have hcv15 := Kd.C_string (P := Try.prog) (A := A14) (c := (c0 - x7_1.toNat)) Try.underlying23 Try.underlying5 Try.underlying9 (Kd.C_below HR188.out HB.out)
                      have hcvl15 := hcv15
                      (try simp only [List.length_drop, List.length_take] at hcvl15)
                      go_wp2_with (first | (go_at_call 20; (with_reducible refine (concordanceref1_Take.calls k1 (strOfNums (l0.drop (x7_1 : Int).toNat)) t189 t190 t191 _ A10.out).mono ?_); rintro e w' ⟨rfl, ⟨nd, rfl⟩⟩; (try first | exact ⟨rfl, _, World.drewN_drewN _ _ _⟩ | exact ⟨rfl, _, Eq.trans (World.drewN_drewN _ _ _) (congrArg (World.drewN _) (Nat.add_assoc _ _ _))⟩)) | ((with_reducible refine gate_builtin (b := .append) (xs := #[.tmp 36, .tmp 38]) rfl ?_); (try (refine gate_guard (by rfl) ?_; dsimp only)); at_builtin; refine Kd.R_append (Kd.int .i64) (w0 := w) w.heap.size rfl (.tmp 36) (.tmp 38) 39 3 (.int .i64 0) 8 rfl Try.underlying39 info3 rfl (by decide) (by omega) u5 x5_1 x7_1 [.int .i64 x7_1] (fun _ => True) (fun _ => False) rfl rfl ?aP (fun _ hk => hk.elim) ?aF ?aO ?aB ?aS ?aL ?_; (case aP => exact rfl); (case aB => exact (by repeat (first | (with_reducible first | exact HB.out | apply below_alloc | apply pw_below_drewN | apply below_drew1) | exact HB.out))); (case aF => exact (fun _ _ => trivial)); (case aO => exact (by (with_reducible repeat (first | apply Kd.R_alloc | apply Kd.R_drewN | apply Kd.R_drew)); exact HO_5.out)); (case aS => exact (below_size (by repeat (first | (with_reducible first | exact HB.out | apply below_alloc | apply pw_below_drewN | apply below_drew1) | exact HB.out)))); (case aL => have := LMc12.out; omega); intro v193 w16 ho hb hg hat; rw [← Ny192.out] at ho; have n0_ := Aside0.mk (Kd.R_over' (by (with_reducible repeat (first | apply Kd.R_alloc | apply Kd.R_drewN | apply Kd.R_drew)); exact HO_6.out) (Kd.R_typed (by (with_reducible repeat (first | apply Kd.R_alloc | apply Kd.R_drewN | apply Kd.R_drew)); exact HO_5.out)) (by decide) hg); have n1_ := Aside0.mk (hb); have n2_ := Aside0.mk (ho); clear HO_6; clear HB; clear HO_5; have HO_6 := n0_; have HB := n1_; have HO194 := n2_; clear n0_ n1_ n2_; clear ho hb hg hat) | ((with_reducible refine gate_builtin (b := .append) (xs := #[.tmp 40, .tmp 42]) rfl ?_); (try (refine gate_guard (by rfl) ?_; dsimp only)); at_builtin; refine Kd.R_append (Kd.int .u64) (w0 := w) w.heap.size rfl (.tmp 40) (.tmp 42) 40 22 (.int .u64 0) 8 rfl Try.underlying40 info22 rfl (by decide) (by omega) u6 x6_1 t189 [.int .u64 t189] (fun _ => True) (fun _ => False) rfl rfl ?aP (fun _ hk => hk.elim) ?aF ?aO ?aB ?aS ?aL ?_; (case aP => exact rfl); (case aB => exact (by repeat (first | (with_reducible first | exact HB.out | apply below_alloc | apply pw_below_drewN | apply below_drew1) | exact HB.out))); (case aF => exact (fun _ _ => trivial)); (case aO => exact (by (with_reducible repeat (first | apply Kd.R_alloc | apply Kd.R_drewN | apply Kd.R_drew)); exact HO_6.out)); (case aS => exact (below_size (by repeat (first | (with_reducible first | exact HB.out | apply below_alloc | apply pw_below_drewN | apply below_drew1) | exact HB.out)))); (case aL => have := LMc13.out; omega); intro v196 w17 ho hb hg hat; rw [← Ny195.out] at ho; have n0_ := Aside0.mk (Kd.R_over' (by (with_reducible repeat (first | apply Kd.R_alloc | apply Kd.R_drewN | apply Kd.R_drew)); exact HO194.out) (Kd.R_typed (by (with_reducible repeat (first | apply Kd.R_alloc | apply Kd.R_drewN | apply Kd.R_drew)); exact HO_6.out)) (by decide) hg); have n1_ := Aside0.mk (hb); have n2_ := Aside0.mk (ho); clear HO194; clear HB; clear HO_6; have HO194 := n0_; have HB := n1_; have HO197 := n2_; clear n0_ n1_ n2_; clear ho hb hg hat))
                      repeat (go_quiet (first | (go_at_call 20; (with_reducible refine (concordanceref1_Take.calls k1 (strOfNums (l0.drop (x7_1 : Int).toNat)) t189 t190 t191 _ A10.out).mono ?_); rintro e w' ⟨rfl, ⟨nd, rfl⟩⟩; (try first | exact ⟨rfl, _, World.drewN_drewN _ _ _⟩ | exact ⟨rfl, _, Eq.trans (World.drewN_drewN _ _ _) (congrArg (World.drewN _) (Nat.add_assoc _ _ _))⟩)) | ((with_reducible refine gate_builtin (b := .append) (xs := #[.tmp 36, .tmp 38]) rfl ?_); (try (refine gate_guard (by rfl) ?_; dsimp only)); at_builtin; refine Kd.R_append (Kd.int .i64) (w0 := w) w.heap.size rfl (.tmp 36) (.tmp 38) 39 3 (.int .i64 0) 8 rfl Try.underlying39 info3 rfl (by decide) (by omega) u5 x5_1 x7_1 [.int .i64 x7_1] (fun _ => True) (fun _ => False) rfl rfl ?aP (fun _ hk => hk.elim) ?aF ?aO ?aB ?aS ?aL ?_; (case aP => exact rfl); (case aB => exact (by repeat (first | (with_reducible first | exact HB.out | apply below_alloc | apply pw_below_drewN | apply below_drew1) | exact HB.out))); (case aF => exact (fun _ _ => trivial)); (case aO => exact (by (with_reducible repeat (first | apply Kd.R_alloc | apply Kd.R_drewN | apply Kd.R_drew)); exact HO_5.out)); (case aS => exact (below_size (by repeat (first | (with_reducible first | exact HB.out | apply below_alloc | apply pw_below_drewN | apply below_drew1) | exact HB.out)))); (case aL => have := LMc12.out; omega); intro v193 w16 ho hb hg hat; rw [← Ny192.out] at ho; have n0_ := Aside0.mk (Kd.R_over' (by (with_reducible repeat (first | apply Kd.R_alloc | apply Kd.R_drewN | apply Kd.R_drew)); exact HO_6.out) (Kd.R_typed (by (with_reducible repeat (first | apply Kd.R_alloc | apply Kd.R_drewN | apply Kd.R_drew)); exact HO_5.out)) (by decide) hg); have n1_ := Aside0.mk (hb); have n2_ := Aside0.mk (ho); clear HO_6; clear HB; clear HO_5; have HO_6 := n0_; have HB := n1_; have HO194 := n2_; clear n0_ n1_ n2_; clear ho hb hg hat) | ((with_reducible refine gate_builtin (b := .append) (xs := #[.tmp 40, .tmp 42]) rfl ?_); (try (refine gate_guard (by rfl) ?_; dsimp only)); at_builtin; refine Kd.R_append (Kd.int .u64) (w0 := w) w.heap.size rfl (.tmp 40) (.tmp 42) 40 22 (.int .u64 0) 8 rfl Try.underlying40 info22 rfl (by decide) (by omega) u6 x6_1 t189 [.int .u64 t189] (fun _ => True) (fun _ => False) rfl rfl ?aP (fun _ hk => hk.elim) ?aF ?aO ?aB ?aS ?aL ?_; (case aP => exact rfl); (case aB => exact (by repeat (first | (with_reducible first | exact HB.out | apply below_alloc | apply pw_below_drewN | apply below_drew1) | exact HB.out))); (case aF => exact (fun _ _ => trivial)); (case aO => exact (by (with_reducible repeat (first | apply Kd.R_alloc | apply Kd.R_drewN | apply Kd.R_drew)); exact HO_6.out)); (case aS => exact (below_size (by repeat (first | (with_reducible first | exact HB.out | apply below_alloc | apply pw_below_drewN | apply below_drew1) | exact HB.out)))); (case aL => have := LMc13.out; omega); intro v196 w17 ho hb hg hat; rw [← Ny195.out] at ho; have n0_ := Aside0.mk (Kd.R_over' (by (with_reducible repeat (first | apply Kd.R_alloc | apply Kd.R_drewN | apply Kd.R_drew)); exact HO194.out) (Kd.R_typed (by (with_reducible repeat (first | apply Kd.R_alloc | apply Kd.R_drewN | apply Kd.R_drew)); exact HO_6.out)) (by decide) hg); have n1_ := Aside0.mk (hb); have n2_ := Aside0.mk (ho); clear HO194; clear HB; clear HO_6; have HO194 := n0_; have HB := n1_; have HO197 := n2_; clear n0_ n1_ n2_; clear ho hb hg hat)); try go_wp2_with (first | (go_at_call 20; (with_reducible refine (concordanceref1_Take.calls k1 (strOfNums (l0.drop (x7_1 : Int).toNat)) t189 t190 t191 _ A10.out).mono ?_); rintro e w' ⟨rfl, ⟨nd, rfl⟩⟩; (try first | exact ⟨rfl, _, World.drewN_drewN _ _ _⟩ | exact ⟨rfl, _, Eq.trans (World.drewN_drewN _ _ _) (congrArg (World.drewN _) (Nat.add_assoc _ _ _))⟩)) | ((with_reducible refine gate_builtin (b := .append) (xs := #[.tmp 36, .tmp 38]) rfl ?_); (try (refine gate_guard (by rfl) ?_; dsimp only)); at_builtin; refine Kd.R_append (Kd.int .i64) (w0 := w) w.heap.size rfl (.tmp 36) (.tmp 38) 39 3 (.int .i64 0) 8 rfl Try.underlying39 info3 rfl (by decide) (by omega) u5 x5_1 x7_1 [.int .i64 x7_1] (fun _ => True) (fun _ => False) rfl rfl ?aP (fun _ hk => hk.elim) ?aF ?aO ?aB ?aS ?aL ?_; (case aP => exact rfl); (case aB => exact (by repeat (first | (with_reducible first | exact HB.out | apply below_alloc | apply pw_below_drewN | apply below_drew1) | exact HB.out))); (case aF => exact (fun _ _ => trivial)); (case aO => exact (by (with_reducible repeat (first | apply Kd.R_alloc | apply Kd.R_drewN | apply Kd.R_drew)); exact HO_5.out)); (case aS => exact (below_size (by repeat (first | (with_reducible first | exact HB.out | apply below_alloc | apply pw_below_drewN | apply below_drew1) | exact HB.out)))); (case aL => have := LMc12.out; omega); intro v193 w16 ho hb hg hat; rw [← Ny192.out] at ho; have n0_ := Aside0.mk (Kd.R_over' (by (with_reducible repeat (first | apply Kd.R_alloc | apply Kd.R_drewN | apply Kd.R_drew)); exact HO_6.out) (Kd.R_typed (by (with_reducible repeat (first | apply Kd.R_alloc | apply Kd.R_drewN | apply Kd.R_drew)); exact HO_5.out)) (by decide) hg); have n1_ := Aside0.mk (hb); have n2_ := Aside0.mk (ho); clear HO_6; clear HB; clear HO_5; have HO_6 := n0_; have HB := n1_; have HO194 := n2_; clear n0_ n1_ n2_; clear ho hb hg hat) | ((with_reducible refine gate_builtin (b := .append) (xs := #[.tmp 40, .tmp 42]) rfl ?_); (try (refine gate_guard (by rfl) ?_; dsimp only)); at_builtin; refine Kd.R_append (Kd.int .u64) (w0 := w) w.heap.size rfl (.tmp 40) (.tmp 42) 40 22 (.int .u64 0) 8 rfl Try.underlying40 info22 rfl (by decide) (by omega) u6 x6_1 t189 [.int .u64 t189] (fun _ => True) (fun _ => False) rfl rfl ?aP (fun _ hk => hk.elim) ?aF ?aO ?aB ?aS ?aL ?_; (case aP => exact rfl); (case aB => exact (by repeat (first | (with_reducible first | exact HB.out | apply below_alloc | apply pw_below_drewN | apply below_drew1) | exact HB.out))); (case aF => exact (fun _ _ => trivial)); (case aO => exact (by (with_reducible repeat (first | apply Kd.R_alloc | apply Kd.R_drewN | apply Kd.R_drew)); exact HO_6.out)); (case aS => exact (below_size (by repeat (first | (with_reducible first | exact HB.out | apply below_alloc | apply pw_below_drewN | apply below_drew1) | exact HB.out)))); (case aL => have := LMc13.out; omega); intro v196 w17 ho hb hg hat; rw [← Ny195.out] at ho; have n0_ := Aside0.mk (Kd.R_over' (by (with_reducible repeat (first | apply Kd.R_alloc | apply Kd.R_drewN | apply Kd.R_drew)); exact HO194.out) (Kd.R_typed (by (with_reducible repeat (first | apply Kd.R_alloc | apply Kd.R_drewN | apply Kd.R_drew)); exact HO_6.out)) (by decide) hg); have n1_ := Aside0.mk (hb); have n2_ := Aside0.mk (ho); clear HO194; clear HB; clear HO_6; have HO194 := n0_; have HB := n1_; have HO197 := n2_; clear n0_ n1_ n2_; clear ho hb hg hat)))
                      go_roundg k1
                      case measure => have := HK1.out; omega
                      case rel => exact ⟨(y192), (y195), (wrap64 (x7_1 + t190)), (by first | rfl | (simp; done) | (simp [*]; done)), H', ⟨by have := HK1.out; omega⟩, ⟨by (with_reducible repeat (first | apply Kd.R_alloc | apply Kd.R_drewN | apply Kd.R_drew)); exact HO194.out⟩, ⟨by (with_reducible repeat (first | apply Kd.R_alloc | apply Kd.R_drewN | apply Kd.R_drew)); exact HO197.out⟩, ⟨by repeat (first | (with_reducible first | exact HB.out | apply below_alloc | apply pw_below_drewN | apply below_drew1) | exact HB.out)⟩⟩
                    · rw [if_neg c13] at H
                      exact absurd H (by simp)
                  · rw [if_neg c12] at H
                    exact absurd H (by simp)
                · rw [if_neg c11] at H
                  have c11b0 : (t191 == 0) = false := beq_eq_false_iff_ne.mpr c11
                  have c11b1 : (t191 != 0) = true := bne_iff_ne.mpr c11
                  have H' := Aside0.mk H
                  clear H
                  obtain ⟨i018, hi018, _, hsz18, _⟩ := info_parts info5
                  obtain ⟨A18, hcut18, hA18, hC18⟩ := print_drop_of (P := Try.prog) (Value.int .u8) 0 23 5 .i64 Try.underlying23 hi018 hsz18 A0 c0 l0 x7_1 (of_decide_eq_true (by first | (with_reducible assumption) | assumption)) (of_decide_eq_true (by first | (with_reducible assumption) | assumption)) HC0.out
                  have HR188 := Aside0.mk (Kd.C_of_reads (h1 := fun _ => rfl) (hA18 _ (Kd.reads_of_C HR0.out)))
                  have HC188 := Aside0.mk hC18
                  clear hA18 hC18 hi018 hsz18
                  have hcv19 := Kd.C_string (P := Try.prog) (A := A18) (c := (c0 - x7_1.toNat)) Try.underlying23 Try.underlying5 Try.underlying9 (Kd.C_below HR188.out HB.out)
                  have hcvl19 := hcv19
                  (try simp only [List.length_drop, List.length_take] at hcvl19)
                  go_wp2_with (first | (go_at_call 20; (with_reducible refine (concordanceref1_Take.calls k1 (strOfNums (l0.drop (x7_1 : Int).toNat)) t189 t190 t191 _ A10.out).mono ?_); rintro e w' ⟨rfl, ⟨nd, rfl⟩⟩; (try first | exact ⟨rfl, _, World.drewN_drewN _ _ _⟩ | exact ⟨rfl, _, Eq.trans (World.drewN_drewN _ _ _) (congrArg (World.drewN _) (Nat.add_assoc _ _ _))⟩)))
                  repeat (go_quiet (first | (go_at_call 20; (with_reducible refine (concordanceref1_Take.calls k1 (strOfNums (l0.drop (x7_1 : Int).toNat)) t189 t190 t191 _ A10.out).mono ?_); rintro e w' ⟨rfl, ⟨nd, rfl⟩⟩; (try first | exact ⟨rfl, _, World.drewN_drewN _ _ _⟩ | exact ⟨rfl, _, Eq.trans (World.drewN_drewN _ _ _) (congrArg (World.drewN _) (Nat.add_assoc _ _ _))⟩))); try go_wp2_with (first | (go_at_call 20; (with_reducible refine (concordanceref1_Take.calls k1 (strOfNums (l0.drop (x7_1 : Int).toNat)) t189 t190 t191 _ A10.out).mono ?_); rintro e w' ⟨rfl, ⟨nd, rfl⟩⟩; (try first | exact ⟨rfl, _, World.drewN_drewN _ _ _⟩ | exact ⟨rfl, _, Eq.trans (World.drewN_drewN _ _ _) (congrArg (World.drewN _) (Nat.add_assoc _ _ _))⟩))))
                  go_meet
                  case rel => exact ⟨_, (x5_1), (x6_1), H', ⟨by have := HK1.out; first | omega | exact Nat.le_refl _⟩, ⟨by (with_reducible repeat (first | apply Kd.R_alloc | apply Kd.R_drewN | apply Kd.R_drew)); exact HO_5.out⟩, ⟨by (with_reducible repeat (first | apply Kd.R_alloc | apply Kd.R_drewN | apply Kd.R_drew)); exact HO_6.out⟩, ⟨by repeat (first | (with_reducible first | exact HB.out | apply below_alloc | apply pw_below_drewN | apply below_drew1) | exact HB.out)⟩⟩
              · rw [if_neg c9] at H
                exact absurd H (by simp)
            · rw [if_neg c8] at H
              exact absurd H (by simp)
          · rw [if_neg c7] at H
            have c7b0 : decide (x7_1 < (l0.length : Int)) = false := decide_eq_false c7
            clear c7
            (first | rw [c7b0] | (simp only [i64_w, i32_w]; rw [c7b0]) | skip)
            have H' := Aside0.mk H
            clear H
            go_wp2
            repeat (go_quiet (fail); try go_wp2)
            go_meet
            case rel => exact ⟨_, (x5_1), (x6_1), H', ⟨by have := HK1.out; first | omega | exact Nat.le_refl _⟩, ⟨by (with_reducible repeat (first | apply Kd.R_alloc | apply Kd.R_drewN | apply Kd.R_drew)); exact HO_5.out⟩, ⟨by (with_reducible repeat (first | apply Kd.R_alloc | apply Kd.R_drewN | apply Kd.R_drew)); exact HO_6.out⟩, ⟨by repeat (first | (with_reducible first | exact HB.out | apply below_alloc | apply pw_below_drewN | apply below_drew1) | exact HB.out)⟩⟩
    case rest =>
      clear HC6
      try clear c1
      try clear hcv1
      try clear p2
      try clear c3
      try clear c3b0
      try clear c3b1
      try clear p6
      try clear c7
      try clear c7b0
      try clear c8
      try clear c8b0
      try clear c8b1
      try clear c9
      try clear c9b0
      try clear c9b1
      try clear c11
      try clear c11b0
      try clear c11b1
      try clear c12
      try clear c13
      try clear hcv15
      try clear hcv19
      try clear p2
      obtain ⟨kq, x5_5, x6_5, HA, HJ5, HO_5, HO_6, HB⟩ := hcut
      cases kq with
      | zero => exact absurd HA.out (by simp [concordancelaw1_NumAll.j1])
      | succ kj5 =>
        have H := HA.out
        clear HA
        simp only [concordancelaw1_NumAll.j1] at H
        replace H := Option.bind_eq_some_iff.mp H
        obtain ⟨⟨t198, t199⟩, A200, H⟩ := H
        replace H : ((concordancelaw1_told.f l0 (Go.bits .and .i64 a1 255)).bind fun bt204 => ((concordancelaw1_same.f kj5 t198 x5_5).bind fun t210 => (if t210 = true then (if (t199.length : Int) = (x6_5.length : Int) then (if 0 ≤ (mn (Go.bits .and .i64 a1 255) (x5_5.length : Int)) then (if (mn (Go.bits .and .i64 a1 255) (x5_5.length : Int)) ≤ (x5_5.length : Int) then ((concordancelaw1_same.f kj5 bt204.1 (x5_5.take ((mn (Go.bits .and .i64 a1 255) (x5_5.length : Int)) : Int).toNat)).bind fun t215 => (if t215 = true then (concordancelaw1_NumAll.j2 kj5 x6_5 t199 bt204.2 (mn (Go.bits .and .i64 a1 255) (x5_5.length : Int)) ((bt204.2.length : Int) != (mn (Go.bits .and .i64 a1 255) (x5_5.length : Int)))) else (concordancelaw1_NumAll.j2 kj5 x6_5 t199 bt204.2 (mn (Go.bits .and .i64 a1 255) (x5_5.length : Int)) true))) else (none)) else (none)) else (concordancelaw1_NumAll.j2 kj5 x6_5 t199 bt204.2 (mn (Go.bits .and .i64 a1 255) (x5_5.length : Int)) true)) else (concordancelaw1_NumAll.j2 kj5 x6_5 t199 bt204.2 (mn (Go.bits .and .i64 a1 255) (x5_5.length : Int)) true)))) = some r := H
        have A20 := Aside0.mk A200
        clear A200
        replace H := Option.bind_eq_some_iff.mp H
        obtain ⟨⟨t204, t205⟩, A210, H⟩ := H
        replace H : ((concordancelaw1_same.f kj5 t198 x5_5).bind fun t210 => (if t210 = true then (if (t199.length : Int) = (x6_5.length : Int) then (if 0 ≤ (mn (Go.bits .and .i64 a1 255) (x5_5.length : Int)) then (if (mn (Go.bits .and .i64 a1 255) (x5_5.length : Int)) ≤ (x5_5.length : Int) then ((concordancelaw1_same.f kj5 t204 (x5_5.take ((mn (Go.bits .and .i64 a1 255) (x5_5.length : Int)) : Int).toNat)).bind fun t215 => (if t215 = true then (concordancelaw1_NumAll.j2 kj5 x6_5 t199 t205 (mn (Go.bits .and .i64 a1 255) (x5_5.length : Int)) ((t205.length : Int) != (mn (Go.bits .and .i64 a1 255) (x5_5.length : Int)))) else (concordancelaw1_NumAll.j2 kj5 x6_5 t199 t205 (mn (Go.bits .and .i64 a1 255) (x5_5.length : Int)) true))) else (none)) else (none)) else (concordancelaw1_NumAll.j2 kj5 x6_5 t199 t205 (mn (Go.bits .and .i64 a1 255) (x5_5.length : Int)) true)) else (concordancelaw1_NumAll.j2 kj5 x6_5 t199 t205 (mn (Go.bits .and .i64 a1 255) (x5_5.length : Int)) true))) = some r := H
        have A21 := Aside0.mk A210
        clear A210
        obtain ⟨ji22, hji22⟩ : ∃ j_ : Int, (mn (Go.bits .and .i64 a1 255) (x5_5.length : Int)) = j_ := ⟨_, rfl⟩
        replace H : ((concordancelaw1_same.f kj5 t198 x5_5).bind fun t210 => (if t210 = true then (if (t199.length : Int) = (x6_5.length : Int) then (if 0 ≤ (ji22) then (if (ji22) ≤ (x5_5.length : Int) then ((concordancelaw1_same.f kj5 t204 (x5_5.take ((ji22) : Int).toNat)).bind fun t215 => (if t215 = true then (concordancelaw1_NumAll.j2 kj5 x6_5 t199 t205 ji22 ((t205.length : Int) != (ji22))) else (concordancelaw1_NumAll.j2 kj5 x6_5 t199 t205 ji22 true))) else (none)) else (none)) else (concordancelaw1_NumAll.j2 kj5 x6_5 t199 t205 ji22 true)) else (concordancelaw1_NumAll.j2 kj5 x6_5 t199 t205 ji22 true))) = some r := by first | (rw [hji22] at H; exact H) | (simp only [hji22] at H ⊢; exact H)
        (try rw [hji22] at A20)
        (try rw [hji22] at A21)
        have hji22_ : (if (x5_5.length : Int) < (Go.bits .and .i64 a1 255) then (x5_5.length : Int) else (Go.bits .and .i64 a1 255)) = ji22 := hji22
        have HC23 := Aside0.mk H
        clear H
        go_upto_region 16 with (first | (go_at_call 21; (with_reducible refine (concordancelaw1_told.calls _ _ l0 2000 t198 t199 _ ?side1 ?side2 A20.out).mono ?_); (case side1 => repeat (first | exact (Kd.C_below HR0.out HB.out) | (with_reducible refine Kd.C_alloc ?_ _) | (with_reducible refine Kd.C_drewN ?_ _) | (with_reducible refine Kd.C_drew ?_))); (case side2 => exact HC0.out); rintro e w24 ⟨v200, v202, rfl, ho0, ho1, hb⟩; have n0_ := Aside0.mk (Kd.R_elder' (by (with_reducible repeat (first | apply Kd.R_alloc | apply Kd.R_drewN | apply Kd.R_drew)); exact HO_5.out) (Kd.R_base ho0) hb); have n1_ := Aside0.mk (Kd.R_elder' (by (with_reducible repeat (first | apply Kd.R_alloc | apply Kd.R_drewN | apply Kd.R_drew)); exact HO_6.out) (Kd.R_base ho1) hb); have n2_ := Aside0.mk (Kd.R_lower (Kd.R_new' ho0 (Kd.R_lt (by (with_reducible repeat (first | apply Kd.R_alloc | apply Kd.R_drewN | apply Kd.R_drew)); exact HO_5.out))) (below_size (by repeat (first | (with_reducible first | exact HB.out | apply below_alloc | apply pw_below_drewN | apply below_drew1) | exact HB.out)))); have n3_ := Aside0.mk (Kd.R_lower (Kd.R_new' ho1 (Kd.R_lt (by (with_reducible repeat (first | apply Kd.R_alloc | apply Kd.R_drewN | apply Kd.R_drew)); exact HO_6.out))) (below_size (by repeat (first | (with_reducible first | exact HB.out | apply below_alloc | apply pw_below_drewN | apply below_drew1) | exact HB.out)))); have n4_ := Aside0.mk (below_step (by repeat (first | (with_reducible first | exact HB.out | apply below_alloc | apply pw_below_drewN | apply below_drew1) | exact HB.out)) hb); clear HO_5; clear HO_6; clear HB; have HO_5 := n0_; have HO_6 := n1_; have HO201 := n2_; have HO203 := n3_; have HB := n4_; clear n0_ n1_ n2_ n3_ n4_; (try clear hb); (try clear hb2); (try clear hk); (try clear hi); (try clear ho0); (try clear ho1)) | (go_at_call 21; (with_reducible refine (concordancelaw1_told.calls _ _ l0 (Go.bits .and .i64 a1 255) t204 t205 _ ?side1 ?side2 A21.out).mono ?_); (case side1 => repeat (first | exact (Kd.C_below HR0.out HB.out) | (with_reducible refine Kd.C_alloc ?_ _) | (with_reducible refine Kd.C_drewN ?_ _) | (with_reducible refine Kd.C_drew ?_))); (case side2 => exact HC0.out); rintro e w25 ⟨v206, v208, rfl, ho0, ho1, hb⟩; have n0_ := Aside0.mk (Kd.R_elder' (by (with_reducible repeat (first | apply Kd.R_alloc | apply Kd.R_drewN | apply Kd.R_drew)); exact HO_5.out) (Kd.R_base ho0) hb); have n1_ := Aside0.mk (Kd.R_elder' (by (with_reducible repeat (first | apply Kd.R_alloc | apply Kd.R_drewN | apply Kd.R_drew)); exact HO_6.out) (Kd.R_base ho1) hb); have n2_ := Aside0.mk (Kd.R_elder' (by (with_reducible repeat (first | apply Kd.R_alloc | apply Kd.R_drewN | apply Kd.R_drew)); exact HO201.out) (Kd.R_base ho0) hb); have n3_ := Aside0.mk (Kd.R_elder' (by (with_reducible repeat (first | apply Kd.R_alloc | apply Kd.R_drewN | apply Kd.R_drew)); exact HO203.out) (Kd.R_base ho1) hb); have n4_ := Aside0.mk (Kd.R_lower (Kd.R_new' (Kd.R_new' ho0 (Kd.R_lt (by (with_reducible repeat (first | apply Kd.R_alloc | apply Kd.R_drewN | apply Kd.R_drew)); exact HO_5.out))) (Kd.R_lt (by (with_reducible repeat (first | apply Kd.R_alloc | apply Kd.R_drewN | apply Kd.R_drew)); exact HO201.out))) (below_size (by repeat (first | (with_reducible first | exact HB.out | apply below_alloc | apply pw_below_drewN | apply below_drew1) | exact HB.out)))); have n5_ := Aside0.mk (Kd.R_lower (Kd.R_new' (Kd.R_new' ho1 (Kd.R_lt (by (with_reducible repeat (first | apply Kd.R_alloc | apply Kd.R_drewN | apply Kd.R_drew)); exact HO_6.out))) (Kd.R_lt (by (with_reducible repeat (first | apply Kd.R_alloc | apply Kd.R_drewN | apply Kd.R_drew)); exact HO203.out))) (below_size (by repeat (first | (with_reducible first | exact HB.out | apply below_alloc | apply pw_below_drewN | apply below_drew1) | exact HB.out)))); have n6_ := Aside0.mk (below_step (by repeat (first | (with_reducible first | exact HB.out | apply below_alloc | apply pw_below_drewN | apply below_drew1) | exact HB.out)) hb); clear HO_5; clear HO_6; clear HO201; clear HO203; clear HB; have HO_5 := n0_; have HO_6 := n1_; have HO201 := n2_; have HO203 := n3_; have HO207 := n4_; have HO209 := n5_; have HB := n6_; clear n0_ n1_ n2_ n3_ n4_ n5_ n6_; (try clear hb); (try clear hb2); (try clear hk); (try clear hi); (try clear ho0); (try clear ho1); obtain ⟨Ao26, co26, eo26⟩ := Kd.R_slice HO_5.out; subst eo26))
        repeat (go_quiet (first | (go_at_call 21; (with_reducible refine (concordancelaw1_told.calls _ _ l0 2000 t198 t199 _ ?side1 ?side2 A20.out).mono ?_); (case side1 => repeat (first | exact (Kd.C_below HR0.out HB.out) | (with_reducible refine Kd.C_alloc ?_ _) | (with_reducible refine Kd.C_drewN ?_ _) | (with_reducible refine Kd.C_drew ?_))); (case side2 => exact HC0.out); rintro e w24 ⟨v200, v202, rfl, ho0, ho1, hb⟩; have n0_ := Aside0.mk (Kd.R_elder' (by (with_reducible repeat (first | apply Kd.R_alloc | apply Kd.R_drewN | apply Kd.R_drew)); exact HO_5.out) (Kd.R_base ho0) hb); have n1_ := Aside0.mk (Kd.R_elder' (by (with_reducible repeat (first | apply Kd.R_alloc | apply Kd.R_drewN | apply Kd.R_drew)); exact HO_6.out) (Kd.R_base ho1) hb); have n2_ := Aside0.mk (Kd.R_lower (Kd.R_new' ho0 (Kd.R_lt (by (with_reducible repeat (first | apply Kd.R_alloc | apply Kd.R_drewN | apply Kd.R_drew)); exact HO_5.out))) (below_size (by repeat (first | (with_reducible first | exact HB.out | apply below_alloc | apply pw_below_drewN | apply below_drew1) | exact HB.out)))); have n3_ := Aside0.mk (Kd.R_lower (Kd.R_new' ho1 (Kd.R_lt (by (with_reducible repeat (first | apply Kd.R_alloc | apply Kd.R_drewN | apply Kd.R_drew)); exact HO_6.out))) (below_size (by repeat (first | (with_reducible first | exact HB.out | apply below_alloc | apply pw_below_drewN | apply below_drew1) | exact HB.out)))); have n4_ := Aside0.mk (below_step (by repeat (first | (with_reducible first | exact HB.out | apply below_alloc | apply pw_below_drewN | apply below_drew1) | exact HB.out)) hb); clear HO_5; clear HO_6; clear HB; have HO_5 := n0_; have HO_6 := n1_; have HO201 := n2_; have HO203 := n3_; have HB := n4_; clear n0_ n1_ n2_ n3_ n4_; (try clear hb); (try clear hb2); (try clear hk); (try clear hi); (try clear ho0); (try clear ho1)) | (go_at_call 21; (with_reducible refine (concordancelaw1_told.calls _ _ l0 (Go.bits .and .i64 a1 255) t204 t205 _ ?side1 ?side2 A21.out).mono ?_); (case side1 => repeat (first | exact (Kd.C_below HR0.out HB.out) | (with_reducible refine Kd.C_alloc ?_ _) | (with_reducible refine Kd.C_drewN ?_ _) | (with_reducible refine Kd.C_drew ?_))); (case side2 => exact HC0.out); rintro e w25 ⟨v206, v208, rfl, ho0, ho1, hb⟩; have n0_ := Aside0.mk (Kd.R_elder' (by (with_reducible repeat (first | apply Kd.R_alloc | apply Kd.R_drewN | apply Kd.R_drew)); exact HO_5.out) (Kd.R_base ho0) hb); have n1_ := Aside0.mk (Kd.R_elder' (by (with_reducible repeat (first | apply Kd.R_alloc | apply Kd.R_drewN | apply Kd.R_drew)); exact HO_6.out) (Kd.R_base ho1) hb); have n2_ := Aside0.mk (Kd.R_elder' (by (with_reducible repeat (first | apply Kd.R_alloc | apply Kd.R_drewN | apply Kd.R_drew)); exact HO201.out) (Kd.R_base ho0) hb); have n3_ := Aside0.mk (Kd.R_elder' (by (with_reducible repeat (first | apply Kd.R_alloc | apply Kd.R_drewN | apply Kd.R_drew)); exact HO203.out) (Kd.R_base ho1) hb); have n4_ := Aside0.mk (Kd.R_lower (Kd.R_new' (Kd.R_new' ho0 (Kd.R_lt (by (with_reducible repeat (first | apply Kd.R_alloc | apply Kd.R_drewN | apply Kd.R_drew)); exact HO_5.out))) (Kd.R_lt (by (with_reducible repeat (first | apply Kd.R_alloc | apply Kd.R_drewN | apply Kd.R_drew)); exact HO201.out))) (below_size (by repeat (first | (with_reducible first | exact HB.out | apply below_alloc | apply pw_below_drewN | apply below_drew1) | exact HB.out)))); have n5_ := Aside0.mk (Kd.R_lower (Kd.R_new' (Kd.R_new' ho1 (Kd.R_lt (by (with_reducible repeat (first | apply Kd.R_alloc | apply Kd.R_drewN | apply Kd.R_drew)); exact HO_6.out))) (Kd.R_lt (by (with_reducible repeat (first | apply Kd.R_alloc | apply Kd.R_drewN | apply Kd.R_drew)); exact HO203.out))) (below_size (by repeat (first | (with_reducible first | exact HB.out | apply below_alloc | apply pw_below_drewN | apply below_drew1) | exact HB.out)))); have n6_ := Aside0.mk (below_step (by repeat (first | (with_reducible first | exact HB.out | apply below_alloc | apply pw_below_drewN | apply below_drew1) | exact HB.out)) hb); clear HO_5; clear HO_6; clear HO201; clear HO203; clear HB; have HO_5 := n0_; have HO_6 := n1_; have HO201 := n2_; have HO203 := n3_; have HO207 := n4_; have HO209 := n5_; have HB := n6_; clear n0_ n1_ n2_ n3_ n4_ n5_ n6_; (try clear hb); (try clear hb2); (try clear hk); (try clear hi); (try clear ho0); (try clear ho1); obtain ⟨Ao26, co26, eo26⟩ := Kd.R_slice HO_5.out; subst eo26)); go_upto_region 16 with (first | (go_at_call 21; (with_reducible refine (concordancelaw1_told.calls _ _ l0 2000 t198 t199 _ ?side1 ?side2 A20.out).mono ?_); (case side1 => repeat (first | exact (Kd.C_below HR0.out HB.out) | (with_reducible refine Kd.C_alloc ?_ _) | (with_reducible refine Kd.C_drewN ?_ _) | (with_reducible refine Kd.C_drew ?_))); (case side2 => exact HC0.out); rintro e w24 ⟨v200, v202, rfl, ho0, ho1, hb⟩; have n0_ := Aside0.mk (Kd.R_elder' (by (with_reducible repeat (first | apply Kd.R_alloc | apply Kd.R_drewN | apply Kd.R_drew)); exact HO_5.out) (Kd.R_base ho0) hb); have n1_ := Aside0.mk (Kd.R_elder' (by (with_reducible repeat (first | apply Kd.R_alloc | apply Kd.R_drewN | apply Kd.R_drew)); exact HO_6.out) (Kd.R_base ho1) hb); have n2_ := Aside0.mk (Kd.R_lower (Kd.R_new' ho0 (Kd.R_lt (by (with_reducible repeat (first | apply Kd.R_alloc | apply Kd.R_drewN | apply Kd.R_drew)); exact HO_5.out))) (below_size (by repeat (first | (with_reducible first | exact HB.out | apply below_alloc | apply pw_below_drewN | apply below_drew1) | exact HB.out)))); have n3_ := Aside0.mk (Kd.R_lower (Kd.R_new' ho1 (Kd.R_lt (by (with_reducible repeat (first | apply Kd.R_alloc | apply Kd.R_drewN | apply Kd.R_drew)); exact HO_6.out))) (below_size (by repeat (first | (with_reducible first | exact HB.out | apply below_alloc | apply pw_below_drewN | apply below_drew1) | exact HB.out)))); have n4_ := Aside0.mk (below_step (by repeat (first | (with_reducible first | exact HB.out | apply below_alloc | apply pw_below_drewN | apply below_drew1) | exact HB.out)) hb); clear HO_5; clear HO_6; clear HB; have HO_5 := n0_; have HO_6 := n1_; have HO201 := n2_; have HO203 := n3_; have HB := n4_; clear n0_ n1_ n2_ n3_ n4_; (try clear hb); (try clear hb2); (try clear hk); (try clear hi); (try clear ho0); (try clear ho1)) | (go_at_call 21; (with_reducible refine (concordancelaw1_told.calls _ _ l0 (Go.bits .and .i64 a1 255) t204 t205 _ ?side1 ?side2 A21.out).mono ?_); (case side1 => repeat (first | exact (Kd.C_below HR0.out HB.out) | (with_reducible refine Kd.C_alloc ?_ _) | (with_reducible refine Kd.C_drewN ?_ _) | (with_reducible refine Kd.C_drew ?_))); (case side2 => exact HC0.out); rintro e w25 ⟨v206, v208, rfl, ho0, ho1, hb⟩; have n0_ := Aside0.mk (Kd.R_elder' (by (with_reducible repeat (first | apply Kd.R_alloc | apply Kd.R_drewN | apply Kd.R_drew)); exact HO_5.out) (Kd.R_base ho0) hb); have n1_ := Aside0.mk (Kd.R_elder' (by (with_reducible repeat (first | apply Kd.R_alloc | apply Kd.R_drewN | apply Kd.R_drew)); exact HO_6.out) (Kd.R_base ho1) hb); have n2_ := Aside0.mk (Kd.R_elder' (by (with_reducible repeat (first | apply Kd.R_alloc | apply Kd.R_drewN | apply Kd.R_drew)); exact HO201.out) (Kd.R_base ho0) hb); have n3_ := Aside0.mk (Kd.R_elder' (by (with_reducible repeat (first | apply Kd.R_alloc | apply Kd.R_drewN | apply Kd.R_drew)); exact HO203.out) (Kd.R_base ho1) hb); have n4_ := Aside0.mk (Kd.R_lower (Kd.R_new' (Kd.R_new' ho0 (Kd.R_lt (by (with_reducible repeat (first | apply Kd.R_alloc | apply Kd.R_drewN | apply Kd.R_drew)); exact HO_5.out))) (Kd.R_lt (by (with_reducible repeat (first | apply Kd.R_alloc | apply Kd.R_drewN | apply Kd.R_drew)); exact HO201.out))) (below_size (by repeat (first | (with_reducible first | exact HB.out | apply below_alloc | apply pw_below_drewN | apply below_drew1) | exact HB.out)))); have n5_ := Aside0.mk (Kd.R_lower (Kd.R_new' (Kd.R_new' ho1 (Kd.R_lt (by (with_reducible repeat (first | apply Kd.R_alloc | apply Kd.R_drewN | apply Kd.R_drew)); exact HO_6.out))) (Kd.R_lt (by (with_reducible repeat (first | apply Kd.R_alloc | apply Kd.R_drewN | apply Kd.R_drew)); exact HO203.out))) (below_size (by repeat (first | (with_reducible first | exact HB.out | apply below_alloc | apply pw_below_drewN | apply below_drew1) | exact HB.out)))); have n6_ := Aside0.mk (below_step (by repeat (first | (with_reducible first | exact HB.out | apply below_alloc | apply pw_below_drewN | apply below_drew1) | exact HB.out)) hb); clear HO_5; clear HO_6; clear HO201; clear HO203; clear HB; have HO_5 := n0_; have HO_6 := n1_; have HO201 := n2_; have HO203 := n3_; have HO207 := n4_; have HO209 := n5_; have HB := n6_; clear n0_ n1_ n2_ n3_ n4_ n5_ n6_; (try clear hb); (try clear hb2); (try clear hk); (try clear hi); (try clear ho0); (try clear ho1); obtain ⟨Ao26, co26, eo26⟩ := Kd.R_slice HO_5.out; subst eo26)))
        (try simp only [Act.put, List.setIfInBounds_toArray, List.set_cons_zero, List.set_cons_succ])
        go_cut [88] (fun v88 wc => ∃ (kq : Nat) (x88_22 : Bool), v88 = .bool x88_22 ∧ Aside0 (concordancelaw1_NumAll.j2 kq x6_5 t199 t205 ji22 x88_22 = some r) ∧ Aside0 (kq ≤ kj5) ∧ Aside0 (Kd.R (Kd.int .u64) 22 wc w.heap.size (fun k_ => some k_ ≠ (v202 : Value).ownBlock ∧ some k_ ≠ (v208 : Value).ownBlock) u6 x6_5) ∧ Aside0 (Kd.R (Kd.int .u64) 22 wc w.heap.size (fun k_ => some k_ ≠ (u6 : Value).ownBlock ∧ some k_ ≠ (v208 : Value).ownBlock) v202 t199) ∧ Aside0 (Kd.R (Kd.int .u64) 22 wc w.heap.size (fun k_ => some k_ ≠ (u6 : Value).ownBlock ∧ some k_ ≠ (v202 : Value).ownBlock) v208 t205) ∧ Aside0 (Below w.heap.size w wc))
        case first =>
          have H := HC23.out
          clear HC23
          replace H := Option.bind_eq_some_iff.mp H
          obtain ⟨t210, A270, H⟩ := H
          replace H : (if t210 = true then (if (t199.length : Int) = (x6_5.length : Int) then (if 0 ≤ (ji22) then (if (ji22) ≤ (x5_5.length : Int) then ((concordancelaw1_same.f kj5 t204 (x5_5.take ((ji22) : Int).toNat)).bind fun t215 => (if t215 = true then (concordancelaw1_NumAll.j2 kj5 x6_5 t199 t205 ji22 ((t205.length : Int) != (ji22))) else (concordancelaw1_NumAll.j2 kj5 x6_5 t199 t205 ji22 true))) else (none)) else (none)) else (concordancelaw1_NumAll.j2 kj5 x6_5 t199 t205 ji22 true)) else (concordancelaw1_NumAll.j2 kj5 x6_5 t199 t205 ji22 true)) = some r := H
          have A27 := Aside0.mk A270
          clear A270
          by_cases c28 : t210 = true
          · subst c28
            have H1 : (if (t199.length : Int) = (x6_5.length : Int) then (if 0 ≤ (ji22) then (if (ji22) ≤ (x5_5.length : Int) then ((concordancelaw1_same.f kj5 t204 (x5_5.take ((ji22) : Int).toNat)).bind fun t215 => (if t215 = true then (concordancelaw1_NumAll.j2 kj5 x6_5 t199 t205 ji22 ((t205.length : Int) != (ji22))) else (concordancelaw1_NumAll.j2 kj5 x6_5 t199 t205 ji22 true))) else (none)) else (none)) else (concordancelaw1_NumAll.j2 kj5 x6_5 t199 t205 ji22 true)) = some r := by rw [if_pos rfl] at H; exact H
            clear H
            have H := H1
            clear H1
            by_cases c29 : (t199.length : Int) = (x6_5.length : Int)
            · rw [if_pos c29] at H
              have c29b0 : ((t199.length : Int) == (x6_5.length : Int)) = true := beq_iff_eq.mpr c29
              have c29b1 : ((t199.length : Int) != (x6_5.length : Int)) = false := bne_eq_false_iff_eq.mpr c29
              have c29b2 : (t199.length == x6_5.length) = true := by first | simpa using c29 | (simp at c29 ⊢; omega)
              clear c29
              (first | rw [c29b0] | (simp only [i64_w, i32_w]; rw [c29b0]) | skip)
              by_cases c30 : 0 ≤ (ji22)
              · rw [if_pos c30] at H
                have c30b0 := eq_true c30
                have c30b1 : decide (0 ≤ (ji22)) = true := decide_eq_true c30
                clear c30
                by_cases c31 : (ji22) ≤ (x5_5.length : Int)
                · rw [if_pos c31] at H
                  have c31b0 := eq_true c31
                  have c31b1 : decide ((ji22) ≤ (x5_5.length : Int)) = true := decide_eq_true c31
                  clear c31
                  obtain ⟨y211, hy211⟩ : ∃ y_ : List Int, y_ = (x5_5.take ((ji22) : Int).toNat) := ⟨_, rfl⟩
                  replace H : ((concordancelaw1_same.f kj5 t204 y211).bind fun t215 => (if t215 = true then (concordancelaw1_NumAll.j2 kj5 x6_5 t199 t205 ji22 ((t205.length : Int) != (ji22))) else (concordancelaw1_NumAll.j2 kj5 x6_5 t199 t205 ji22 true))) = some r := by first | (rw [hy211]; with_reducible exact H) | (have H2_ := (Option.bind_some _ _).symm.trans H; rw [hy211]; with_reducible exact H2_) | (have H2_ := (Option.bind_some _ _).symm.trans H; with_reducible exact H2_) | with_reducible exact H | (rw [hy211]; exact H) | exact H
                  have Ny211 := Aside0.mk hy211
                  clear hy211
                  replace H := Option.bind_eq_some_iff.mp H
                  obtain ⟨t215, A320, H⟩ := H
                  replace H : (if t215 = true then (concordancelaw1_NumAll.j2 kj5 x6_5 t199 t205 ji22 ((t205.length : Int) != (ji22))) else (concordancelaw1_NumAll.j2 kj5 x6_5 t199 t205 ji22 true)) = some r := H
                  have A32 := Aside0.mk A320
                  clear A320
                  by_cases c33 : t215 = true
                  · subst c33
                    have H1 : (concordancelaw1_NumAll.j2 kj5 x6_5 t199 t205 ji22 ((t205.length : Int) != (ji22))) = some r := by rw [if_pos rfl] at H; exact H
                    clear H
                    have H := H1
                    clear H1
                    have H' := Aside0.mk H
                    clear H
                    obtain ⟨Ao34, co34, eo34⟩ := Kd.R_slice HO201.out
                    subst eo34
                    go_wp2_with (first | (go_at_call 22; (with_reducible refine (concordancelaw1_same.calls kj5 _ _ t198 _ _ x5_5 true _ ?side1 ?side2 ?side3 ?side4 A27.out).mono ?_); (case side1 => repeat (first | exact (Kd.R_reads' HO201.out).2.2 | (with_reducible refine Kd.C_alloc ?_ _) | (with_reducible refine Kd.C_drewN ?_ _) | (with_reducible refine Kd.C_drew ?_))); (case side2 => exact (Kd.R_reads' HO201.out).2.1); (case side3 => repeat (first | exact (Kd.R_reads' HO_5.out).2.2 | (with_reducible refine Kd.C_alloc ?_ _) | (with_reducible refine Kd.C_drewN ?_ _) | (with_reducible refine Kd.C_drew ?_))); (case side4 => exact (Kd.R_reads' HO_5.out).2.1); rintro e w' ⟨rfl, ⟨nd, rfl⟩⟩; (try first | exact ⟨rfl, _, World.drewN_drewN _ _ _⟩ | exact ⟨rfl, _, Eq.trans (World.drewN_drewN _ _ _) (congrArg (World.drewN _) (Nat.add_assoc _ _ _))⟩); obtain ⟨Ao35, co35, eo35⟩ := Kd.R_slice HO203.out; subst eo35; obtain ⟨Ao36, co36, eo36⟩ := Kd.R_slice HO_6.out; subst eo36; have q37 : ((ji22) : Int) ≤ ((x5_5.length : Int) : Int) := of_decide_eq_true (by first | (with_reducible assumption) | assumption); obtain ⟨i037, hi037, _, hsz37, _⟩ := info_parts info3; have hroom37 : x5_5.length ≤ co26 := (Kd.R_reads' HO_5.out).2.1; have hC37 : Kd.C (Kd.int .i64) _ Ao26 x5_5.length x5_5 := (Kd.R_reads' HO_5.out).2.2; have hcut37 := cut_to (P := Try.prog) 39 3 .i64 Try.underlying39 hi037 Ao26 x5_5.length co26 (ji22) (of_decide_eq_true (by first | (with_reducible assumption) | assumption)) q37 hroom37; have hr37 := Kd.C_take (m := ((ji22) : Int).toNat) hC37 (by omega); have hy37 : y211.length = ((ji22) : Int).toNat := (by rw [Ny211.out, List.length_take]; omega); rw [← Ny211.out] at hr37; rw [← hy37] at hcut37; have HR214 := Aside0.mk hr37; have HC214 := Aside0.mk (show y211.length ≤ co26 from by omega); clear hr37 hC37 hroom37 hi037 hsz37; have KY37 := Aside0.mk hy37; clear hy37; have KL37 := Aside0.mk (show ((ji22) : Int).toNat ≤ x5_5.length from by omega); replace q37 := eq_true q37; obtain ⟨Ao38, co38, eo38⟩ := Kd.R_slice HO207.out; subst eo38) | (go_at_call 22; (with_reducible refine (concordancelaw1_same.calls kj5 _ _ t204 _ _ y211 true _ ?side1 ?side2 ?side3 ?side4 A32.out).mono ?_); (case side1 => repeat (first | exact (Kd.R_reads' HO207.out).2.2 | (with_reducible refine Kd.C_alloc ?_ _) | (with_reducible refine Kd.C_drewN ?_ _) | (with_reducible refine Kd.C_drew ?_))); (case side2 => exact (Kd.R_reads' HO207.out).2.1); (case side3 => repeat (first | exact (by repeat (first | (with_reducible exact HR214.out) | (with_reducible refine Kd.C_alloc ?_ _) | (with_reducible refine Kd.C_drewN ?_ _) | (with_reducible refine Kd.C_drew ?_) | exact HR214.out)) | (with_reducible refine Kd.C_alloc ?_ _) | (with_reducible refine Kd.C_drewN ?_ _) | (with_reducible refine Kd.C_drew ?_))); (case side4 => exact HC214.out); rintro e w' ⟨rfl, ⟨nd, rfl⟩⟩; (try first | exact ⟨rfl, _, World.drewN_drewN _ _ _⟩ | exact ⟨rfl, _, Eq.trans (World.drewN_drewN _ _ _) (congrArg (World.drewN _) (Nat.add_assoc _ _ _))⟩); obtain ⟨Ao39, co39, eo39⟩ := Kd.R_slice HO209.out; subst eo39))
                    repeat (go_quiet (first | (go_at_call 22; (with_reducible refine (concordancelaw1_same.calls kj5 _ _ t198 _ _ x5_5 true _ ?side1 ?side2 ?side3 ?side4 A27.out).mono ?_); (case side1 => repeat (first | exact (Kd.R_reads' HO201.out).2.2 | (with_reducible refine Kd.C_alloc ?_ _) | (with_reducible refine Kd.C_drewN ?_ _) | (with_reducible refine Kd.C_drew ?_))); (case side2 => exact (Kd.R_reads' HO201.out).2.1); (case side3 => repeat (first | exact (Kd.R_reads' HO_5.out).2.2 | (with_reducible refine Kd.C_alloc ?_ _) | (with_reducible refine Kd.C_drewN ?_ _) | (with_reducible refine Kd.C_drew ?_))); (case side4 => exact (Kd.R_reads' HO_5.out).2.1); rintro e w' ⟨rfl, ⟨nd, rfl⟩⟩; (try first | exact ⟨rfl, _, World.drewN_drewN _ _ _⟩ | exact ⟨rfl, _, Eq.trans (World.drewN_drewN _ _ _) (congrArg (World.drewN _) (Nat.add_assoc _ _ _))⟩); obtain ⟨Ao35, co35, eo35⟩ := Kd.R_slice HO203.out; subst eo35; obtain ⟨Ao36, co36, eo36⟩ := Kd.R_slice HO_6.out; subst eo36; have q37 : ((ji22) : Int) ≤ ((x5_5.length : Int) : Int) := of_decide_eq_true (by first | (with_reducible assumption) | assumption); obtain ⟨i037, hi037, _, hsz37, _⟩ := info_parts info3; have hroom37 : x5_5.length ≤ co26 := (Kd.R_reads' HO_5.out).2.1; have hC37 : Kd.C (Kd.int .i64) _ Ao26 x5_5.length x5_5 := (Kd.R_reads' HO_5.out).2.2; have hcut37 := cut_to (P := Try.prog) 39 3 .i64 Try.underlying39 hi037 Ao26 x5_5.length co26 (ji22) (of_decide_eq_true (by first | (with_reducible assumption) | assumption)) q37 hroom37; have hr37 := Kd.C_take (m := ((ji22) : Int).toNat) hC37 (by omega); have hy37 : y211.length = ((ji22) : Int).toNat := (by rw [Ny211.out, List.length_take]; omega); rw [← Ny211.out] at hr37; rw [← hy37] at hcut37; have HR214 := Aside0.mk hr37; have HC214 := Aside0.mk (show y211.length ≤ co26 from by omega); clear hr37 hC37 hroom37 hi037 hsz37; have KY37 := Aside0.mk hy37; clear hy37; have KL37 := Aside0.mk (show ((ji22) : Int).toNat ≤ x5_5.length from by omega); replace q37 := eq_true q37; obtain ⟨Ao38, co38, eo38⟩ := Kd.R_slice HO207.out; subst eo38) | (go_at_call 22; (with_reducible refine (concordancelaw1_same.calls kj5 _ _ t204 _ _ y211 true _ ?side1 ?side2 ?side3 ?side4 A32.out).mono ?_); (case side1 => repeat (first | exact (Kd.R_reads' HO207.out).2.2 | (with_reducible refine Kd.C_alloc ?_ _) | (with_reducible refine Kd.C_drewN ?_ _) | (with_reducible refine Kd.C_drew ?_))); (case side2 => exact (Kd.R_reads' HO207.out).2.1); (case side3 => repeat (first | exact (by repeat (first | (with_reducible exact HR214.out) | (with_reducible refine Kd.C_alloc ?_ _) | (with_reducible refine Kd.C_drewN ?_ _) | (with_reducible refine Kd.C_drew ?_) | exact HR214.out)) | (with_reducible refine Kd.C_alloc ?_ _) | (with_reducible refine Kd.C_drewN ?_ _) | (with_reducible refine Kd.C_drew ?_))); (case side4 => exact HC214.out); rintro e w' ⟨rfl, ⟨nd, rfl⟩⟩; (try first | exact ⟨rfl, _, World.drewN_drewN _ _ _⟩ | exact ⟨rfl, _, Eq.trans (World.drewN_drewN _ _ _) (congrArg (World.drewN _) (Nat.add_assoc _ _ _))⟩); obtain ⟨Ao39, co39, eo39⟩ := Kd.R_slice HO209.out; subst eo39)); try go_wp2_with (first | (go_at_call 22; (with_reducible refine (concordancelaw1_same.calls kj5 _ _ t198 _ _ x5_5 true _ ?side1 ?side2 ?side3 ?side4 A27.out).mono ?_); (case side1 => repeat (first | exact (Kd.R_reads' HO201.out).2.2 | (with_reducible refine Kd.C_alloc ?_ _) | (with_reducible refine Kd.C_drewN ?_ _) | (with_reducible refine Kd.C_drew ?_))); (case side2 => exact (Kd.R_reads' HO201.out).2.1); (case side3 => repeat (first | exact (Kd.R_reads' HO_5.out).2.2 | (with_reducible refine Kd.C_alloc ?_ _) | (with_reducible refine Kd.C_drewN ?_ _) | (with_reducible refine Kd.C_drew ?_))); (case side4 => exact (Kd.R_reads' HO_5.out).2.1); rintro e w' ⟨rfl, ⟨nd, rfl⟩⟩; (try first | exact ⟨rfl, _, World.drewN_drewN _ _ _⟩ | exact ⟨rfl, _, Eq.trans (World.drewN_drewN _ _ _) (congrArg (World.drewN _) (Nat.add_assoc _ _ _))⟩); obtain ⟨Ao35, co35, eo35⟩ := Kd.R_slice HO203.out; subst eo35; obtain ⟨Ao36, co36, eo36⟩ := Kd.R_slice HO_6.out; subst eo36; have q37 : ((ji22) : Int) ≤ ((x5_5.length : Int) : Int) := of_decide_eq_true (by first | (with_reducible assumption) | assumption); obtain ⟨i037, hi037, _, hsz37, _⟩ := info_parts info3; have hroom37 : x5_5.length ≤ co26 := (Kd.R_reads' HO_5.out).2.1; have hC37 : Kd.C (Kd.int .i64) _ Ao26 x5_5.length x5_5 := (Kd.R_reads' HO_5.out).2.2; have hcut37 := cut_to (P := Try.prog) 39 3 .i64 Try.underlying39 hi037 Ao26 x5_5.length co26 (ji22) (of_decide_eq_true (by first | (with_reducible assumption) | assumption)) q37 hroom37; have hr37 := Kd.C_take (m := ((ji22) : Int).toNat) hC37 (by omega); have hy37 : y211.length = ((ji22) : Int).toNat := (by rw [Ny211.out, List.length_take]; omega); rw [← Ny211.out] at hr37; rw [← hy37] at hcut37; have HR214 := Aside0.mk hr37; have HC214 := Aside0.mk (show y211.length ≤ co26 from by omega); clear hr37 hC37 hroom37 hi037 hsz37; have KY37 := Aside0.mk hy37; clear hy37; have KL37 := Aside0.mk (show ((ji22) : Int).toNat ≤ x5_5.length from by omega); replace q37 := eq_true q37; obtain ⟨Ao38, co38, eo38⟩ := Kd.R_slice HO207.out; subst eo38) | (go_at_call 22; (with_reducible refine (concordancelaw1_same.calls kj5 _ _ t204 _ _ y211 true _ ?side1 ?side2 ?side3 ?side4 A32.out).mono ?_); (case side1 => repeat (first | exact (Kd.R_reads' HO207.out).2.2 | (with_reducible refine Kd.C_alloc ?_ _) | (with_reducible refine Kd.C_drewN ?_ _) | (with_reducible refine Kd.C_drew ?_))); (case side2 => exact (Kd.R_reads' HO207.out).2.1); (case side3 => repeat (first | exact (by repeat (first | (with_reducible exact HR214.out) | (with_reducible refine Kd.C_alloc ?_ _) | (with_reducible refine Kd.C_drewN ?_ _) | (with_reducible refine Kd.C_drew ?_) | exact HR214.out)) | (with_reducible refine Kd.C_alloc ?_ _) | (with_reducible refine Kd.C_drewN ?_ _) | (with_reducible refine Kd.C_drew ?_))); (case side4 => exact HC214.out); rintro e w' ⟨rfl, ⟨nd, rfl⟩⟩; (try first | exact ⟨rfl, _, World.drewN_drewN _ _ _⟩ | exact ⟨rfl, _, Eq.trans (World.drewN_drewN _ _ _) (congrArg (World.drewN _) (Nat.add_assoc _ _ _))⟩); obtain ⟨Ao39, co39, eo39⟩ := Kd.R_slice HO209.out; subst eo39)))
                    go_meet
                    case rel => exact ⟨_, (((t205.length : Int) != (ji22))), (by first | rfl | (simp; done) | (simp only [← hji22] <;> (first | rfl | simp)) | (simp [*]; done)), H', ⟨by have := HJ5.out; first | omega | exact Nat.le_refl _⟩, ⟨by (with_reducible repeat (first | apply Kd.R_alloc | apply Kd.R_drewN | apply Kd.R_drew)); exact Kd.R_mono HO_6.out (fun _ hk => ⟨hk.1.2, hk.2⟩)⟩, ⟨by (with_reducible repeat (first | apply Kd.R_alloc | apply Kd.R_drewN | apply Kd.R_drew)); exact Kd.R_mono HO203.out (fun _ hk => ⟨hk.1.2, hk.2⟩)⟩, ⟨by (with_reducible repeat (first | apply Kd.R_alloc | apply Kd.R_drewN | apply Kd.R_drew)); exact Kd.R_mono HO209.out (fun _ hk => ⟨hk.1.2, hk.2⟩)⟩, ⟨by repeat (first | (with_reducible first | exact HB.out | apply below_alloc | apply pw_below_drewN | apply below_drew1) | exact HB.out)⟩⟩
                  · replace c33 := Bool.eq_false_iff.mpr c33
                    subst c33
                    have H1 : (concordancelaw1_NumAll.j2 kj5 x6_5 t199 t205 ji22 true) = some r := by rw [if_neg (show ¬ (false = true) by decide)] at H; exact H
                    clear H
                    have H := H1
                    clear H1
                    have H' := Aside0.mk H
                    clear H
                    obtain ⟨Ao40, co40, eo40⟩ := Kd.R_slice HO201.out
                    subst eo40
                    go_wp2_with (first | (go_at_call 22; (with_reducible refine (concordancelaw1_same.calls kj5 _ _ t198 _ _ x5_5 true _ ?side1 ?side2 ?side3 ?side4 A27.out).mono ?_); (case side1 => repeat (first | exact (Kd.R_reads' HO201.out).2.2 | (with_reducible refine Kd.C_alloc ?_ _) | (with_reducible refine Kd.C_drewN ?_ _) | (with_reducible refine Kd.C_drew ?_))); (case side2 => exact (Kd.R_reads' HO201.out).2.1); (case side3 => repeat (first | exact (Kd.R_reads' HO_5.out).2.2 | (with_reducible refine Kd.C_alloc ?_ _) | (with_reducible refine Kd.C_drewN ?_ _) | (with_reducible refine Kd.C_drew ?_))); (case side4 => exact (Kd.R_reads' HO_5.out).2.1); rintro e w' ⟨rfl, ⟨nd, rfl⟩⟩; (try first | exact ⟨rfl, _, World.drewN_drewN _ _ _⟩ | exact ⟨rfl, _, Eq.trans (World.drewN_drewN _ _ _) (congrArg (World.drewN _) (Nat.add_assoc _ _ _))⟩); obtain ⟨Ao41, co41, eo41⟩ := Kd.R_slice HO203.out; subst eo41; obtain ⟨Ao42, co42, eo42⟩ := Kd.R_slice HO_6.out; subst eo42; have q43 : ((ji22) : Int) ≤ ((x5_5.length : Int) : Int) := of_decide_eq_true (by first | (with_reducible assumption) | assumption); obtain ⟨i043, hi043, _, hsz43, _⟩ := info_parts info3; have hroom43 : x5_5.length ≤ co26 := (Kd.R_reads' HO_5.out).2.1; have hC43 : Kd.C (Kd.int .i64) _ Ao26 x5_5.length x5_5 := (Kd.R_reads' HO_5.out).2.2; have hcut43 := cut_to (P := Try.prog) 39 3 .i64 Try.underlying39 hi043 Ao26 x5_5.length co26 (ji22) (of_decide_eq_true (by first | (with_reducible assumption) | assumption)) q43 hroom43; have hr43 := Kd.C_take (m := ((ji22) : Int).toNat) hC43 (by omega); have hy43 : y211.length = ((ji22) : Int).toNat := (by rw [Ny211.out, List.length_take]; omega); rw [← Ny211.out] at hr43; rw [← hy43] at hcut43; have HR214 := Aside0.mk hr43; have HC214 := Aside0.mk (show y211.length ≤ co26 from by omega); clear hr43 hC43 hroom43 hi043 hsz43; have KY43 := Aside0.mk hy43; clear hy43; have KL43 := Aside0.mk (show ((ji22) : Int).toNat ≤ x5_5.length from by omega); replace q43 := eq_true q43; obtain ⟨Ao44, co44, eo44⟩ := Kd.R_slice HO207.out; subst eo44) | (go_at_call 22; (with_reducible refine (concordancelaw1_same.calls kj5 _ _ t204 _ _ y211 false _ ?side1 ?side2 ?side3 ?side4 A32.out).mono ?_); (case side1 => repeat (first | exact (Kd.R_reads' HO207.out).2.2 | (with_reducible refine Kd.C_alloc ?_ _) | (with_reducible refine Kd.C_drewN ?_ _) | (with_reducible refine Kd.C_drew ?_))); (case side2 => exact (Kd.R_reads' HO207.out).2.1); (case side3 => repeat (first | exact (by repeat (first | (with_reducible exact HR214.out) | (with_reducible refine Kd.C_alloc ?_ _) | (with_reducible refine Kd.C_drewN ?_ _) | (with_reducible refine Kd.C_drew ?_) | exact HR214.out)) | (with_reducible refine Kd.C_alloc ?_ _) | (with_reducible refine Kd.C_drewN ?_ _) | (with_reducible refine Kd.C_drew ?_))); (case side4 => exact HC214.out); rintro e w' ⟨rfl, ⟨nd, rfl⟩⟩; (try first | exact ⟨rfl, _, World.drewN_drewN _ _ _⟩ | exact ⟨rfl, _, Eq.trans (World.drewN_drewN _ _ _) (congrArg (World.drewN _) (Nat.add_assoc _ _ _))⟩)))
                    repeat (go_quiet (first | (go_at_call 22; (with_reducible refine (concordancelaw1_same.calls kj5 _ _ t198 _ _ x5_5 true _ ?side1 ?side2 ?side3 ?side4 A27.out).mono ?_); (case side1 => repeat (first | exact (Kd.R_reads' HO201.out).2.2 | (with_reducible refine Kd.C_alloc ?_ _) | (with_reducible refine Kd.C_drewN ?_ _) | (with_reducible refine Kd.C_drew ?_))); (case side2 => exact (Kd.R_reads' HO201.out).2.1); (case side3 => repeat (first | exact (Kd.R_reads' HO_5.out).2.2 | (with_reducible refine Kd.C_alloc ?_ _) | (with_reducible refine Kd.C_drewN ?_ _) | (with_reducible refine Kd.C_drew ?_))); (case side4 => exact (Kd.R_reads' HO_5.out).2.1); rintro e w' ⟨rfl, ⟨nd, rfl⟩⟩; (try first | exact ⟨rfl, _, World.drewN_drewN _ _ _⟩ | exact ⟨rfl, _, Eq.trans (World.drewN_drewN _ _ _) (congrArg (World.drewN _) (Nat.add_assoc _ _ _))⟩); obtain ⟨Ao41, co41, eo41⟩ := Kd.R_slice HO203.out; subst eo41; obtain ⟨Ao42, co42, eo42⟩ := Kd.R_slice HO_6.out; subst eo42; have q43 : ((ji22) : Int) ≤ ((x5_5.length : Int) : Int) := of_decide_eq_true (by first | (with_reducible assumption) | assumption); obtain ⟨i043, hi043, _, hsz43, _⟩ := info_parts info3; have hroom43 : x5_5.length ≤ co26 := (Kd.R_reads' HO_5.out).2.1; have hC43 : Kd.C (Kd.int .i64) _ Ao26 x5_5.length x5_5 := (Kd.R_reads' HO_5.out).2.2; have hcut43 := cut_to (P := Try.prog) 39 3 .i64 Try.underlying39 hi043 Ao26 x5_5.length co26 (ji22) (of_decide_eq_true (by first | (with_reducible assumption) | assumption)) q43 hroom43; have hr43 := Kd.C_take (m := ((ji22) : Int).toNat) hC43 (by omega); have hy43 : y211.length = ((ji22) : Int).toNat := (by rw [Ny211.out, List.length_take]; omega); rw [← Ny211.out] at hr43; rw [← hy43] at hcut43; have HR214 := Aside0.mk hr43; have HC214 := Aside0.mk (show y211.length ≤ co26 from by omega); clear hr43 hC43 hroom43 hi043 hsz43; have KY43 := Aside0.mk hy43; clear hy43; have KL43 := Aside0.mk (show ((ji22) : Int).toNat ≤ x5_5.length from by omega); replace q43 := eq_true q43; obtain ⟨Ao44, co44, eo44⟩ := Kd.R_slice HO207.out; subst eo44) | (go_at_call 22; (with_reducible refine (concordancelaw1_same.calls kj5 _ _ t204 _ _ y211 false _ ?side1 ?side2 ?side3 ?side4 A32.out).mono ?_); (case side1 => repeat (first | exact (Kd.R_reads' HO207.out).2.2 | (with_reducible refine Kd.C_alloc ?_ _) | (with_reducible refine Kd.C_drewN ?_ _) | (with_reducible refine Kd.C_drew ?_))); (case side2 => exact (Kd.R_reads' HO207.out).2.1); (case side3 => repeat (first | exact (by repeat (first | (with_reducible exact HR214.out) | (with_reducible refine Kd.C_alloc ?_ _) | (with_reducible refine Kd.C_drewN ?_ _) | (with_reducible refine Kd.C_drew ?_) | exact HR214.out)) | (with_reducible refine Kd.C_alloc ?_ _) | (with_reducible refine Kd.C_drewN ?_ _) | (with_reducible refine Kd.C_drew ?_))); (case side4 => exact HC214.out); rintro e w' ⟨rfl, ⟨nd, rfl⟩⟩; (try first | exact ⟨rfl, _, World.drewN_drewN _ _ _⟩ | exact ⟨rfl, _, Eq.trans (World.drewN_drewN _ _ _) (congrArg (World.drewN _) (Nat.add_assoc _ _ _))⟩))); try go_wp2_with (first | (go_at_call 22; (with_reducible refine (concordancelaw1_same.calls kj5 _ _ t198 _ _ x5_5 true _ ?side1 ?side2 ?side3 ?side4 A27.out).mono ?_); (case side1 => repeat (first | exact (Kd.R_reads' HO201.out).2.2 | (with_reducible refine Kd.C_alloc ?_ _) | (with_reducible refine Kd.C_drewN ?_ _) | (with_reducible refine Kd.C_drew ?_))); (case side2 => exact (Kd.R_reads' HO201.out).2.1); (case side3 => repeat (first | exact (Kd.R_reads' HO_5.out).2.2 | (with_reducible refine Kd.C_alloc ?_ _) | (with_reducible refine Kd.C_drewN ?_ _) | (with_reducible refine Kd.C_drew ?_))); (case side4 => exact (Kd.R_reads' HO_5.out).2.1); rintro e w' ⟨rfl, ⟨nd, rfl⟩⟩; (try first | exact ⟨rfl, _, World.drewN_drewN _ _ _⟩ | exact ⟨rfl, _, Eq.trans (World.drewN_drewN _ _ _) (congrArg (World.drewN _) (Nat.add_assoc _ _ _))⟩); obtain ⟨Ao41, co41, eo41⟩ := Kd.R_slice HO203.out; subst eo41; obtain ⟨Ao42, co42, eo42⟩ := Kd.R_slice HO_6.out; subst eo42; have q43 : ((ji22) : Int) ≤ ((x5_5.length : Int) : Int) := of_decide_eq_true (by first | (with_reducible assumption) | assumption); obtain ⟨i043, hi043, _, hsz43, _⟩ := info_parts info3; have hroom43 : x5_5.length ≤ co26 := (Kd.R_reads' HO_5.out).2.1; have hC43 : Kd.C (Kd.int .i64) _ Ao26 x5_5.length x5_5 := (Kd.R_reads' HO_5.out).2.2; have hcut43 := cut_to (P := Try.prog) 39 3 .i64 Try.underlying39 hi043 Ao26 x5_5.length co26 (ji22) (of_decide_eq_true (by first | (with_reducible assumption) | assumption)) q43 hroom43; have hr43 := Kd.C_take (m := ((ji22) : Int).toNat) hC43 (by omega); have hy43 : y211.length = ((ji22) : Int).toNat := (by rw [Ny211.out, List.length_take]; omega); rw [← Ny211.out] at hr43; rw [← hy43] at hcut43; have HR214 := Aside0.mk hr43; have HC214 := Aside0.mk (show y211.length ≤ co26 from by omega); clear hr43 hC43 hroom43 hi043 hsz43; have KY43 := Aside0.mk hy43; clear hy43; have KL43 := Aside0.mk (show ((ji22) : Int).toNat ≤ x5_5.length from by omega); replace q43 := eq_true q43; obtain ⟨Ao44, co44, eo44⟩ := Kd.R_slice HO207.out; subst eo44) | (go_at_call 22; (with_reducible refine (concordancelaw1_same.calls kj5 _ _ t204 _ _ y211 false _ ?side1 ?side2 ?side3 ?side4 A32.out).mono ?_); (case side1 => repeat (first | exact (Kd.R_reads' HO207.out).2.2 | (with_reducible refine Kd.C_alloc ?_ _) | (with_reducible refine Kd.C_drewN ?_ _) | (with_reducible refine Kd.C_drew ?_))); (case side2 => exact (Kd.R_reads' HO207.out).2.1); (case side3 => repeat (first | exact (by repeat (first | (with_reducible exact HR214.out) | (with_reducible refine Kd.C_alloc ?_ _) | (with_reducible refine Kd.C_drewN ?_ _) | (with_reducible refine Kd.C_drew ?_) | exact HR214.out)) | (with_reducible refine Kd.C_alloc ?_ _) | (with_reducible refine Kd.C_drewN ?_ _) | (with_reducible refine Kd.C_drew ?_))); (case side4 => exact HC214.out); rintro e w' ⟨rfl, ⟨nd, rfl⟩⟩; (try first | exact ⟨rfl, _, World.drewN_drewN _ _ _⟩ | exact ⟨rfl, _, Eq.trans (World.drewN_drewN _ _ _) (congrArg (World.drewN _) (Nat.add_assoc _ _ _))⟩))))
                    go_meet
                    case rel => exact ⟨_, (true), (by first | rfl | (simp; done) | (simp [*]; done)), H', ⟨by have := HJ5.out; first | omega | exact Nat.le_refl _⟩, ⟨by (with_reducible repeat (first | apply Kd.R_alloc | apply Kd.R_drewN | apply Kd.R_drew)); exact Kd.R_mono HO_6.out (fun _ hk => ⟨hk.1.2, hk.2⟩)⟩, ⟨by (with_reducible repeat (first | apply Kd.R_alloc | apply Kd.R_drewN | apply Kd.R_drew)); exact Kd.R_mono HO203.out (fun _ hk => ⟨hk.1.2, hk.2⟩)⟩, ⟨by (with_reducible repeat (first | apply Kd.R_alloc | apply Kd.R_drewN | apply Kd.R_drew)); exact Kd.R_mono HO209.out (fun _ hk => ⟨hk.1.2, hk.2⟩)⟩, ⟨by repeat (first | (with_reducible first | exact HB.out | apply below_alloc | apply pw_below_drewN | apply below_drew1) | exact HB.out)⟩⟩
                · rw [if_neg c31] at H
                  exact absurd H (by simp)
              · rw [if_neg c30] at H
                exact absurd H (by simp)
            · rw [if_neg c29] at H
              have c29b0 : ((t199.length : Int) == (x6_5.length : Int)) = false := beq_eq_false_iff_ne.mpr c29
              have c29b1 : ((t199.length : Int) != (x6_5.length : Int)) = true := bne_iff_ne.mpr c29
              have c29b2 : (t199.length == x6_5.length) = false := by first | simpa using c29 | (simp at c29 ⊢; omega)
              (first | rw [c29b0] | (simp only [i64_w, i32_w]; rw [c29b0]) | skip)
              have H' := Aside0.mk H
              clear H
              obtain ⟨Ao45, co45, eo45⟩ := Kd.R_slice HO201.out
              subst eo45
              go_wp2_with (first | (go_at_call 22; (with_reducible refine (concordancelaw1_same.calls kj5 _ _ t198 _ _ x5_5 true _ ?side1 ?side2 ?side3 ?side4 A27.out).mono ?_); (case side1 => repeat (first | exact (Kd.R_reads' HO201.out).2.2 | (with_reducible refine Kd.C_alloc ?_ _) | (with_reducible refine Kd.C_drewN ?_ _) | (with_reducible refine Kd.C_drew ?_))); (case side2 => exact (Kd.R_reads' HO201.out).2.1); (case side3 => repeat (first | exact (Kd.R_reads' HO_5.out).2.2 | (with_reducible refine Kd.C_alloc ?_ _) | (with_reducible refine Kd.C_drewN ?_ _) | (with_reducible refine Kd.C_drew ?_))); (case side4 => exact (Kd.R_reads' HO_5.out).2.1); rintro e w' ⟨rfl, ⟨nd, rfl⟩⟩; (try first | exact ⟨rfl, _, World.drewN_drewN _ _ _⟩ | exact ⟨rfl, _, Eq.trans (World.drewN_drewN _ _ _) (congrArg (World.drewN _) (Nat.add_assoc _ _ _))⟩); obtain ⟨Ao46, co46, eo46⟩ := Kd.R_slice HO203.out; subst eo46; obtain ⟨Ao47, co47, eo47⟩ := Kd.R_slice HO_6.out; subst eo47))
              repeat (go_quiet (first | (go_at_call 22; (with_reducible refine (concordancelaw1_same.calls kj5 _ _ t198 _ _ x5_5 true _ ?side1 ?side2 ?side3 ?side4 A27.out).mono ?_); (case side1 => repeat (first | exact (Kd.R_reads' HO201.out).2.2 | (with_reducible refine Kd.C_alloc ?_ _) | (with_reducible refine Kd.C_drewN ?_ _) | (with_reducible refine Kd.C_drew ?_))); (case side2 => exact (Kd.R_reads' HO201.out).2.1); (case side3 => repeat (first | exact (Kd.R_reads' HO_5.out).2.2 | (with_reducible refine Kd.C_alloc ?_ _) | (with_reducible refine Kd.C_drewN ?_ _) | (with_reducible refine Kd.C_drew ?_))); (case side4 => exact (Kd.R_reads' HO_5.out).2.1); rintro e w' ⟨rfl, ⟨nd, rfl⟩⟩; (try first | exact ⟨rfl, _, World.drewN_drewN _ _ _⟩ | exact ⟨rfl, _, Eq.trans (World.drewN_drewN _ _ _) (congrArg (World.drewN _) (Nat.add_assoc _ _ _))⟩); obtain ⟨Ao46, co46, eo46⟩ := Kd.R_slice HO203.out; subst eo46; obtain ⟨Ao47, co47, eo47⟩ := Kd.R_slice HO_6.out; subst eo47)); try go_wp2_with (first | (go_at_call 22; (with_reducible refine (concordancelaw1_same.calls kj5 _ _ t198 _ _ x5_5 true _ ?side1 ?side2 ?side3 ?side4 A27.out).mono ?_); (case side1 => repeat (first | exact (Kd.R_reads' HO201.out).2.2 | (with_reducible refine Kd.C_alloc ?_ _) | (with_reducible refine Kd.C_drewN ?_ _) | (with_reducible refine Kd.C_drew ?_))); (case side2 => exact (Kd.R_reads' HO201.out).2.1); (case side3 => repeat (first | exact (Kd.R_reads' HO_5.out).2.2 | (with_reducible refine Kd.C_alloc ?_ _) | (with_reducible refine Kd.C_drewN ?_ _) | (with_reducible refine Kd.C_drew ?_))); (case side4 => exact (Kd.R_reads' HO_5.out).2.1); rintro e w' ⟨rfl, ⟨nd, rfl⟩⟩; (try first | exact ⟨rfl, _, World.drewN_drewN _ _ _⟩ | exact ⟨rfl, _, Eq.trans (World.drewN_drewN _ _ _) (congrArg (World.drewN _) (Nat.add_assoc _ _ _))⟩); obtain ⟨Ao46, co46, eo46⟩ := Kd.R_slice HO203.out; subst eo46; obtain ⟨Ao47, co47, eo47⟩ := Kd.R_slice HO_6.out; subst eo47)))
              go_meet
              case rel => exact ⟨_, (true), (by first | rfl | (simp; done) | (simp [*]; done)), H', ⟨by have := HJ5.out; first | omega | exact Nat.le_refl _⟩, ⟨by (with_reducible repeat (first | apply Kd.R_alloc | apply Kd.R_drewN | apply Kd.R_drew)); exact Kd.R_mono HO_6.out (fun _ hk => ⟨hk.1.2, hk.2⟩)⟩, ⟨by (with_reducible repeat (first | apply Kd.R_alloc | apply Kd.R_drewN | apply Kd.R_drew)); exact Kd.R_mono HO203.out (fun _ hk => ⟨hk.1.2, hk.2⟩)⟩, ⟨by (with_reducible repeat (first | apply Kd.R_alloc | apply Kd.R_drewN | apply Kd.R_drew)); exact Kd.R_mono HO209.out (fun _ hk => ⟨hk.1.2, hk.2⟩)⟩, ⟨by repeat (first | (with_reducible first | exact HB.out | apply below_alloc | apply pw_below_drewN | apply below_drew1) | exact HB.out)⟩⟩
          · replace c28 := Bool.eq_false_iff.mpr c28
            subst c28
            have H1 : (concordancelaw1_NumAll.j2 kj5 x6_5 t199 t205 ji22 true) = some r := by rw [if_neg (show ¬ (false = true) by decide)] at H; exact H
            clear H
            have H := H1
            clear H1
            have H' := Aside0.mk H
            clear H
            obtain ⟨Ao48, co48, eo48⟩ := Kd.R_slice HO201.out
            subst eo48
            go_wp2_with (first | (go_at_call 22; (with_reducible refine (concordancelaw1_same.calls kj5 _ _ t198 _ _ x5_5 false _ ?side1 ?side2 ?side3 ?side4 A27.out).mono ?_); (case side1 => repeat (first | exact (Kd.R_reads' HO201.out).2.2 | (with_reducible refine Kd.C_alloc ?_ _) | (with_reducible refine Kd.C_drewN ?_ _) | (with_reducible refine Kd.C_drew ?_))); (case side2 => exact (Kd.R_reads' HO201.out).2.1); (case side3 => repeat (first | exact (Kd.R_reads' HO_5.out).2.2 | (with_reducible refine Kd.C_alloc ?_ _) | (with_reducible refine Kd.C_drewN ?_ _) | (with_reducible refine Kd.C_drew ?_))); (case side4 => exact (Kd.R_reads' HO_5.out).2.1); rintro e w' ⟨rfl, ⟨nd, rfl⟩⟩; (try first | exact ⟨rfl, _, World.drewN_drewN _ _ _⟩ | exact ⟨rfl, _, Eq.trans (World.drewN_drewN _ _ _) (congrArg (World.drewN _) (Nat.add_assoc _ _ _))⟩)))
            repeat (go_quiet (first | (go_at_call 22; (with_reducible refine (concordancelaw1_same.calls kj5 _ _ t198 _ _ x5_5 false _ ?side1 ?side2 ?side3 ?side4 A27.out).mono ?_); (case side1 => repeat (first | exact (Kd.R_reads' HO201.out).2.2 | (with_reducible refine Kd.C_alloc ?_ _) | (with_reducible refine Kd.C_drewN ?_ _) | (with_reducible refine Kd.C_drew ?_))); (case side2 => exact (Kd.R_reads' HO201.out).2.1); (case side3 => repeat (first | exact (Kd.R_reads' HO_5.out).2.2 | (with_reducible refine Kd.C_alloc ?_ _) | (with_reducible refine Kd.C_drewN ?_ _) | (with_reducible refine Kd.C_drew ?_))); (case side4 => exact (Kd.R_reads' HO_5.out).2.1); rintro e w' ⟨rfl, ⟨nd, rfl⟩⟩; (try first | exact ⟨rfl, _, World.drewN_drewN _ _ _⟩ | exact ⟨rfl, _, Eq.trans (World.drewN_drewN _ _ _) (congrArg (World.drewN _) (Nat.add_assoc _ _ _))⟩))); try go_wp2_with (first | (go_at_call 22; (with_reducible refine (concordancelaw1_same.calls kj5 _ _ t198 _ _ x5_5 false _ ?side1 ?side2 ?side3 ?side4 A27.out).mono ?_); (case side1 => repeat (first | exact (Kd.R_reads' HO201.out).2.2 | (with_reducible refine Kd.C_alloc ?_ _) | (with_reducible refine Kd.C_drewN ?_ _) | (with_reducible refine Kd.C_drew ?_))); (case side2 => exact (Kd.R_reads' HO201.out).2.1); (case side3 => repeat (first | exact (Kd.R_reads' HO_5.out).2.2 | (with_reducible refine Kd.C_alloc ?_ _) | (with_reducible refine Kd.C_drewN ?_ _) | (with_reducible refine Kd.C_drew ?_))); (case side4 => exact (Kd.R_reads' HO_5.out).2.1); rintro e w' ⟨rfl, ⟨nd, rfl⟩⟩; (try first | exact ⟨rfl, _, World.drewN_drewN _ _ _⟩ | exact ⟨rfl, _, Eq.trans (World.drewN_drewN _ _ _) (congrArg (World.drewN _) (Nat.add_assoc _ _ _))⟩))))
            go_meet
            case rel => exact ⟨_, (true), (by first | rfl | (simp; done) | (simp [*]; done)), H', ⟨by have := HJ5.out; first | omega | exact Nat.le_refl _⟩, ⟨by (with_reducible repeat (first | apply Kd.R_alloc | apply Kd.R_drewN | apply Kd.R_drew)); exact Kd.R_mono HO_6.out (fun _ hk => ⟨hk.1.2, hk.2⟩)⟩, ⟨by (with_reducible repeat (first | apply Kd.R_alloc | apply Kd.R_drewN | apply Kd.R_drew)); exact Kd.R_mono HO203.out (fun _ hk => ⟨hk.1.2, hk.2⟩)⟩, ⟨by (with_reducible repeat (first | apply Kd.R_alloc | apply Kd.R_drewN | apply Kd.R_drew)); exact Kd.R_mono HO209.out (fun _ hk => ⟨hk.1.2, hk.2⟩)⟩, ⟨by repeat (first | (with_reducible first | exact HB.out | apply below_alloc | apply pw_below_drewN | apply below_drew1) | exact HB.out)⟩⟩
        case rest =>
          clear HC23
          try clear c1
          try clear hcv1
          try clear c2
          try clear p2
          try clear c3
          try clear c3b0
          try clear c3b1
          try clear q3
          try clear q4
          try clear p6
          try clear c7
          try clear c7b0
          try clear c8
          try clear c8b0
          try clear c8b1
          try clear c9
          try clear c9b0
          try clear c9b1
          try clear c11
          try clear c11b0
          try clear c11b1
          try clear c12
          try clear c13
          try clear hcv15
          try clear hcv19
          try clear c28
          try clear c29
          try clear c29b0
          try clear c29b1
          try clear c29b2
          try clear c30
          try clear c30b0
          try clear c30b1
          try clear c31
          try clear c31b0
          try clear c31b1
          try clear c33
          try clear q37
          try clear q43
          try clear p2
          try clear p6
          try clear q37
          try clear q43
          obtain ⟨kq, x88_22, rfl, HA, HJ22, HO_6, HO_12, HO_14, HB⟩ := hcut
          cases kq with
          | zero => exact absurd HA.out (by simp [concordancelaw1_NumAll.j2])
          | succ kj22 =>
            have H := HA.out
            clear HA
            simp only [concordancelaw1_NumAll.j2] at H
            by_cases c49 : x88_22 = true
            · subst c49
              have H1 : (some false) = some r := by rw [if_pos rfl] at H; exact H
              clear H
              have H := H1
              clear H1
              obtain rfl := Option.some.inj H
              go_wp2
              repeat (go_quiet (fail); try go_wp2)
              go_ret
              exact ⟨by first | rfl | (simp [errW_none, errW_some] <;> rfl) | (simp only [← hji22]; first | rfl | (simp [errW_none, errW_some] <;> rfl)) | (simp [*, errW_none, errW_some] <;> rfl), by repeat (first | (with_reducible first | exact HB.out | apply below_alloc | apply pw_below_drewN | apply below_drew1) | exact HB.out)⟩
            · replace c49 := Bool.eq_false_iff.mpr c49
              subst c49
              have H1 : (concordancelaw1_NumAll.l1 kj22 x6_5 t199 t205 ji22 0) = some r := by rw [if_neg (show ¬ (false = true) by decide)] at H; exact H
              clear H
              have H := H1
              clear H1
              have H' := Aside0.mk H
              clear H
              go_wp2
              repeat (go_quiet (fail); try go_wp2)
              go_loopg [16] kj22 (fun kq v16 w' => ∃ (x16_3 : Int), v16 = .int .i64 x16_3 ∧ Aside0 (concordancelaw1_NumAll.l1 kq x6_5 t199 t205 ji22 x16_3 = some r) ∧ Aside0 (kq ≤ kj22) ∧ Aside0 (Kd.R (Kd.int .u64) 22 w' w.heap.size (fun k_ => some k_ ≠ (v202 : Value).ownBlock ∧ some k_ ≠ (v208 : Value).ownBlock) u6 x6_5) ∧ Aside0 (Kd.R (Kd.int .u64) 22 w' w.heap.size (fun k_ => some k_ ≠ (u6 : Value).ownBlock ∧ some k_ ≠ (v208 : Value).ownBlock) v202 t199) ∧ Aside0 (Kd.R (Kd.int .u64) 22 w' w.heap.size (fun k_ => some k_ ≠ (u6 : Value).ownBlock ∧ some k_ ≠ (v202 : Value).ownBlock) v208 t205) ∧ Aside0 (Below w.heap.size w w'))
              case atStart => exact ⟨(0), (by first | rfl | (simp; done) | (simp [*]; done)), H', ⟨Nat.le_refl _⟩, ⟨by (with_reducible repeat (first | apply Kd.R_alloc | apply Kd.R_drewN | apply Kd.R_drew)); exact HO_6.out⟩, ⟨by (with_reducible repeat (first | apply Kd.R_alloc | apply Kd.R_drewN | apply Kd.R_drew)); exact HO_12.out⟩, ⟨by (with_reducible repeat (first | apply Kd.R_alloc | apply Kd.R_drewN | apply Kd.R_drew)); exact HO_14.out⟩, ⟨by repeat (first | (with_reducible first | exact HB.out | apply below_alloc | apply pw_below_drewN | apply below_drew1) | exact HB.out)⟩⟩
              case round =>
                clear H'
                try clear c1
                try clear hcv1
                try clear c2
                try clear p2
                try clear c3
                try clear c3b0
                try clear c3b1
                try clear q3
                try clear c4
                try clear q4
                try clear p6
                try clear c7
                try clear c7b0
                try clear c8
                try clear c8b0
                try clear c8b1
                try clear c9
                try clear c9b0
                try clear c9b1
                try clear c11
                try clear c11b0
                try clear c11b1
                try clear c12
                try clear c13
                try clear hcv15
                try clear hcv19
                try clear c28
                try clear c29
                try clear c29b0
                try clear c29b1
                try clear c29b2
                try clear c30
                try clear c30b0
                try clear c30b1
                try clear c31
                try clear c31b0
                try clear c31b1
                try clear c33
                try clear q37
                try clear q43
                try clear c49
                try clear p2
                try clear p6
                try clear q3
                try clear q37
                try clear q4
                try clear q43
                obtain ⟨x16_3, rfl, HA, HK3, HO_6, HO_12, HO_14, HB⟩ := hrel
                cases gk with
                | zero => exact absurd HA.out (by simp [concordancelaw1_NumAll.l1])
                | succ k3 =>
                  have H := HA.out
                  clear HA
                  simp only [concordancelaw1_NumAll.l1] at H
                  by_cases c50 : x16_3 < (x6_5.length : Int)
                  · rw [if_pos c50] at H
                    have c50b0 : decide (x16_3 < (x6_5.length : Int)) = true := decide_eq_true c50
                    clear c50
                    by_cases c51 : 0 ≤ x16_3
                    · rw [if_pos c51] at H
                      have c51b0 : decide (0 ≤ x16_3) = true := decide_eq_true c51
                      clear c51
                      by_cases c52 : x16_3 < (t199.length : Int)
                      · rw [if_pos c52] at H
                        have c52b0 : decide (x16_3 < (t199.length : Int)) = true := decide_eq_true c52
                        clear c52
                        by_cases c53 : (rd t199 x16_3) = (rd x6_5 x16_3)
                        · rw [if_pos c53] at H
                          have c53b0 : ((rd t199 x16_3) == (rd x6_5 x16_3)) = true := beq_iff_eq.mpr c53
                          have c53b1 : ((rd t199 x16_3) != (rd x6_5 x16_3)) = false := bne_eq_false_iff_eq.mpr c53
                          clear c53
                          by_cases c54 : x16_3 < ji22
                          · rw [if_pos c54] at H
                            have c54b0 : decide (x16_3 < ji22) = true := decide_eq_true c54
                            clear c54
                            by_cases c55 : x16_3 < (t205.length : Int)
                            · rw [if_pos c55] at H
                              have c55b0 : decide (x16_3 < (t205.length : Int)) = true := decide_eq_true c55
                              clear c55
                              by_cases c56 : (rd t205 x16_3) = (rd x6_5 x16_3)
                              · rw [if_pos c56] at H
                                have c56b0 : ((rd t205 x16_3) == (rd x6_5 x16_3)) = true := beq_iff_eq.mpr c56
                                have c56b1 : ((rd t205 x16_3) != (rd x6_5 x16_3)) = false := bne_eq_false_iff_eq.mpr c56
                                clear c56
                                have H' := Aside0.mk H
                                clear H
                                obtain ⟨Ao57, co57, eo57⟩ := Kd.R_slice HO_6.out
                                subst eo57
                                obtain ⟨Ao58, co58, eo58⟩ := Kd.R_slice HO_12.out
                                subst eo58
                                have p216 : 0 ≤ (x16_3 : Int) := of_decide_eq_true (by first | (with_reducible assumption) | assumption)
                                have q216 : x16_3 < (t199.length : Int) := of_decide_eq_true (by first | (with_reducible assumption) | assumption)
                                obtain ⟨ad216, e216, hx216_0⟩ := Kd.at_int (Kd.R_reads' HO_12.out).2.2 x16_3 p216 q216
                                cases e216
                                replace p216 := eq_true p216
                                replace q216 := eq_true q216
                                have p217 : 0 ≤ (x16_3 : Int) := of_decide_eq_true (by first | (with_reducible assumption) | assumption)
                                have q217 : x16_3 < (x6_5.length : Int) := of_decide_eq_true (by first | (with_reducible assumption) | assumption)
                                obtain ⟨ad217, e217, hx217_0⟩ := Kd.at_int (Kd.R_reads' HO_6.out).2.2 x16_3 p217 q217
                                cases e217
                                replace p217 := eq_true p217
                                replace q217 := eq_true q217
                                obtain ⟨Ao59, co59, eo59⟩ := Kd.R_slice HO_14.out
                                subst eo59
                                have p218 : 0 ≤ (x16_3 : Int) := of_decide_eq_true (by first | (with_reducible assumption) | assumption)
                                have q218 : x16_3 < (t205.length : Int) := of_decide_eq_true (by first | (with_reducible assumption) | assumption)
                                obtain ⟨ad218, e218, hx218_0⟩ := Kd.at_int (Kd.R_reads' HO_14.out).2.2 x16_3 p218 q218
                                cases e218
                                replace p218 := eq_true p218
                                replace q218 := eq_true q218
                                have p219 : 0 ≤ (x16_3 : Int) := of_decide_eq_true (by first | (with_reducible assumption) | assumption)
                                have q219 : x16_3 < (x6_5.length : Int) := of_decide_eq_true (by first | (with_reducible assumption) | assumption)
                                obtain ⟨ad219, e219, hx219_0⟩ := Kd.at_int (Kd.R_reads' HO_6.out).2.2 x16_3 p219 q219
                                obtain rfl : ad217 = ad219 := (by injection e219)
                                replace p219 := eq_true p219
                                replace q219 := eq_true q219
                                go_wp2
                                repeat (go_quiet (fail); try go_wp2)
                                go_roundg k3
                                case measure => have := HJ5.out; have := HJ22.out; have := HK3.out; omega
                                case rel => exact ⟨(wrap64 (x16_3 + 1)), (by first | rfl | (simp; done) | (simp [*]; done)), H', ⟨by have := HJ5.out; have := HJ22.out; have := HK3.out; omega⟩, ⟨by (with_reducible repeat (first | apply Kd.R_alloc | apply Kd.R_drewN | apply Kd.R_drew)); exact HO_6.out⟩, ⟨by (with_reducible repeat (first | apply Kd.R_alloc | apply Kd.R_drewN | apply Kd.R_drew)); exact HO_12.out⟩, ⟨by (with_reducible repeat (first | apply Kd.R_alloc | apply Kd.R_drewN | apply Kd.R_drew)); exact HO_14.out⟩, ⟨by repeat (first | (with_reducible first | exact HB.out | apply below_alloc | apply pw_below_drewN | apply below_drew1) | exact HB.out)⟩⟩
                              · rw [if_neg c56] at H
                                have c56b0 : ((rd t205 x16_3) == (rd x6_5 x16_3)) = false := beq_eq_false_iff_ne.mpr c56
                                have c56b1 : ((rd t205 x16_3) != (rd x6_5 x16_3)) = true := bne_iff_ne.mpr c56
                                obtain rfl := Option.some.inj H
                                obtain ⟨Ao60, co60, eo60⟩ := Kd.R_slice HO_6.out
                                subst eo60
                                obtain ⟨Ao61, co61, eo61⟩ := Kd.R_slice HO_12.out
                                subst eo61
                                have p216 : 0 ≤ (x16_3 : Int) := of_decide_eq_true (by first | (with_reducible assumption) | assumption)
                                have q216 : x16_3 < (t199.length : Int) := of_decide_eq_true (by first | (with_reducible assumption) | assumption)
                                obtain ⟨ad216, e216, hx216_0⟩ := Kd.at_int (Kd.R_reads' HO_12.out).2.2 x16_3 p216 q216
                                cases e216
                                replace p216 := eq_true p216
                                replace q216 := eq_true q216
                                have p217 : 0 ≤ (x16_3 : Int) := of_decide_eq_true (by first | (with_reducible assumption) | assumption)
                                have q217 : x16_3 < (x6_5.length : Int) := of_decide_eq_true (by first | (with_reducible assumption) | assumption)
                                obtain ⟨ad217, e217, hx217_0⟩ := Kd.at_int (Kd.R_reads' HO_6.out).2.2 x16_3 p217 q217
                                cases e217
                                replace p217 := eq_true p217
                                replace q217 := eq_true q217
                                obtain ⟨Ao62, co62, eo62⟩ := Kd.R_slice HO_14.out
                                subst eo62
                                have p218 : 0 ≤ (x16_3 : Int) := of_decide_eq_true (by first | (with_reducible assumption) | assumption)
                                have q218 : x16_3 < (t205.length : Int) := of_decide_eq_true (by first | (with_reducible assumption) | assumption)
                                obtain ⟨ad218, e218, hx218_0⟩ := Kd.at_int (Kd.R_reads' HO_14.out).2.2 x16_3 p218 q218
                                cases e218
                                replace p218 := eq_true p218
                                replace q218 := eq_true q218
                                have p219 : 0 ≤ (x16_3 : Int) := of_decide_eq_true (by first | (with_reducible assumption) | assumption)
                                have q219 : x16_3 < (x6_5.length : Int) := of_decide_eq_true (by first | (with_reducible assumption) | assumption)
                                obtain ⟨ad219, e219, hx219_0⟩ := Kd.at_int (Kd.R_reads' HO_6.out).2.2 x16_3 p219 q219
                                obtain rfl : ad217 = ad219 := (by injection e219)
                                replace p219 := eq_true p219
                                replace q219 := eq_true q219
                                go_wp2
                                repeat (go_quiet (fail); try go_wp2)
                                go_ret
                                exact ⟨by first | rfl | (simp [errW_none, errW_some] <;> rfl) | (simp only [← hji22]; first | rfl | (simp [errW_none, errW_some] <;> rfl)) | (simp [*, errW_none, errW_some] <;> rfl), by repeat (first | (with_reducible first | exact HB.out | apply below_alloc | apply pw_below_drewN | apply below_drew1) | exact HB.out)⟩
                            · rw [if_neg c55] at H
                              exact absurd H (by simp)
                          · rw [if_neg c54] at H
                            have c54b0 : decide (x16_3 < ji22) = false := decide_eq_false c54
                            clear c54
                            have H' := Aside0.mk H
                            clear H
                            obtain ⟨Ao63, co63, eo63⟩ := Kd.R_slice HO_6.out
                            subst eo63
                            obtain ⟨Ao64, co64, eo64⟩ := Kd.R_slice HO_12.out
                            subst eo64
                            have p216 : 0 ≤ (x16_3 : Int) := of_decide_eq_true (by first | (with_reducible assumption) | assumption)
                            have q216 : x16_3 < (t199.length : Int) := of_decide_eq_true (by first | (with_reducible assumption) | assumption)
                            obtain ⟨ad216, e216, hx216_0⟩ := Kd.at_int (Kd.R_reads' HO_12.out).2.2 x16_3 p216 q216
                            cases e216
                            replace p216 := eq_true p216
                            replace q216 := eq_true q216
                            have p217 : 0 ≤ (x16_3 : Int) := of_decide_eq_true (by first | (with_reducible assumption) | assumption)
                            have q217 : x16_3 < (x6_5.length : Int) := of_decide_eq_true (by first | (with_reducible assumption) | assumption)
                            obtain ⟨ad217, e217, hx217_0⟩ := Kd.at_int (Kd.R_reads' HO_6.out).2.2 x16_3 p217 q217
                            cases e217
                            replace p217 := eq_true p217
                            replace q217 := eq_true q217
                            go_wp2
                            repeat (go_quiet (fail); try go_wp2)
                            go_roundg k3
                            case measure => have := HJ5.out; have := HJ22.out; have := HK3.out; omega
                            case rel => exact ⟨(wrap64 (x16_3 + 1)), (by first | rfl | (simp; done) | (simp [*]; done)), H', ⟨by have := HJ5.out; have := HJ22.out; have := HK3.out; omega⟩, ⟨by (with_reducible repeat (first | apply Kd.R_alloc | apply Kd.R_drewN | apply Kd.R_drew)); exact HO_6.out⟩, ⟨by (with_reducible repeat (first | apply Kd.R_alloc | apply Kd.R_drewN | apply Kd.R_drew)); exact HO_12.out⟩, ⟨by (with_reducible repeat (first | apply Kd.R_alloc | apply Kd.R_drewN | apply Kd.R_drew)); exact HO_14.out⟩, ⟨by repeat (first | (with_reducible first | exact HB.out | apply below_alloc | apply pw_below_drewN | apply below_drew1) | exact HB.out)⟩⟩
                        · rw [if_neg c53] at H
                          have c53b0 : ((rd t199 x16_3) == (rd x6_5 x16_3)) = false := beq_eq_false_iff_ne.mpr c53
                          have c53b1 : ((rd t199 x16_3) != (rd x6_5 x16_3)) = true := bne_iff_ne.mpr c53
                          obtain rfl := Option.some.inj H
                          obtain ⟨Ao65, co65, eo65⟩ := Kd.R_slice HO_6.out
                          subst eo65
                          obtain ⟨Ao66, co66, eo66⟩ := Kd.R_slice HO_12.out
                          subst eo66
                          have p216 : 0 ≤ (x16_3 : Int) := of_decide_eq_true (by first | (with_reducible assumption) | assumption)
                          have q216 : x16_3 < (t199.length : Int) := of_decide_eq_true (by first | (with_reducible assumption) | assumption)
                          obtain ⟨ad216, e216, hx216_0⟩ := Kd.at_int (Kd.R_reads' HO_12.out).2.2 x16_3 p216 q216
                          cases e216
                          replace p216 := eq_true p216
                          replace q216 := eq_true q216
                          have p217 : 0 ≤ (x16_3 : Int) := of_decide_eq_true (by first | (with_reducible assumption) | assumption)
                          have q217 : x16_3 < (x6_5.length : Int) := of_decide_eq_true (by first | (with_reducible assumption) | assumption)
                          obtain ⟨ad217, e217, hx217_0⟩ := Kd.at_int (Kd.R_reads' HO_6.out).2.2 x16_3 p217 q217
                          cases e217
                          replace p217 := eq_true p217
                          replace q217 := eq_true q217
                          go_wp2
                          repeat (go_quiet (fail); try go_wp2)
                          go_ret
                          exact ⟨by first | rfl | (simp [errW_none, errW_some] <;> rfl) | (simp only [← hji22]; first | rfl | (simp [errW_none, errW_some] <;> rfl)) | (simp [*, errW_none, errW_some] <;> rfl), by repeat (first | (with_reducible first | exact HB.out | apply below_alloc | apply pw_below_drewN | apply below_drew1) | exact HB.out)⟩
                      · rw [if_neg c52] at H
                        exact absurd H (by simp)
                    · rw [if_neg c51] at H
                      exact absurd H (by simp)
                  · rw [if_neg c50] at H
                    have c50b0 : decide (x16_3 < (x6_5.length : Int)) = false := decide_eq_false c50
                    clear c50
                    replace H := Option.bind_eq_some_iff.mp H
                    obtain ⟨t220, A670, H⟩ := H
                    replace H : (some t220) = some r := H
                    have A67 := Aside0.mk A670
                    clear A670
                    obtain rfl := Option.some.inj H
                    obtain ⟨Ao68, co68, eo68⟩ := Kd.R_slice HO_6.out
                    subst eo68
                    go_wp2_with (first | (go_at_call 12; (with_reducible refine (concordancelaw1_awake.calls k3  t220 _ A67.out).mono ?_); rintro e w69 ⟨rfl, hb⟩; have n0_ := Aside0.mk (Kd.R_below (by (with_reducible repeat (first | apply Kd.R_alloc | apply Kd.R_drewN | apply Kd.R_drew)); exact HO_6.out) hb); have n1_ := Aside0.mk (Kd.R_below (by (with_reducible repeat (first | apply Kd.R_alloc | apply Kd.R_drewN | apply Kd.R_drew)); exact HO_12.out) hb); have n2_ := Aside0.mk (Kd.R_below (by (with_reducible repeat (first | apply Kd.R_alloc | apply Kd.R_drewN | apply Kd.R_drew)); exact HO_14.out) hb); have n3_ := Aside0.mk (below_step (by repeat (first | (with_reducible first | exact HB.out | apply below_alloc | apply pw_below_drewN | apply below_drew1) | exact HB.out)) hb); clear HO_6; clear HO_12; clear HO_14; clear HB; have HO_6 := n0_; have HO_12 := n1_; have HO_14 := n2_; have HB := n3_; clear n0_ n1_ n2_ n3_; (try clear hb); (try clear hb2); (try clear hk); (try clear hi)))
                    repeat (go_quiet (first | (go_at_call 12; (with_reducible refine (concordancelaw1_awake.calls k3  t220 _ A67.out).mono ?_); rintro e w69 ⟨rfl, hb⟩; have n0_ := Aside0.mk (Kd.R_below (by (with_reducible repeat (first | apply Kd.R_alloc | apply Kd.R_drewN | apply Kd.R_drew)); exact HO_6.out) hb); have n1_ := Aside0.mk (Kd.R_below (by (with_reducible repeat (first | apply Kd.R_alloc | apply Kd.R_drewN | apply Kd.R_drew)); exact HO_12.out) hb); have n2_ := Aside0.mk (Kd.R_below (by (with_reducible repeat (first | apply Kd.R_alloc | apply Kd.R_drewN | apply Kd.R_drew)); exact HO_14.out) hb); have n3_ := Aside0.mk (below_step (by repeat (first | (with_reducible first | exact HB.out | apply below_alloc | apply pw_below_drewN | apply below_drew1) | exact HB.out)) hb); clear HO_6; clear HO_12; clear HO_14; clear HB; have HO_6 := n0_; have HO_12 := n1_; have HO_14 := n2_; have HB := n3_; clear n0_ n1_ n2_ n3_; (try clear hb); (try clear hb2); (try clear hk); (try clear hi))); try go_wp2_with (first | (go_at_call 12; (with_reducible refine (concordancelaw1_awake.calls k3  t220 _ A67.out).mono ?_); rintro e w69 ⟨rfl, hb⟩; have n0_ := Aside0.mk (Kd.R_below (by (with_reducible repeat (first | apply Kd.R_alloc | apply Kd.R_drewN | apply Kd.R_drew)); exact HO_6.out) hb); have n1_ := Aside0.mk (Kd.R_below (by (with_reducible repeat (first | apply Kd.R_alloc | apply Kd.R_drewN | apply Kd.R_drew)); exact HO_12.out) hb); have n2_ := Aside0.mk (Kd.R_below (by (with_reducible repeat (first | apply Kd.R_alloc | apply Kd.R_drewN | apply Kd.R_drew)); exact HO_14.out) hb); have n3_ := Aside0.mk (below_step (by repeat (first | (with_reducible first | exact HB.out | apply below_alloc | apply pw_below_drewN | apply below_drew1) | exact HB.out)) hb); clear HO_6; clear HO_12; clear HO_14; clear HB; have HO_6 := n0_; have HO_12 := n1_; have HO_14 := n2_; have HB := n3_; clear n0_ n1_ n2_ n3_; (try clear hb); (try clear hb2); (try clear hk); (try clear hi))))
                    go_ret
                    exact ⟨by first | rfl | (simp [errW_none, errW_some] <;> rfl) | (simp only [← hji22]; first | rfl | (simp [errW_none, errW_some] <;> rfl)) | (simp [*, errW_none, errW_some] <;> rfl), by repeat (first | (with_reducible first | exact HB.out | apply below_alloc | apply pw_below_drewN | apply below_drew1) | exact HB.out)⟩

/-- THE ONE PURE STATEMENT of concordancelaw1_NumAll: yours. -/
def concordancelaw1_NumAll.Pure : Prop := ∀ (l0 : List Int) (a1 : Int), l0.length ≤ maxLen → l0.length * 1 ≤ 140737488351232 → (∀ x ∈ l0, (Lit.int .u8 x).wf = true) → (Lit.int .i64 a1).wf = true → ∃ k, concordancelaw1_NumAll.f k l0 a1 = some true
theorem concordancelaw1_NumAll.walk (P : concordancelaw1_NumAll.Pure) (a0 : Option Addr) (len0 cap0 : Nat) (z0 : List Int) (a1 : Int) (w : World) (w0 : (a0 = none ∧ len0 = 0 ∧ cap0 = 0 ∧ z0 = []) ∨ ∃ x, a0 = some x ∧ len0 ≤ cap0 ∧ cap0 ≤ maxLen ∧ z0.length = cap0 ∧ (∀ i, i < z0.length → w.cell? (x.add i) = some (.int .u8 (z0.getD i 0))) ∧ ∀ n ∈ z0, (Lit.int .u8 n).wf = true) (y0 : len0 * 1 ≤ 140737488351232) (w1 : (Lit.int .i64 a1).wf = true) :
    Calls Try.prog 7 #[.slice a0 len0 cap0, .int .i64 a1] w fun e w' => e = .returned (.bool true) ∧ Below w.heap.size w w' := by
  obtain ⟨l0, rfl, hr0, hm0, hw0, hc0⟩ := ReadsInt.ofRowC w0
  obtain ⟨k, h⟩ := P l0 a1 hm0 y0 hw0 w1
  refine (concordancelaw1_NumAll.calls k _ _ l0 a1 true w (Kd.C_of_reads (d := (0 : Int)) (h1 := fun _ => rfl) hr0) hc0 h).mono ?_
  rintro e w' ⟨rfl, hd⟩
  exact ⟨rfl, hd⟩

end Go.Proofs.Ytpcjdgmjlnlfgaa.PNum
