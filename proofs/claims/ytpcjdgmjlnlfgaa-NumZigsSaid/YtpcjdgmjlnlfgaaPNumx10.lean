/- Printed by a program of this session (drv.py) from the translation of this seat: functions, their contracts, rows. -/
import Derived.Test.YtpcjdgmjlnlfgaaPNumx0
import Derived.Test.YtpcjdgmjlnlfgaaPNumx5
import Derived.Test.YtpcjdgmjlnlfgaaPNumx6
import Derived.Test.YtpcjdgmjlnlfgaaPNumx8
namespace Go.Proofs.Ytpcjdgmjlnlfgaa.PNum
open Go.RowKit Go.Proofs.YtpcjdgmjlnlfgaaW.PrintWords Go.Proofs.YtpcjdgmjlnlfgaaW.PrintLast Go.Proofs.YtpcjdgmjlnlfgaaW.PrintMore
attribute [local go_sem] max2_int min2_int max_two min_two max_three min_three max_four min_four   -- for this text's walks alone
set_option linter.unusedVariables false
set_option linter.unusedSimpArgs false

/-! ### concordancelaw1_NumZigs: function 4 -/
mutual
def concordancelaw1_NumZigs.j0 : Nat → Int → Int → Int → Int → Option (Bool)
  | 0, _, _, _, _ => none
  | k + 1, x0, x1, x5, x6 => if x6 < 0 then (concordancelaw1_NumZigs.j1 k x0 x1 x5 (wrap64 (-x6))) else (concordancelaw1_NumZigs.j1 k x0 x1 x5 x6)
def concordancelaw1_NumZigs.j1 : Nat → Int → Int → Int → Int → Option (Bool)
  | 0, _, _, _, _ => none
  | k + 1, x0, x1, x5, x6 => if x5 < x6 then ((num_Zig.f x0).bind fun t125 => ((num_Zig.f x1).bind fun t126 => (if t125 ≥ t126 then (concordancelaw1_NumZigs.j2 k x0 true) else (if x5 = x6 then (if x0 = x1 then (concordancelaw1_NumZigs.j2 k x0 false) else ((num_Zig.f x0).bind fun t125 => ((num_Zig.f x1).bind fun t126 => (concordancelaw1_NumZigs.j2 k x0 (t125 == t126))))) else (concordancelaw1_NumZigs.j2 k x0 false))))) else (if x5 = x6 then (if x0 = x1 then (concordancelaw1_NumZigs.j2 k x0 false) else ((num_Zig.f x0).bind fun t129 => ((num_Zig.f x1).bind fun t130 => (concordancelaw1_NumZigs.j2 k x0 (t129 == t130))))) else (concordancelaw1_NumZigs.j2 k x0 false))
def concordancelaw1_NumZigs.j2 : Nat → Int → Bool → Option (Bool)
  | 0, _, _ => none
  | k + 1, x0, x47 => if x47 = true then (some false) else ((num_Zig.f x0).bind fun t131 => ((num_Zag.f t131).bind fun t132 => (if t132 = x0 then ((num_Zig.f 0).bind fun t133 => (if t133 = 0 then (if x0 ≤ 0 then ((concordancelaw1_awake.f k).bind fun t134 => (some t134)) else ((num_Zig.f x0).bind fun t131 => ((num_Zig.f (wrap64 (-x0))).bind fun t136 => (if t131 = (IntKind.u64.wrap (t136 + 1)) then ((concordancelaw1_awake.f k).bind fun t137 => (some t137)) else (some false))))) else (some false))) else (some false))))
end
def concordancelaw1_NumZigs.f (k : Nat) (a0 : Int) (a1 : Int) : Option (Bool) := if (Int.tmod a0 4611686018427387904) < 0 then (concordancelaw1_NumZigs.j0 k (Int.tmod a0 4611686018427387904) (Int.tmod a1 4611686018427387904) (wrap64 (-(Int.tmod a0 4611686018427387904))) (Int.tmod a1 4611686018427387904)) else (concordancelaw1_NumZigs.j0 k (Int.tmod a0 4611686018427387904) (Int.tmod a1 4611686018427387904) (Int.tmod a0 4611686018427387904) (Int.tmod a1 4611686018427387904))
theorem concordancelaw1_NumZigs.mono_l : ∀ k, (∀ y0 y1 y2 y3, LeO (concordancelaw1_NumZigs.j0 k y0 y1 y2 y3) (concordancelaw1_NumZigs.j0 (k + 1) y0 y1 y2 y3)) ∧ (∀ y0 y1 y2 y3, LeO (concordancelaw1_NumZigs.j1 k y0 y1 y2 y3) (concordancelaw1_NumZigs.j1 (k + 1) y0 y1 y2 y3)) ∧ (∀ y0 y1, LeO (concordancelaw1_NumZigs.j2 k y0 y1) (concordancelaw1_NumZigs.j2 (k + 1) y0 y1))
  | 0 => ⟨fun _ _ _ _ r h => by simp [concordancelaw1_NumZigs.j0] at h, fun _ _ _ _ r h => by simp [concordancelaw1_NumZigs.j1] at h, fun _ _ r h => by simp [concordancelaw1_NumZigs.j2] at h⟩
  | k + 1 => by
    obtain ⟨ih0, ih1, ih2⟩ := concordancelaw1_NumZigs.mono_l k
    refine ⟨?_, ?_, ?_⟩
    · intro y0 y1 y2 y3
      unfold concordancelaw1_NumZigs.j0
      repeat' first
      | (with_reducible exact ih0 _ _ _ _)
      | (with_reducible exact ih1 _ _ _ _)
      | (with_reducible exact ih2 _ _)
      | (with_reducible exact concordancelaw1_awake.mono _)
      | (with_reducible exact LeO.refl _)
      | (with_reducible exact LeO.none _)
      | (with_reducible refine LeO.ite ?_ ?_)
      | (with_reducible refine LeO.bind ?_ (fun _ => ?_))
      | exact ih0 _ _ _ _
      | exact ih1 _ _ _ _
      | exact ih2 _ _
      | exact concordancelaw1_awake.mono _
      | exact LeO.none _
      | refine LeO.ite ?_ ?_
      | refine LeO.bind ?_ (fun _ => ?_)
    · intro y0 y1 y2 y3
      unfold concordancelaw1_NumZigs.j1
      repeat' first
      | (with_reducible exact ih0 _ _ _ _)
      | (with_reducible exact ih1 _ _ _ _)
      | (with_reducible exact ih2 _ _)
      | (with_reducible exact concordancelaw1_awake.mono _)
      | (with_reducible exact LeO.refl _)
      | (with_reducible exact LeO.none _)
      | (with_reducible refine LeO.ite ?_ ?_)
      | (with_reducible refine LeO.bind ?_ (fun _ => ?_))
      | exact ih0 _ _ _ _
      | exact ih1 _ _ _ _
      | exact ih2 _ _
      | exact concordancelaw1_awake.mono _
      | exact LeO.none _
      | refine LeO.ite ?_ ?_
      | refine LeO.bind ?_ (fun _ => ?_)
    · intro y0 y1
      unfold concordancelaw1_NumZigs.j2
      repeat' first
      | (with_reducible exact ih0 _ _ _ _)
      | (with_reducible exact ih1 _ _ _ _)
      | (with_reducible exact ih2 _ _)
      | (with_reducible exact concordancelaw1_awake.mono _)
      | (with_reducible exact LeO.refl _)
      | (with_reducible exact LeO.none _)
      | (with_reducible refine LeO.ite ?_ ?_)
      | (with_reducible refine LeO.bind ?_ (fun _ => ?_))
      | exact ih0 _ _ _ _
      | exact ih1 _ _ _ _
      | exact ih2 _ _
      | exact concordancelaw1_awake.mono _
      | exact LeO.none _
      | refine LeO.ite ?_ ?_
      | refine LeO.bind ?_ (fun _ => ?_)
theorem concordancelaw1_NumZigs.mono : ∀ a0 a1 k, LeO (concordancelaw1_NumZigs.f k a0 a1) (concordancelaw1_NumZigs.f (k + 1) a0 a1) := by
  intro a0 a1 k
  obtain ⟨ih0, ih1, ih2⟩ := concordancelaw1_NumZigs.mono_l k
  unfold concordancelaw1_NumZigs.f
  repeat' first
      | (with_reducible exact ih0 _ _ _ _)
      | (with_reducible exact ih1 _ _ _ _)
      | (with_reducible exact ih2 _ _)
      | (with_reducible exact concordancelaw1_awake.mono _)
      | (with_reducible exact LeO.refl _)
      | (with_reducible exact LeO.none _)
      | (with_reducible refine LeO.ite ?_ ?_)
      | (with_reducible refine LeO.bind ?_ (fun _ => ?_))
      | exact ih0 _ _ _ _
      | exact ih1 _ _ _ _
      | exact ih2 _ _
      | exact concordancelaw1_awake.mono _
      | exact LeO.none _
      | refine LeO.ite ?_ ?_
      | refine LeO.bind ?_ (fun _ => ?_)
set_option maxHeartbeats 8000000 in
set_option maxRecDepth 100000 in
theorem concordancelaw1_NumZigs.calls (k : Nat) (a0 : Int) (a1 : Int) (r : Bool) (w : World) (h : concordancelaw1_NumZigs.f k a0 a1 = some r) :
    Calls Try.prog 4 #[.int .i64 a0, .int .i64 a1] w fun e w' => e = .returned (.bool r) ∧ Below w.heap.size w w' := by
  have HB := Aside0.mk (Below.refl w.heap.size w)
  have H : (if (Int.tmod a0 4611686018427387904) < 0 then (concordancelaw1_NumZigs.j0 k (Int.tmod a0 4611686018427387904) (Int.tmod a1 4611686018427387904) (wrap64 (-(Int.tmod a0 4611686018427387904))) (Int.tmod a1 4611686018427387904)) else (concordancelaw1_NumZigs.j0 k (Int.tmod a0 4611686018427387904) (Int.tmod a1 4611686018427387904) (Int.tmod a0 4611686018427387904) (Int.tmod a1 4611686018427387904))) = some r := h
  clear h
  have HC3 := Aside0.mk H
  clear H
  go_enter Try.func4, Try.ntmps4
  go_upto_if 14 with (fail)
  go_cut [5] (fun v5 wc => ∃ (kq : Nat) (x5_2 : Int), v5 = .int .i64 x5_2 ∧ Aside0 (concordancelaw1_NumZigs.j0 kq (Int.tmod a0 4611686018427387904) (Int.tmod a1 4611686018427387904) x5_2 (Int.tmod a1 4611686018427387904) = some r) ∧ Aside0 (kq ≤ k) ∧ Aside0 (Below w.heap.size w wc))
  case first =>
    have H := HC3.out
    clear HC3
    by_cases c4 : (Int.tmod a0 4611686018427387904) < 0
    · rw [if_pos c4] at H
      have c4b0 : decide ((Int.tmod a0 4611686018427387904) < 0) = true := decide_eq_true c4
      clear c4
      (first | rw [c4b0] | (simp only [i64_w, i32_w]; rw [c4b0]) | skip)
      have H' := Aside0.mk H
      clear H
      go_wp2
      go_meet
      case rel => exact ⟨_, (wrap64 (-(Int.tmod a0 4611686018427387904))), (by first | rfl | (simp; done) | (simp [*]; done)), H', ⟨by first | omega | exact Nat.le_refl _⟩, ⟨by repeat (first | (with_reducible first | exact HB.out | apply below_alloc | apply pw_below_drewN | apply below_drew1) | exact HB.out)⟩⟩
    · rw [if_neg c4] at H
      have c4b0 : decide ((Int.tmod a0 4611686018427387904) < 0) = false := decide_eq_false c4
      clear c4
      (first | rw [c4b0] | (simp only [i64_w, i32_w]; rw [c4b0]) | skip)
      have H' := Aside0.mk H
      clear H
      go_wp2
      go_meet
      case rel => exact ⟨_, (Int.tmod a0 4611686018427387904), (by first | rfl | (simp; done) | (simp [*]; done)), H', ⟨by first | omega | exact Nat.le_refl _⟩, ⟨by repeat (first | (with_reducible first | exact HB.out | apply below_alloc | apply pw_below_drewN | apply below_drew1) | exact HB.out)⟩⟩
  case rest =>
    clear HC3
    try clear p2
    try clear c4
    try clear c4b0
    obtain ⟨kq, x5_2, rfl, HA, HJ2, HB⟩ := hcut
    cases kq with
    | zero => exact absurd HA.out (by simp [concordancelaw1_NumZigs.j0])
    | succ kj2 =>
      have H := HA.out
      clear HA
      simp only [concordancelaw1_NumZigs.j0] at H
      have HC5 := Aside0.mk H
      clear H
      go_upto_if 18 with (fail)
      go_cut [6] (fun v6 wc => ∃ (kq : Nat) (x6_4 : Int), v6 = .int .i64 x6_4 ∧ Aside0 (concordancelaw1_NumZigs.j1 kq (Int.tmod a0 4611686018427387904) (Int.tmod a1 4611686018427387904) x5_2 x6_4 = some r) ∧ Aside0 (kq ≤ kj2) ∧ Aside0 (Below w.heap.size w wc))
      case first =>
        have H := HC5.out
        clear HC5
        by_cases c6 : (Int.tmod a1 4611686018427387904) < 0
        · rw [if_pos c6] at H
          have c6b0 : decide ((Int.tmod a1 4611686018427387904) < 0) = true := decide_eq_true c6
          clear c6
          (first | rw [c6b0] | (simp only [i64_w, i32_w]; rw [c6b0]) | skip)
          have H' := Aside0.mk H
          clear H
          go_wp2
          go_meet
          case rel => exact ⟨_, (wrap64 (-(Int.tmod a1 4611686018427387904))), (by first | rfl | (simp; done) | (simp [*]; done)), H', ⟨by have := HJ2.out; first | omega | exact Nat.le_refl _⟩, ⟨by repeat (first | (with_reducible first | exact HB.out | apply below_alloc | apply pw_below_drewN | apply below_drew1) | exact HB.out)⟩⟩
        · rw [if_neg c6] at H
          have c6b0 : decide ((Int.tmod a1 4611686018427387904) < 0) = false := decide_eq_false c6
          clear c6
          (first | rw [c6b0] | (simp only [i64_w, i32_w]; rw [c6b0]) | skip)
          have H' := Aside0.mk H
          clear H
          go_wp2
          go_meet
          case rel => exact ⟨_, ((Int.tmod a1 4611686018427387904)), (by first | rfl | (simp; done) | (simp [*]; done)), H', ⟨by have := HJ2.out; first | omega | exact Nat.le_refl _⟩, ⟨by repeat (first | (with_reducible first | exact HB.out | apply below_alloc | apply pw_below_drewN | apply below_drew1) | exact HB.out)⟩⟩
      case rest =>
        clear HC5
        try clear p2
        try clear c4
        try clear c4b0
        try clear c6
        try clear c6b0
        try clear p6
        try clear p2
        obtain ⟨kq, x6_4, rfl, HA, HJ4, HB⟩ := hcut
        cases kq with
        | zero => exact absurd HA.out (by simp [concordancelaw1_NumZigs.j1])
        | succ kj4 =>
          have H := HA.out
          clear HA
          simp only [concordancelaw1_NumZigs.j1] at H
          have HC7 := Aside0.mk H
          clear H
          go_upto_region 7 with (fail)
          go_cut [47] (fun v47 wc => ∃ (kq : Nat) (x47_6 : Bool), v47 = .bool x47_6 ∧ Aside0 (concordancelaw1_NumZigs.j2 kq (Int.tmod a0 4611686018427387904) x47_6 = some r) ∧ Aside0 (kq ≤ kj4) ∧ Aside0 (Below w.heap.size w wc))
          case first =>
            have H := HC7.out
            clear HC7
            by_cases c8 : x5_2 < x6_4
            · rw [if_pos c8] at H
              have c8b0 : decide (x5_2 < x6_4) = true := decide_eq_true c8
              clear c8
              (first | rw [c8b0] | (simp only [i64_w, i32_w]; rw [c8b0]) | skip)
              replace H := Option.bind_eq_some_iff.mp H
              obtain ⟨t125, A90, H⟩ := H
              replace H : ((num_Zig.f (Int.tmod a1 4611686018427387904)).bind fun t126 => (if t125 ≥ t126 then (concordancelaw1_NumZigs.j2 kj4 (Int.tmod a0 4611686018427387904) true) else (if x5_2 = x6_4 then (if (Int.tmod a0 4611686018427387904) = (Int.tmod a1 4611686018427387904) then (concordancelaw1_NumZigs.j2 kj4 (Int.tmod a0 4611686018427387904) false) else ((num_Zig.f (Int.tmod a0 4611686018427387904)).bind fun t125 => ((num_Zig.f (Int.tmod a1 4611686018427387904)).bind fun t126 => (concordancelaw1_NumZigs.j2 kj4 (Int.tmod a0 4611686018427387904) (t125 == t126))))) else (concordancelaw1_NumZigs.j2 kj4 (Int.tmod a0 4611686018427387904) false)))) = some r := H
              have A9 := Aside0.mk A90
              clear A90
              replace H := Option.bind_eq_some_iff.mp H
              obtain ⟨t126, A100, H⟩ := H
              replace H : (if t125 ≥ t126 then (concordancelaw1_NumZigs.j2 kj4 (Int.tmod a0 4611686018427387904) true) else (if x5_2 = x6_4 then (if (Int.tmod a0 4611686018427387904) = (Int.tmod a1 4611686018427387904) then (concordancelaw1_NumZigs.j2 kj4 (Int.tmod a0 4611686018427387904) false) else ((num_Zig.f (Int.tmod a0 4611686018427387904)).bind fun t125 => ((num_Zig.f (Int.tmod a1 4611686018427387904)).bind fun t126 => (concordancelaw1_NumZigs.j2 kj4 (Int.tmod a0 4611686018427387904) (t125 == t126))))) else (concordancelaw1_NumZigs.j2 kj4 (Int.tmod a0 4611686018427387904) false))) = some r := H
              have A10 := Aside0.mk A100
              clear A100
              by_cases c11 : t125 ≥ t126
              · rw [if_pos c11] at H
                have c11b0 : decide (t126 ≤ t125) = true := decide_eq_true c11
                clear c11
                have H' := Aside0.mk H
                clear H
                go_wp2_with (first | (go_at_call 13; (with_reducible refine (num_Zig.calls (Int.tmod a0 4611686018427387904) t125 _ A9.out).mono ?_); rintro e w' ⟨rfl, ⟨nd, rfl⟩⟩) | (go_at_call 13; (with_reducible refine (num_Zig.calls (Int.tmod a1 4611686018427387904) t126 _ A10.out).mono ?_); rintro e w' ⟨rfl, ⟨nd, rfl⟩⟩))
                go_meet
                case rel => exact ⟨_, (true), (by first | rfl | (simp; done) | (simp [*]; done)), H', ⟨by have := HJ2.out; have := HJ4.out; first | omega | exact Nat.le_refl _⟩, ⟨by repeat (first | (with_reducible first | exact HB.out | apply below_alloc | apply pw_below_drewN | apply below_drew1) | exact HB.out)⟩⟩
              · rw [if_neg c11] at H
                have c11b0 : decide (t126 ≤ t125) = false := decide_eq_false c11
                clear c11
                by_cases c12 : x5_2 = x6_4
                · rw [if_pos c12] at H
                  have c12b0 : (x5_2 == x6_4) = true := beq_iff_eq.mpr c12
                  have c12b1 : (x5_2 != x6_4) = false := bne_eq_false_iff_eq.mpr c12
                  clear c12
                  by_cases c13 : (Int.tmod a0 4611686018427387904) = (Int.tmod a1 4611686018427387904)
                  · rw [if_pos c13] at H
                    have c13b0 : ((Int.tmod a0 4611686018427387904) == (Int.tmod a1 4611686018427387904)) = true := beq_iff_eq.mpr c13
                    have c13b1 : ((Int.tmod a0 4611686018427387904) != (Int.tmod a1 4611686018427387904)) = false := bne_eq_false_iff_eq.mpr c13
                    clear c13
                    have H' := Aside0.mk H
                    clear H
                    go_wp2_with (first | (go_at_call 13; (with_reducible refine (num_Zig.calls (Int.tmod a0 4611686018427387904) t125 _ A9.out).mono ?_); rintro e w' ⟨rfl, ⟨nd, rfl⟩⟩) | (go_at_call 13; (with_reducible refine (num_Zig.calls (Int.tmod a1 4611686018427387904) t126 _ A10.out).mono ?_); rintro e w' ⟨rfl, ⟨nd, rfl⟩⟩))
                    go_meet
                    case rel => exact ⟨_, (false), (by first | rfl | (simp; done) | (simp [*]; done)), H', ⟨by have := HJ2.out; have := HJ4.out; first | omega | exact Nat.le_refl _⟩, ⟨by repeat (first | (with_reducible first | exact HB.out | apply below_alloc | apply pw_below_drewN | apply below_drew1) | exact HB.out)⟩⟩
                  · rw [if_neg c13] at H
                    have c13b0 : ((Int.tmod a0 4611686018427387904) == (Int.tmod a1 4611686018427387904)) = false := beq_eq_false_iff_ne.mpr c13
                    have c13b1 : ((Int.tmod a0 4611686018427387904) != (Int.tmod a1 4611686018427387904)) = true := bne_iff_ne.mpr c13
                    replace H := Option.bind_eq_some_iff.mp H
                    obtain ⟨t125, A140, H⟩ := H
                    replace H : ((num_Zig.f (Int.tmod a1 4611686018427387904)).bind fun t126 => (concordancelaw1_NumZigs.j2 kj4 (Int.tmod a0 4611686018427387904) (t125 == t126))) = some r := H
                    have E_ := Option.some.inj (A140.symm.trans A9.out)
                    subst E_
                    have A14 := Aside0.mk A140
                    clear A140
                    replace H := Option.bind_eq_some_iff.mp H
                    obtain ⟨t126, A150, H⟩ := H
                    replace H : (concordancelaw1_NumZigs.j2 kj4 (Int.tmod a0 4611686018427387904) (t125 == t126)) = some r := H
                    have E_ := Option.some.inj (A150.symm.trans A10.out)
                    subst E_
                    have A15 := Aside0.mk A150
                    clear A150
                    have H' := Aside0.mk H
                    clear H
                    go_wp2_with (first | (go_at_call 13; (with_reducible refine (num_Zig.calls (Int.tmod a0 4611686018427387904) t125 _ A9.out).mono ?_); rintro e w' ⟨rfl, ⟨nd, rfl⟩⟩) | (go_at_call 13; (with_reducible refine (num_Zig.calls (Int.tmod a1 4611686018427387904) t126 _ A10.out).mono ?_); rintro e w' ⟨rfl, ⟨nd, rfl⟩⟩) | (go_at_call 13; (with_reducible refine (num_Zig.calls (Int.tmod a0 4611686018427387904) t125 _ A14.out).mono ?_); rintro e w' ⟨rfl, ⟨nd, rfl⟩⟩) | (go_at_call 13; (with_reducible refine (num_Zig.calls (Int.tmod a1 4611686018427387904) t126 _ A15.out).mono ?_); rintro e w' ⟨rfl, ⟨nd, rfl⟩⟩))
                    go_meet
                    case rel => exact ⟨_, ((t125 == t126)), (by first | rfl | (simp; done) | (simp [*]; done)), H', ⟨by have := HJ2.out; have := HJ4.out; first | omega | exact Nat.le_refl _⟩, ⟨by repeat (first | (with_reducible first | exact HB.out | apply below_alloc | apply pw_below_drewN | apply below_drew1) | exact HB.out)⟩⟩
                · rw [if_neg c12] at H
                  have c12b0 : (x5_2 == x6_4) = false := beq_eq_false_iff_ne.mpr c12
                  have c12b1 : (x5_2 != x6_4) = true := bne_iff_ne.mpr c12
                  have H' := Aside0.mk H
                  clear H
                  go_wp2_with (first | (go_at_call 13; (with_reducible refine (num_Zig.calls (Int.tmod a0 4611686018427387904) t125 _ A9.out).mono ?_); rintro e w' ⟨rfl, ⟨nd, rfl⟩⟩) | (go_at_call 13; (with_reducible refine (num_Zig.calls (Int.tmod a1 4611686018427387904) t126 _ A10.out).mono ?_); rintro e w' ⟨rfl, ⟨nd, rfl⟩⟩))
                  go_meet
                  case rel => exact ⟨_, (false), (by first | rfl | (simp; done) | (simp [*]; done)), H', ⟨by have := HJ2.out; have := HJ4.out; first | omega | exact Nat.le_refl _⟩, ⟨by repeat (first | (with_reducible first | exact HB.out | apply below_alloc | apply pw_below_drewN | apply below_drew1) | exact HB.out)⟩⟩
            · rw [if_neg c8] at H
              have c8b0 : decide (x5_2 < x6_4) = false := decide_eq_false c8
              clear c8
              (first | rw [c8b0] | (simp only [i64_w, i32_w]; rw [c8b0]) | skip)
              by_cases c16 : x5_2 = x6_4
              · rw [if_pos c16] at H
                have c16b0 : (x5_2 == x6_4) = true := beq_iff_eq.mpr c16
                have c16b1 : (x5_2 != x6_4) = false := bne_eq_false_iff_eq.mpr c16
                clear c16
                by_cases c17 : (Int.tmod a0 4611686018427387904) = (Int.tmod a1 4611686018427387904)
                · rw [if_pos c17] at H
                  have c17b0 : ((Int.tmod a0 4611686018427387904) == (Int.tmod a1 4611686018427387904)) = true := beq_iff_eq.mpr c17
                  have c17b1 : ((Int.tmod a0 4611686018427387904) != (Int.tmod a1 4611686018427387904)) = false := bne_eq_false_iff_eq.mpr c17
                  clear c17
                  have H' := Aside0.mk H
                  clear H
                  go_wp2
                  go_meet
                  case rel => exact ⟨_, (false), (by first | rfl | (simp; done) | (simp [*]; done)), H', ⟨by have := HJ2.out; have := HJ4.out; first | omega | exact Nat.le_refl _⟩, ⟨by repeat (first | (with_reducible first | exact HB.out | apply below_alloc | apply pw_below_drewN | apply below_drew1) | exact HB.out)⟩⟩
                · rw [if_neg c17] at H
                  have c17b0 : ((Int.tmod a0 4611686018427387904) == (Int.tmod a1 4611686018427387904)) = false := beq_eq_false_iff_ne.mpr c17
                  have c17b1 : ((Int.tmod a0 4611686018427387904) != (Int.tmod a1 4611686018427387904)) = true := bne_iff_ne.mpr c17
                  replace H := Option.bind_eq_some_iff.mp H
                  obtain ⟨t129, A180, H⟩ := H
                  replace H : ((num_Zig.f (Int.tmod a1 4611686018427387904)).bind fun t130 => (concordancelaw1_NumZigs.j2 kj4 (Int.tmod a0 4611686018427387904) (t129 == t130))) = some r := H
                  have A18 := Aside0.mk A180
                  clear A180
                  replace H := Option.bind_eq_some_iff.mp H
                  obtain ⟨t130, A190, H⟩ := H
                  replace H : (concordancelaw1_NumZigs.j2 kj4 (Int.tmod a0 4611686018427387904) (t129 == t130)) = some r := H
                  have A19 := Aside0.mk A190
                  clear A190
                  have H' := Aside0.mk H
                  clear H
                  go_wp2_with (first | (go_at_call 13; (with_reducible refine (num_Zig.calls (Int.tmod a0 4611686018427387904) t129 _ A18.out).mono ?_); rintro e w' ⟨rfl, ⟨nd, rfl⟩⟩) | (go_at_call 13; (with_reducible refine (num_Zig.calls (Int.tmod a1 4611686018427387904) t130 _ A19.out).mono ?_); rintro e w' ⟨rfl, ⟨nd, rfl⟩⟩))
                  go_meet
                  case rel => exact ⟨_, ((t129 == t130)), (by first | rfl | (simp; done) | (simp [*]; done)), H', ⟨by have := HJ2.out; have := HJ4.out; first | omega | exact Nat.le_refl _⟩, ⟨by repeat (first | (with_reducible first | exact HB.out | apply below_alloc | apply pw_below_drewN | apply below_drew1) | exact HB.out)⟩⟩
              · rw [if_neg c16] at H
                have c16b0 : (x5_2 == x6_4) = false := beq_eq_false_iff_ne.mpr c16
                have c16b1 : (x5_2 != x6_4) = true := bne_iff_ne.mpr c16
                have H' := Aside0.mk H
                clear H
                go_wp2
                go_meet
                case rel => exact ⟨_, (false), (by first | rfl | (simp; done) | (simp [*]; done)), H', ⟨by have := HJ2.out; have := HJ4.out; first | omega | exact Nat.le_refl _⟩, ⟨by repeat (first | (with_reducible first | exact HB.out | apply below_alloc | apply pw_below_drewN | apply below_drew1) | exact HB.out)⟩⟩
          case rest =>
            clear HC7
            try clear c1
            try clear p2
            try clear c4
            try clear c4b0
            try clear c6
            try clear c6b0
            try clear p6
            try clear c8
            try clear c8b0
            try clear c11
            try clear c11b0
            try clear c12
            try clear c12b0
            try clear c12b1
            try clear c13
            try clear c13b0
            try clear c13b1
            try clear c16
            try clear c16b0
            try clear c16b1
            try clear c17
            try clear c17b0
            try clear c17b1
            try clear p2
            try clear p6
            obtain ⟨kq, x47_6, rfl, HA, HJ6, HB⟩ := hcut
            cases kq with
            | zero => exact absurd HA.out (by simp [concordancelaw1_NumZigs.j2])
            | succ kj6 =>
              have H := HA.out
              clear HA
              simp only [concordancelaw1_NumZigs.j2] at H
              by_cases c20 : x47_6 = true
              · subst c20
                have H1 : (some false) = some r := by rw [if_pos rfl] at H; exact H
                clear H
                have H := H1
                clear H1
                obtain rfl := Option.some.inj H
                go_wp2
                go_ret
                exact ⟨by first | rfl | (simp [errW_none, errW_some] <;> rfl) | (simp [*, errW_none, errW_some] <;> rfl), by repeat (first | (with_reducible first | exact HB.out | apply below_alloc | apply pw_below_drewN | apply below_drew1) | exact HB.out)⟩
              · replace c20 := Bool.eq_false_iff.mpr c20
                subst c20
                have H1 : ((num_Zig.f (Int.tmod a0 4611686018427387904)).bind fun t131 => ((num_Zag.f t131).bind fun t132 => (if t132 = (Int.tmod a0 4611686018427387904) then ((num_Zig.f 0).bind fun t133 => (if t133 = 0 then (if (Int.tmod a0 4611686018427387904) ≤ 0 then ((concordancelaw1_awake.f kj6).bind fun t134 => (some t134)) else ((num_Zig.f (Int.tmod a0 4611686018427387904)).bind fun t131 => ((num_Zig.f (wrap64 (-(Int.tmod a0 4611686018427387904)))).bind fun t136 => (if t131 = (IntKind.u64.wrap (t136 + 1)) then ((concordancelaw1_awake.f kj6).bind fun t137 => (some t137)) else (some false))))) else (some false))) else (some false)))) = some r := by rw [if_neg (show ¬ (false = true) by decide)] at H; exact H
                clear H
                have H := H1
                clear H1
                replace H := Option.bind_eq_some_iff.mp H
                obtain ⟨t131, A210, H⟩ := H
                replace H : ((num_Zag.f t131).bind fun t132 => (if t132 = (Int.tmod a0 4611686018427387904) then ((num_Zig.f 0).bind fun t133 => (if t133 = 0 then (if (Int.tmod a0 4611686018427387904) ≤ 0 then ((concordancelaw1_awake.f kj6).bind fun t134 => (some t134)) else ((num_Zig.f (Int.tmod a0 4611686018427387904)).bind fun t131 => ((num_Zig.f (wrap64 (-(Int.tmod a0 4611686018427387904)))).bind fun t136 => (if t131 = (IntKind.u64.wrap (t136 + 1)) then ((concordancelaw1_awake.f kj6).bind fun t137 => (some t137)) else (some false))))) else (some false))) else (some false))) = some r := H
                have A21 := Aside0.mk A210
                clear A210
                replace H := Option.bind_eq_some_iff.mp H
                obtain ⟨t132, A220, H⟩ := H
                replace H : (if t132 = (Int.tmod a0 4611686018427387904) then ((num_Zig.f 0).bind fun t133 => (if t133 = 0 then (if (Int.tmod a0 4611686018427387904) ≤ 0 then ((concordancelaw1_awake.f kj6).bind fun t134 => (some t134)) else ((num_Zig.f (Int.tmod a0 4611686018427387904)).bind fun t131 => ((num_Zig.f (wrap64 (-(Int.tmod a0 4611686018427387904)))).bind fun t136 => (if t131 = (IntKind.u64.wrap (t136 + 1)) then ((concordancelaw1_awake.f kj6).bind fun t137 => (some t137)) else (some false))))) else (some false))) else (some false)) = some r := H
                have A22 := Aside0.mk A220
                clear A220
                by_cases c23 : t132 = (Int.tmod a0 4611686018427387904)
                · rw [if_pos c23] at H
                  have c23b0 : (t132 == (Int.tmod a0 4611686018427387904)) = true := beq_iff_eq.mpr c23
                  have c23b1 : (t132 != (Int.tmod a0 4611686018427387904)) = false := bne_eq_false_iff_eq.mpr c23
                  clear c23
                  replace H := Option.bind_eq_some_iff.mp H
                  obtain ⟨t133, A240, H⟩ := H
                  replace H : (if t133 = 0 then (if (Int.tmod a0 4611686018427387904) ≤ 0 then ((concordancelaw1_awake.f kj6).bind fun t134 => (some t134)) else ((num_Zig.f (Int.tmod a0 4611686018427387904)).bind fun t131 => ((num_Zig.f (wrap64 (-(Int.tmod a0 4611686018427387904)))).bind fun t136 => (if t131 = (IntKind.u64.wrap (t136 + 1)) then ((concordancelaw1_awake.f kj6).bind fun t137 => (some t137)) else (some false))))) else (some false)) = some r := H
                  have A24 := Aside0.mk A240
                  clear A240
                  by_cases c25 : t133 = 0
                  · rw [if_pos c25] at H
                    have c25b0 : (t133 == 0) = true := beq_iff_eq.mpr c25
                    have c25b1 : (t133 != 0) = false := bne_eq_false_iff_eq.mpr c25
                    clear c25
                    by_cases c26 : (Int.tmod a0 4611686018427387904) ≤ 0
                    · rw [if_pos c26] at H
                      have c26b0 : decide ((Int.tmod a0 4611686018427387904) ≤ 0) = true := decide_eq_true c26
                      clear c26
                      replace H := Option.bind_eq_some_iff.mp H
                      obtain ⟨t134, A270, H⟩ := H
                      replace H : (some t134) = some r := H
                      have A27 := Aside0.mk A270
                      clear A270
                      obtain rfl := Option.some.inj H
                      go_wp2_with (first | ((with_reducible refine gate_callee (f := 13) rfl ?_); refine goesL_ (some 49) rfl rfl Try.func13 (by kernel_rfl) rfl #[.int .i64 (Int.tmod a0 4611686018427387904)] rfl (by (try simp only [List.map_toArray, List.map_cons, List.map_nil]); first | done | rfl | (simp only [List.length_drop, List.length_take]; rfl)) ?_; (with_reducible refine (num_Zig.calls (Int.tmod a0 4611686018427387904) t131 _ A21.out).mono ?_); rintro e w' ⟨rfl, ⟨nd, rfl⟩⟩; refine ⟨_, rfl, ?_⟩) | ((with_reducible refine gate_callee (f := 14) rfl ?_); refine goesL_ (some 50) rfl rfl Try.func14 (by kernel_rfl) rfl #[.int .u64 t131] rfl (by (try simp only [List.map_toArray, List.map_cons, List.map_nil]); first | done | rfl | (simp only [List.length_drop, List.length_take]; rfl)) ?_; (with_reducible refine (num_Zag.calls t131 t132 _ A22.out).mono ?_); rintro e w' ⟨rfl, ⟨nd, rfl⟩⟩; refine ⟨_, rfl, ?_⟩) | (go_at_call 13; (with_reducible refine (num_Zig.calls 0 t133 _ A24.out).mono ?_); rintro e w' ⟨rfl, ⟨nd, rfl⟩⟩) | (go_at_call 12; (with_reducible refine (concordancelaw1_awake.calls kj6  t134 _ A27.out).mono ?_); rintro e w28 ⟨rfl, hb⟩; have n0_ := Aside0.mk (below_step (by repeat (first | (with_reducible first | exact HB.out | apply below_alloc | apply pw_below_drewN | apply below_drew1) | exact HB.out)) hb); clear HB; have HB := n0_; clear n0_; (try clear hb); (try clear hb2); (try clear hk); (try clear hi)))
                      go_ret
                      exact ⟨by first | rfl | (simp [errW_none, errW_some] <;> rfl) | (simp [*, errW_none, errW_some] <;> rfl), by repeat (first | (with_reducible first | exact HB.out | apply below_alloc | apply pw_below_drewN | apply below_drew1) | exact HB.out)⟩
                    · rw [if_neg c26] at H
                      have c26b0 : decide ((Int.tmod a0 4611686018427387904) ≤ 0) = false := decide_eq_false c26
                      clear c26
                      replace H := Option.bind_eq_some_iff.mp H
                      obtain ⟨t131, A290, H⟩ := H
                      replace H : ((num_Zig.f (wrap64 (-(Int.tmod a0 4611686018427387904)))).bind fun t136 => (if t131 = (IntKind.u64.wrap (t136 + 1)) then ((concordancelaw1_awake.f kj6).bind fun t137 => (some t137)) else (some false))) = some r := H
                      have E_ := Option.some.inj (A290.symm.trans A21.out)
                      subst E_
                      have A29 := Aside0.mk A290
                      clear A290
                      replace H := Option.bind_eq_some_iff.mp H
                      obtain ⟨t136, A300, H⟩ := H
                      replace H : (if t131 = (IntKind.u64.wrap (t136 + 1)) then ((concordancelaw1_awake.f kj6).bind fun t137 => (some t137)) else (some false)) = some r := H
                      have A30 := Aside0.mk A300
                      clear A300
                      by_cases c31 : t131 = (IntKind.u64.wrap (t136 + 1))
                      · rw [if_pos c31] at H
                        have c31b0 : (t131 == (IntKind.u64.wrap (t136 + 1))) = true := beq_iff_eq.mpr c31
                        have c31b1 : (t131 != (IntKind.u64.wrap (t136 + 1))) = false := bne_eq_false_iff_eq.mpr c31
                        clear c31
                        replace H := Option.bind_eq_some_iff.mp H
                        obtain ⟨t137, A320, H⟩ := H
                        replace H : (some t137) = some r := H
                        have A32 := Aside0.mk A320
                        clear A320
                        obtain rfl := Option.some.inj H
                        go_wp2_with (first | ((with_reducible refine gate_callee (f := 13) rfl ?_); refine goesL_ (some 49) rfl rfl Try.func13 (by kernel_rfl) rfl #[.int .i64 (Int.tmod a0 4611686018427387904)] rfl (by (try simp only [List.map_toArray, List.map_cons, List.map_nil]); first | done | rfl | (simp only [List.length_drop, List.length_take]; rfl)) ?_; (with_reducible refine (num_Zig.calls (Int.tmod a0 4611686018427387904) t131 _ A21.out).mono ?_); rintro e w' ⟨rfl, ⟨nd, rfl⟩⟩; refine ⟨_, rfl, ?_⟩) | ((with_reducible refine gate_callee (f := 14) rfl ?_); refine goesL_ (some 50) rfl rfl Try.func14 (by kernel_rfl) rfl #[.int .u64 t131] rfl (by (try simp only [List.map_toArray, List.map_cons, List.map_nil]); first | done | rfl | (simp only [List.length_drop, List.length_take]; rfl)) ?_; (with_reducible refine (num_Zag.calls t131 t132 _ A22.out).mono ?_); rintro e w' ⟨rfl, ⟨nd, rfl⟩⟩; refine ⟨_, rfl, ?_⟩) | (go_at_call 13; (with_reducible refine (num_Zig.calls 0 t133 _ A24.out).mono ?_); rintro e w' ⟨rfl, ⟨nd, rfl⟩⟩) | (go_at_call 13; (with_reducible refine (num_Zig.calls (Int.tmod a0 4611686018427387904) t131 _ A29.out).mono ?_); rintro e w' ⟨rfl, ⟨nd, rfl⟩⟩) | (go_at_call 13; (with_reducible refine (num_Zig.calls (wrap64 (-(Int.tmod a0 4611686018427387904))) t136 _ A30.out).mono ?_); rintro e w' ⟨rfl, ⟨nd, rfl⟩⟩) | (go_at_call 12; (with_reducible refine (concordancelaw1_awake.calls kj6  t137 _ A32.out).mono ?_); rintro e w33 ⟨rfl, hb⟩; have n0_ := Aside0.mk (below_step (by repeat (first | (with_reducible first | exact HB.out | apply below_alloc | apply pw_below_drewN | apply below_drew1) | exact HB.out)) hb); clear HB; have HB := n0_; clear n0_; (try clear hb); (try clear hb2); (try clear hk); (try clear hi)))
                        go_ret
                        exact ⟨by first | rfl | (simp [errW_none, errW_some] <;> rfl) | (simp [*, errW_none, errW_some] <;> rfl), by repeat (first | (with_reducible first | exact HB.out | apply below_alloc | apply pw_below_drewN | apply below_drew1) | exact HB.out)⟩
                      · rw [if_neg c31] at H
                        have c31b0 : (t131 == (IntKind.u64.wrap (t136 + 1))) = false := beq_eq_false_iff_ne.mpr c31
                        have c31b1 : (t131 != (IntKind.u64.wrap (t136 + 1))) = true := bne_iff_ne.mpr c31
                        obtain rfl := Option.some.inj H
                        go_wp2_with (first | ((with_reducible refine gate_callee (f := 13) rfl ?_); refine goesL_ (some 49) rfl rfl Try.func13 (by kernel_rfl) rfl #[.int .i64 (Int.tmod a0 4611686018427387904)] rfl (by (try simp only [List.map_toArray, List.map_cons, List.map_nil]); first | done | rfl | (simp only [List.length_drop, List.length_take]; rfl)) ?_; (with_reducible refine (num_Zig.calls (Int.tmod a0 4611686018427387904) t131 _ A21.out).mono ?_); rintro e w' ⟨rfl, ⟨nd, rfl⟩⟩; refine ⟨_, rfl, ?_⟩) | ((with_reducible refine gate_callee (f := 14) rfl ?_); refine goesL_ (some 50) rfl rfl Try.func14 (by kernel_rfl) rfl #[.int .u64 t131] rfl (by (try simp only [List.map_toArray, List.map_cons, List.map_nil]); first | done | rfl | (simp only [List.length_drop, List.length_take]; rfl)) ?_; (with_reducible refine (num_Zag.calls t131 t132 _ A22.out).mono ?_); rintro e w' ⟨rfl, ⟨nd, rfl⟩⟩; refine ⟨_, rfl, ?_⟩) | (go_at_call 13; (with_reducible refine (num_Zig.calls 0 t133 _ A24.out).mono ?_); rintro e w' ⟨rfl, ⟨nd, rfl⟩⟩) | (go_at_call 13; (with_reducible refine (num_Zig.calls (Int.tmod a0 4611686018427387904) t131 _ A29.out).mono ?_); rintro e w' ⟨rfl, ⟨nd, rfl⟩⟩) | (go_at_call 13; (with_reducible refine (num_Zig.calls (wrap64 (-(Int.tmod a0 4611686018427387904))) t136 _ A30.out).mono ?_); rintro e w' ⟨rfl, ⟨nd, rfl⟩⟩))
                        go_ret
                        exact ⟨by first | rfl | (simp [errW_none, errW_some] <;> rfl) | (simp [*, errW_none, errW_some] <;> rfl), by repeat (first | (with_reducible first | exact HB.out | apply below_alloc | apply pw_below_drewN | apply below_drew1) | exact HB.out)⟩
                  · rw [if_neg c25] at H
                    have c25b0 : (t133 == 0) = false := beq_eq_false_iff_ne.mpr c25
                    have c25b1 : (t133 != 0) = true := bne_iff_ne.mpr c25
                    obtain rfl := Option.some.inj H
                    go_wp2_with (first | ((with_reducible refine gate_callee (f := 13) rfl ?_); refine goesL_ (some 49) rfl rfl Try.func13 (by kernel_rfl) rfl #[.int .i64 (Int.tmod a0 4611686018427387904)] rfl (by (try simp only [List.map_toArray, List.map_cons, List.map_nil]); first | done | rfl | (simp only [List.length_drop, List.length_take]; rfl)) ?_; (with_reducible refine (num_Zig.calls (Int.tmod a0 4611686018427387904) t131 _ A21.out).mono ?_); rintro e w' ⟨rfl, ⟨nd, rfl⟩⟩; refine ⟨_, rfl, ?_⟩) | ((with_reducible refine gate_callee (f := 14) rfl ?_); refine goesL_ (some 50) rfl rfl Try.func14 (by kernel_rfl) rfl #[.int .u64 t131] rfl (by (try simp only [List.map_toArray, List.map_cons, List.map_nil]); first | done | rfl | (simp only [List.length_drop, List.length_take]; rfl)) ?_; (with_reducible refine (num_Zag.calls t131 t132 _ A22.out).mono ?_); rintro e w' ⟨rfl, ⟨nd, rfl⟩⟩; refine ⟨_, rfl, ?_⟩) | (go_at_call 13; (with_reducible refine (num_Zig.calls 0 t133 _ A24.out).mono ?_); rintro e w' ⟨rfl, ⟨nd, rfl⟩⟩))
                    go_ret
                    exact ⟨by first | rfl | (simp [errW_none, errW_some] <;> rfl) | (simp [*, errW_none, errW_some] <;> rfl), by repeat (first | (with_reducible first | exact HB.out | apply below_alloc | apply pw_below_drewN | apply below_drew1) | exact HB.out)⟩
                · rw [if_neg c23] at H
                  have c23b0 : (t132 == (Int.tmod a0 4611686018427387904)) = false := beq_eq_false_iff_ne.mpr c23
                  have c23b1 : (t132 != (Int.tmod a0 4611686018427387904)) = true := bne_iff_ne.mpr c23
                  obtain rfl := Option.some.inj H
                  go_wp2_with (first | ((with_reducible refine gate_callee (f := 13) rfl ?_); refine goesL_ (some 49) rfl rfl Try.func13 (by kernel_rfl) rfl #[.int .i64 (Int.tmod a0 4611686018427387904)] rfl (by (try simp only [List.map_toArray, List.map_cons, List.map_nil]); first | done | rfl | (simp only [List.length_drop, List.length_take]; rfl)) ?_; (with_reducible refine (num_Zig.calls (Int.tmod a0 4611686018427387904) t131 _ A21.out).mono ?_); rintro e w' ⟨rfl, ⟨nd, rfl⟩⟩; refine ⟨_, rfl, ?_⟩) | ((with_reducible refine gate_callee (f := 14) rfl ?_); refine goesL_ (some 50) rfl rfl Try.func14 (by kernel_rfl) rfl #[.int .u64 t131] rfl (by (try simp only [List.map_toArray, List.map_cons, List.map_nil]); first | done | rfl | (simp only [List.length_drop, List.length_take]; rfl)) ?_; (with_reducible refine (num_Zag.calls t131 t132 _ A22.out).mono ?_); rintro e w' ⟨rfl, ⟨nd, rfl⟩⟩; refine ⟨_, rfl, ?_⟩))
                  go_ret
                  exact ⟨by first | rfl | (simp [errW_none, errW_some] <;> rfl) | (simp [*, errW_none, errW_some] <;> rfl), by repeat (first | (with_reducible first | exact HB.out | apply below_alloc | apply pw_below_drewN | apply below_drew1) | exact HB.out)⟩

/-- THE ONE PURE STATEMENT of concordancelaw1_NumZigs: yours. -/
def concordancelaw1_NumZigs.Pure : Prop := ∀ (a0 : Int) (a1 : Int), (Lit.int .i64 a0).wf = true → (Lit.int .i64 a1).wf = true → ∃ k, concordancelaw1_NumZigs.f k a0 a1 = some true
theorem concordancelaw1_NumZigs.walk (P : concordancelaw1_NumZigs.Pure) (a0 : Int) (a1 : Int) (w : World) (w0 : (Lit.int .i64 a0).wf = true) (w1 : (Lit.int .i64 a1).wf = true) :
    Calls Try.prog 4 #[.int .i64 a0, .int .i64 a1] w fun e w' => e = .returned (.bool true) ∧ Below w.heap.size w w' := by
  obtain ⟨k, h⟩ := P a0 a1 w0 w1
  refine (concordancelaw1_NumZigs.calls k a0 a1 true w h).mono ?_
  rintro e w' ⟨rfl, hd⟩
  exact ⟨rfl, hd⟩

end Go.Proofs.Ytpcjdgmjlnlfgaa.PNum
