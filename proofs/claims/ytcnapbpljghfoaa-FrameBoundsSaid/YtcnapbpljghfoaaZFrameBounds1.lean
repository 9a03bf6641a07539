/- Texts of this seat, one behind the other: what concordance's FrameBounds reaches. -/
import Derived.Test.YtcnapbpljghfoaaZFrameBounds0
/- Printed by a program of this session (drv.py) from the translation of this seat: functions, their contracts, rows. -/
namespace Go.Proofs.Ytcnapbpljghfoaa.PCrc
open Go.RowKit Go.Proofs.YtcnapbpljghfoaaW.PrintWords Go.Proofs.YtcnapbpljghfoaaW.PrintLast Go.Proofs.YtcnapbpljghfoaaW.PrintMore
attribute [local go_sem] max2_int min2_int max_two min_two max_three min_three max_four min_four   -- for this text's walks alone
set_option linter.unusedVariables false
set_option linter.unusedSimpArgs false

/-! ### concordancelaw3_awake: function 10 -/
def concordancelaw3_awake.f (k : Nat)  : Option (Bool) := (frame_Put.f k ([] : List Int) 1 ([] : List Int)).bind fun bt133 => ((frame_Take.f bt133.1 0).bind fun bt137 => (if (bt133.1.length : Int) = 12 then (if bt133.2 = 0 then (if bt137.1 = 1 then (if (bt137.2.1.length : Int) = 0 then (if bt137.2.2.1 = 12 then (if bt137.2.2.2 = 0 then ((frame_Size.f 5).bind fun t144 => (some (t144 == 17))) else (some false)) else (some false)) else (some false)) else (some false)) else (some false)) else (some false)))
theorem concordancelaw3_awake.mono : ∀ k, LeO (concordancelaw3_awake.f k ) (concordancelaw3_awake.f (k + 1) ) := by
  intro  k
  unfold concordancelaw3_awake.f
  repeat' first
      | (with_reducible exact frame_Put.mono _ _ _ _)
      | (with_reducible exact LeO.refl _)
      | (with_reducible exact LeO.none _)
      | (with_reducible refine LeO.ite ?_ ?_)
      | (with_reducible refine LeO.bind ?_ (fun _ => ?_))
      | exact frame_Put.mono _ _ _ _
      | exact LeO.none _
      | refine LeO.ite ?_ ?_
      | refine LeO.bind ?_ (fun _ => ?_)
set_option maxHeartbeats 8000000 in
set_option maxRecDepth 100000 in
theorem concordancelaw3_awake.calls (k : Nat)  (r : Bool) (w : World) (h : concordancelaw3_awake.f k  = some r) :
    Calls Try.prog 10 #[] w fun e w' => e = .returned (.bool r) ∧ Below w.heap.size w w' := by
  have hu29 := Try.underlying29
  have HB := Aside0.mk (Below.refl w.heap.size w)
  have H : ((frame_Put.f k ([] : List Int) 1 ([] : List Int)).bind fun bt133 => ((frame_Take.f bt133.1 0).bind fun bt137 => (if (bt133.1.length : Int) = 12 then (if bt133.2 = 0 then (if bt137.1 = 1 then (if (bt137.2.1.length : Int) = 0 then (if bt137.2.2.1 = 12 then (if bt137.2.2.2 = 0 then ((frame_Size.f 5).bind fun t144 => (some (t144 == 17))) else (some false)) else (some false)) else (some false)) else (some false)) else (some false)) else (some false)))) = some r := h
  clear h
  replace H := Option.bind_eq_some_iff.mp H
  obtain ⟨⟨t133, t136⟩, A10, H⟩ := H
  replace H : ((frame_Take.f t133 0).bind fun bt137 => (if (t133.length : Int) = 12 then (if t136 = 0 then (if bt137.1 = 1 then (if (bt137.2.1.length : Int) = 0 then (if bt137.2.2.1 = 12 then (if bt137.2.2.2 = 0 then ((frame_Size.f 5).bind fun t144 => (some (t144 == 17))) else (some false)) else (some false)) else (some false)) else (some false)) else (some false)) else (some false))) = some r := H
  have A1 := Aside0.mk A10
  clear A10
  replace H := Option.bind_eq_some_iff.mp H
  obtain ⟨⟨t137, t138, t141, t142⟩, A20, H⟩ := H
  replace H : (if (t133.length : Int) = 12 then (if t136 = 0 then (if t137 = 1 then (if (t138.length : Int) = 0 then (if t141 = 12 then (if t142 = 0 then ((frame_Size.f 5).bind fun t144 => (some (t144 == 17))) else (some false)) else (some false)) else (some false)) else (some false)) else (some false)) else (some false)) = some r := H
  have A2 := Aside0.mk A20
  clear A20
  by_cases c3 : (t133.length : Int) = 12
  · rw [if_pos c3] at H
    have c3b0 : ((t133.length : Int) == 12) = true := beq_iff_eq.mpr c3
    have c3b1 : ((t133.length : Int) != 12) = false := bne_eq_false_iff_eq.mpr c3
    clear c3
    by_cases c4 : t136 = 0
    · rw [if_pos c4] at H
      have c4b0 : (t136 == 0) = true := beq_iff_eq.mpr c4
      have c4b1 : (t136 != 0) = false := bne_eq_false_iff_eq.mpr c4
      clear c4
      by_cases c5 : t137 = 1
      · rw [if_pos c5] at H
        have c5b0 : (t137 == 1) = true := beq_iff_eq.mpr c5
        have c5b1 : (t137 != 1) = false := bne_eq_false_iff_eq.mpr c5
        clear c5
        by_cases c6 : (t138.length : Int) = 0
        · rw [if_pos c6] at H
          have c6b0 : ((t138.length : Int) == 0) = true := beq_iff_eq.mpr c6
          have c6b1 : ((t138.length : Int) != 0) = false := bne_eq_false_iff_eq.mpr c6
          clear c6
          by_cases c7 : t141 = 12
          · rw [if_pos c7] at H
            have c7b0 : (t141 == 12) = true := beq_iff_eq.mpr c7
            have c7b1 : (t141 != 12) = false := bne_eq_false_iff_eq.mpr c7
            clear c7
            by_cases c8 : t142 = 0
            · rw [if_pos c8] at H
              have c8b0 : (t142 == 0) = true := beq_iff_eq.mpr c8
              have c8b1 : (t142 != 0) = false := bne_eq_false_iff_eq.mpr c8
              clear c8
              replace H := Option.bind_eq_some_iff.mp H
              obtain ⟨t144, A90, H⟩ := H
              replace H : (some (t144 == 17)) = some r := H
              have A9 := Aside0.mk A90
              clear A90
              obtain rfl := Option.some.inj H
              go_enter Try.func10, Try.ntmps10
              go_wp2_with (first | ((with_reducible refine gate_callee (f := 11) rfl ?_); refine goesL_ (some 7) rfl rfl Try.func11 (by kernel_rfl) rfl #[.slice none 0 0, .int .i64 1, .slice none 0 0] rfl (by (try simp only [List.map_toArray, List.map_cons, List.map_nil]); first | done | rfl | (simp only [List.length_drop, List.length_take]; rfl)) ?_; (refine (frame_Put.calls k (fun k_ => False) _ _ ([] : List Int) 1 _ _ ([] : List Int) t133 t136 _ ?side1 ?side2 ?side3 A1.out).mono ?_); (case side1 => exact Kd.V_nil _ _ _ _ _); (case side2 => exact Kd.C_nil _ _); (case side3 => exact Nat.le_refl _); rintro e w10 ⟨v134, rfl, ho0, hb⟩; refine ⟨_, rfl, ?_⟩; have n0_ := Aside0.mk (Kd.R_lower (Kd.R_mono (ok' := fun k_ => True) ho0 (fun _ hk_ => trivial)) (below_size (by repeat (first | (with_reducible first | exact HB.out | apply below_alloc | apply pw_below_drewN | apply below_drew1) | exact HB.out)))); have n1_ := Aside0.mk (below_step (by repeat (first | (with_reducible first | exact HB.out | apply below_alloc | apply pw_below_drewN | apply below_drew1) | exact HB.out)) hb); clear HB; have HO135 := n0_; have HB := n1_; clear n0_ n1_; (try clear hb); (try clear hb2); (try clear hk); (try clear hi); (try clear ho0); obtain ⟨Ao11, co11, eo11⟩ := Kd.R_slice HO135.out; subst eo11) | ((with_reducible refine gate_callee (f := 13) rfl ?_); refine goesL_ (some 12) rfl rfl Try.func13 (by kernel_rfl) rfl #[.slice Ao11 t133.length co11, .int .i64 0] rfl (by (try simp only [List.map_toArray, List.map_cons, List.map_nil]); first | done | rfl | (simp only [List.length_drop, List.length_take]; rfl)) ?_; (with_reducible refine (frame_Take.calls _ _ t133 0 t137 t138 t141 t142 _ ?side1 ?side2 A2.out).mono ?_); (case side1 => repeat (first | exact (Kd.R_reads' HO135.out).2.2 | (with_reducible refine Kd.C_alloc ?_ _) | (with_reducible refine Kd.C_drewN ?_ _) | (with_reducible refine Kd.C_drew ?_))); (case side2 => exact (Kd.R_reads' HO135.out).2.1); rintro e w12 ⟨v139, rfl, ho0, hb⟩; refine ⟨_, rfl, ?_⟩; have n0_ := Aside0.mk (Kd.R_below (by (with_reducible repeat (first | apply Kd.R_alloc | apply Kd.R_drewN | apply Kd.R_drew)); exact HO135.out) hb); have n1_ := Aside0.mk (Kd.V_lower (Kd.V_mono (ok' := fun k_ => some k_ ≠ (.slice Ao11 t133.length co11 : Value).ownBlock) ho0 (fun k_ hk_ => (Kd.fresh' (Kd.R_lt (by (with_reducible repeat (first | apply Kd.R_alloc | apply Kd.R_drewN | apply Kd.R_drew)); exact HO135.out)) k_ hk_))) (below_size (by repeat (first | (with_reducible first | exact HB.out | apply below_alloc | apply pw_below_drewN | apply below_drew1) | exact HB.out)))); have n2_ := Aside0.mk (below_step (by repeat (first | (with_reducible first | exact HB.out | apply below_alloc | apply pw_below_drewN | apply below_drew1) | exact HB.out)) hb); clear HO135; clear HB; have HO135 := n0_; have HO140 := n1_; have HB := n2_; clear n0_ n1_ n2_; (try clear hb); (try clear hb2); (try clear hk); (try clear hi); (try clear ho0)) | ((with_reducible refine gate_dst (N := 3) rfl ?_); (try (refine gate_guard (by rfl) ?_; dsimp only)); refine box_event ?hg (N := 3) ?hd (cs := #[.int .i64 0, .slice none 0 0]) (t := 29) ?hr ?_; (case hd => rfl); (case hg => rfl); (case hr => first | (go_simp; done) | (go_simp; rfl)); intro gb143 hg w13 hbox hb; have n0_ := Aside0.mk (Kd.R_below (by (with_reducible repeat (first | apply Kd.R_alloc | apply Kd.R_drewN | apply Kd.R_drew)); exact HO135.out) hb); have n1_ := Aside0.mk (Kd.V_below (Kd.V_elderB (by (with_reducible repeat (first | apply Kd.V_alloc | apply Kd.V_drewN | apply Kd.V_drew)); exact HO140.out) gb143 (Nat.le_of_eq hg.symm)) hb); have n2_ := Aside0.mk (below_step (by repeat (first | (with_reducible first | exact HB.out | apply below_alloc | apply pw_below_drewN | apply below_drew1) | exact HB.out)) hb); have n3_ := Aside0.mk (hbox); have n4_ := Aside0.mk ((by rw [hg]; exact (below_size (by repeat (first | (with_reducible first | exact HB.out | apply below_alloc | apply pw_below_drewN | apply below_drew1) | exact HB.out))) : w.heap.size ≤ gb143)); have n5_ := Aside0.mk ((by rw [hg]; exact (below_size (by repeat (first | (with_reducible first | exact HB.out | apply below_alloc | apply pw_below_drewN | apply below_drew1) | exact HB.out))) : w.heap.size ≤ gb143)); clear HO135; clear HO140; clear HB; have HO135 := n0_; have HO140 := n1_; have HB := n2_; have BK143 := n3_; have GW143 := n4_; have GE143 := n5_; clear n0_ n1_ n2_ n3_ n4_ n5_; clear hb hbox hg; have hcz14_0 : w13.cell? ⟨gb143, 0, none⟩ = some (.int .i64 0) := (blk_cell BK143.out 0).trans rfl; have hcz14_1 : w13.cell? ⟨gb143, 1, none⟩ = some (.slice none 0 0) := (blk_cell BK143.out 1).trans rfl; have hfz14_0 := blk_frozen BK143.out 0; have hfz14_1 := blk_frozen BK143.out 1; obtain ⟨Ao15, co15, eo15⟩ := Kd.V_slice HO140.out; subst eo15) | (go_at_call 15; (with_reducible refine (frame_Size.calls 5 t144 _ A9.out).mono ?_); rintro e w16 ⟨rfl, hb⟩; have n0_ := Aside0.mk (Kd.R_below (by (with_reducible repeat (first | apply Kd.R_alloc | apply Kd.R_drewN | apply Kd.R_drew)); exact (Kd.R_mono (Kd.R_far (p := ⟨gb143, 1, none⟩) (Kd.R_far (p := ⟨gb143, 0, none⟩) (Kd.R_types HO135.out BK143.out (by decide)) (fun _ hk => hk.2) (.int .i64 t137)) (fun _ hk => hk.2) (.slice Ao15 t138.length co15)) (fun _ h_ => h_.1))) hb); have n1_ := Aside0.mk (Kd.V_below (by (with_reducible repeat (first | apply Kd.V_alloc | apply Kd.V_drewN | apply Kd.V_drew)); exact (Kd.V_mono (Kd.V_far (p := ⟨gb143, 1, none⟩) (Kd.V_far (p := ⟨gb143, 0, none⟩) (Kd.V_mono HO140.out (fun k_ hk => (⟨hk, hk.2⟩ : _ ∧ k_ ≠ gb143))) (fun _ hk => hk.2) (.int .i64 t137)) (fun _ hk => hk.2) (.slice Ao15 t138.length co15)) (fun _ h_ => h_.1))) hb); have n2_ := Aside0.mk (blk_below (g := gb143) (o := .cells #[.int .i64 t137, .slice Ao15 t138.length co15] 29 (0, 0)) (by (with_reducible repeat (first | refine blk_drewN ?_ _ | refine blk_drew ?_ | refine blk_alloc ?_ _)); refine blk_put (cs := #[.int .i64 t137, .slice none 0 0]) ?_ 1 _ rfl; (with_reducible repeat (first | refine blk_drewN ?_ _ | refine blk_drew ?_ | refine blk_alloc ?_ _)); refine blk_put (cs := #[.int .i64 0, .slice none 0 0]) ?_ 0 _ rfl; (with_reducible repeat (first | refine blk_drewN ?_ _ | refine blk_drew ?_ | refine blk_alloc ?_ _)); exact BK143.out) hb); have n3_ := Aside0.mk (below_step (by repeat (first | (with_reducible first | exact HB.out | apply below_alloc | apply pw_below_drewN | apply below_drew1 | refine below_set ?_ GE143.out) | exact HB.out)) hb); clear HO135; clear HO140; clear BK143; clear HB; have HO135 := n0_; have HO140 := n1_; have BK143 := n2_; have HB := n3_; clear n0_ n1_ n2_ n3_; (try clear hb); (try clear hb2); (try clear hk); (try clear hi)))
              go_ret
              exact ⟨by first | rfl | (simp [errW_none, errW_some] <;> rfl) | (simp [*, errW_none, errW_some] <;> rfl), by repeat (first | (with_reducible first | exact HB.out | apply below_alloc | apply pw_below_drewN | apply below_drew1 | refine below_set ?_ GE143.out) | exact HB.out)⟩
            · rw [if_neg c8] at H
              have c8b0 : (t142 == 0) = false := beq_eq_false_iff_ne.mpr c8
              have c8b1 : (t142 != 0) = true := bne_iff_ne.mpr c8
              obtain rfl := Option.some.inj H
              go_enter Try.func10, Try.ntmps10
              go_wp2_with (first | ((with_reducible refine gate_callee (f := 11) rfl ?_); refine goesL_ (some 7) rfl rfl Try.func11 (by kernel_rfl) rfl #[.slice none 0 0, .int .i64 1, .slice none 0 0] rfl (by (try simp only [List.map_toArray, List.map_cons, List.map_nil]); first | done | rfl | (simp only [List.length_drop, List.length_take]; rfl)) ?_; (refine (frame_Put.calls k (fun k_ => False) _ _ ([] : List Int) 1 _ _ ([] : List Int) t133 t136 _ ?side1 ?side2 ?side3 A1.out).mono ?_); (case side1 => exact Kd.V_nil _ _ _ _ _); (case side2 => exact Kd.C_nil _ _); (case side3 => exact Nat.le_refl _); rintro e w17 ⟨v134, rfl, ho0, hb⟩; refine ⟨_, rfl, ?_⟩; have n0_ := Aside0.mk (Kd.R_lower (Kd.R_mono (ok' := fun k_ => True) ho0 (fun _ hk_ => trivial)) (below_size (by repeat (first | (with_reducible first | exact HB.out | apply below_alloc | apply pw_below_drewN | apply below_drew1) | exact HB.out)))); have n1_ := Aside0.mk (below_step (by repeat (first | (with_reducible first | exact HB.out | apply below_alloc | apply pw_below_drewN | apply below_drew1) | exact HB.out)) hb); clear HB; have HO135 := n0_; have HB := n1_; clear n0_ n1_; (try clear hb); (try clear hb2); (try clear hk); (try clear hi); (try clear ho0); obtain ⟨Ao18, co18, eo18⟩ := Kd.R_slice HO135.out; subst eo18) | ((with_reducible refine gate_callee (f := 13) rfl ?_); refine goesL_ (some 12) rfl rfl Try.func13 (by kernel_rfl) rfl #[.slice Ao18 t133.length co18, .int .i64 0] rfl (by (try simp only [List.map_toArray, List.map_cons, List.map_nil]); first | done | rfl | (simp only [List.length_drop, List.length_take]; rfl)) ?_; (with_reducible refine (frame_Take.calls _ _ t133 0 t137 t138 t141 t142 _ ?side1 ?side2 A2.out).mono ?_); (case side1 => repeat (first | exact (Kd.R_reads' HO135.out).2.2 | (with_reducible refine Kd.C_alloc ?_ _) | (with_reducible refine Kd.C_drewN ?_ _) | (with_reducible refine Kd.C_drew ?_))); (case side2 => exact (Kd.R_reads' HO135.out).2.1); rintro e w19 ⟨v139, rfl, ho0, hb⟩; refine ⟨_, rfl, ?_⟩; have n0_ := Aside0.mk (Kd.R_below (by (with_reducible repeat (first | apply Kd.R_alloc | apply Kd.R_drewN | apply Kd.R_drew)); exact HO135.out) hb); have n1_ := Aside0.mk (Kd.V_lower (Kd.V_mono (ok' := fun k_ => some k_ ≠ (.slice Ao18 t133.length co18 : Value).ownBlock) ho0 (fun k_ hk_ => (Kd.fresh' (Kd.R_lt (by (with_reducible repeat (first | apply Kd.R_alloc | apply Kd.R_drewN | apply Kd.R_drew)); exact HO135.out)) k_ hk_))) (below_size (by repeat (first | (with_reducible first | exact HB.out | apply below_alloc | apply pw_below_drewN | apply below_drew1) | exact HB.out)))); have n2_ := Aside0.mk (below_step (by repeat (first | (with_reducible first | exact HB.out | apply below_alloc | apply pw_below_drewN | apply below_drew1) | exact HB.out)) hb); clear HO135; clear HB; have HO135 := n0_; have HO140 := n1_; have HB := n2_; clear n0_ n1_ n2_; (try clear hb); (try clear hb2); (try clear hk); (try clear hi); (try clear ho0)) | ((with_reducible refine gate_dst (N := 3) rfl ?_); (try (refine gate_guard (by rfl) ?_; dsimp only)); refine box_event ?hg (N := 3) ?hd (cs := #[.int .i64 0, .slice none 0 0]) (t := 29) ?hr ?_; (case hd => rfl); (case hg => rfl); (case hr => first | (go_simp; done) | (go_simp; rfl)); intro gb143 hg w20 hbox hb; have n0_ := Aside0.mk (Kd.R_below (by (with_reducible repeat (first | apply Kd.R_alloc | apply Kd.R_drewN | apply Kd.R_drew)); exact HO135.out) hb); have n1_ := Aside0.mk (Kd.V_below (Kd.V_elderB (by (with_reducible repeat (first | apply Kd.V_alloc | apply Kd.V_drewN | apply Kd.V_drew)); exact HO140.out) gb143 (Nat.le_of_eq hg.symm)) hb); have n2_ := Aside0.mk (below_step (by repeat (first | (with_reducible first | exact HB.out | apply below_alloc | apply pw_below_drewN | apply below_drew1) | exact HB.out)) hb); have n3_ := Aside0.mk (hbox); have n4_ := Aside0.mk ((by rw [hg]; exact (below_size (by repeat (first | (with_reducible first | exact HB.out | apply below_alloc | apply pw_below_drewN | apply below_drew1) | exact HB.out))) : w.heap.size ≤ gb143)); have n5_ := Aside0.mk ((by rw [hg]; exact (below_size (by repeat (first | (with_reducible first | exact HB.out | apply below_alloc | apply pw_below_drewN | apply below_drew1) | exact HB.out))) : w.heap.size ≤ gb143)); clear HO135; clear HO140; clear HB; have HO135 := n0_; have HO140 := n1_; have HB := n2_; have BK143 := n3_; have GW143 := n4_; have GE143 := n5_; clear n0_ n1_ n2_ n3_ n4_ n5_; clear hb hbox hg; have hcz21_0 : w20.cell? ⟨gb143, 0, none⟩ = some (.int .i64 0) := (blk_cell BK143.out 0).trans rfl; have hcz21_1 : w20.cell? ⟨gb143, 1, none⟩ = some (.slice none 0 0) := (blk_cell BK143.out 1).trans rfl; have hfz21_0 := blk_frozen BK143.out 0; have hfz21_1 := blk_frozen BK143.out 1; obtain ⟨Ao22, co22, eo22⟩ := Kd.V_slice HO140.out; subst eo22))
              go_ret
              exact ⟨by first | rfl | (simp [errW_none, errW_some] <;> rfl) | (simp [*, errW_none, errW_some] <;> rfl), by repeat (first | (with_reducible first | exact HB.out | apply below_alloc | apply pw_below_drewN | apply below_drew1 | refine below_set ?_ GE143.out) | exact HB.out)⟩
          · rw [if_neg c7] at H
            have c7b0 : (t141 == 12) = false := beq_eq_false_iff_ne.mpr c7
            have c7b1 : (t141 != 12) = true := bne_iff_ne.mpr c7
            obtain rfl := Option.some.inj H
            go_enter Try.func10, Try.ntmps10
            go_wp2_with (first | ((with_reducible refine gate_callee (f := 11) rfl ?_); refine goesL_ (some 7) rfl rfl Try.func11 (by kernel_rfl) rfl #[.slice none 0 0, .int .i64 1, .slice none 0 0] rfl (by (try simp only [List.map_toArray, List.map_cons, List.map_nil]); first | done | rfl | (simp only [List.length_drop, List.length_take]; rfl)) ?_; (refine (frame_Put.calls k (fun k_ => False) _ _ ([] : List Int) 1 _ _ ([] : List Int) t133 t136 _ ?side1 ?side2 ?side3 A1.out).mono ?_); (case side1 => exact Kd.V_nil _ _ _ _ _); (case side2 => exact Kd.C_nil _ _); (case side3 => exact Nat.le_refl _); rintro e w23 ⟨v134, rfl, ho0, hb⟩; refine ⟨_, rfl, ?_⟩; have n0_ := Aside0.mk (Kd.R_lower (Kd.R_mono (ok' := fun k_ => True) ho0 (fun _ hk_ => trivial)) (below_size (by repeat (first | (with_reducible first | exact HB.out | apply below_alloc | apply pw_below_drewN | apply below_drew1) | exact HB.out)))); have n1_ := Aside0.mk (below_step (by repeat (first | (with_reducible first | exact HB.out | apply below_alloc | apply pw_below_drewN | apply below_drew1) | exact HB.out)) hb); clear HB; have HO135 := n0_; have HB := n1_; clear n0_ n1_; (try clear hb); (try clear hb2); (try clear hk); (try clear hi); (try clear ho0); obtain ⟨Ao24, co24, eo24⟩ := Kd.R_slice HO135.out; subst eo24) | ((with_reducible refine gate_callee (f := 13) rfl ?_); refine goesL_ (some 12) rfl rfl Try.func13 (by kernel_rfl) rfl #[.slice Ao24 t133.length co24, .int .i64 0] rfl (by (try simp only [List.map_toArray, List.map_cons, List.map_nil]); first | done | rfl | (simp only [List.length_drop, List.length_take]; rfl)) ?_; (with_reducible refine (frame_Take.calls _ _ t133 0 t137 t138 t141 t142 _ ?side1 ?side2 A2.out).mono ?_); (case side1 => repeat (first | exact (Kd.R_reads' HO135.out).2.2 | (with_reducible refine Kd.C_alloc ?_ _) | (with_reducible refine Kd.C_drewN ?_ _) | (with_reducible refine Kd.C_drew ?_))); (case side2 => exact (Kd.R_reads' HO135.out).2.1); rintro e w25 ⟨v139, rfl, ho0, hb⟩; refine ⟨_, rfl, ?_⟩; have n0_ := Aside0.mk (Kd.R_below (by (with_reducible repeat (first | apply Kd.R_alloc | apply Kd.R_drewN | apply Kd.R_drew)); exact HO135.out) hb); have n1_ := Aside0.mk (Kd.V_lower (Kd.V_mono (ok' := fun k_ => some k_ ≠ (.slice Ao24 t133.length co24 : Value).ownBlock) ho0 (fun k_ hk_ => (Kd.fresh' (Kd.R_lt (by (with_reducible repeat (first | apply Kd.R_alloc | apply Kd.R_drewN | apply Kd.R_drew)); exact HO135.out)) k_ hk_))) (below_size (by repeat (first | (with_reducible first | exact HB.out | apply below_alloc | apply pw_below_drewN | apply below_drew1) | exact HB.out)))); have n2_ := Aside0.mk (below_step (by repeat (first | (with_reducible first | exact HB.out | apply below_alloc | apply pw_below_drewN | apply below_drew1) | exact HB.out)) hb); clear HO135; clear HB; have HO135 := n0_; have HO140 := n1_; have HB := n2_; clear n0_ n1_ n2_; (try clear hb); (try clear hb2); (try clear hk); (try clear hi); (try clear ho0)) | ((with_reducible refine gate_dst (N := 3) rfl ?_); (try (refine gate_guard (by rfl) ?_; dsimp only)); refine box_event ?hg (N := 3) ?hd (cs := #[.int .i64 0, .slice none 0 0]) (t := 29) ?hr ?_; (case hd => rfl); (case hg => rfl); (case hr => first | (go_simp; done) | (go_simp; rfl)); intro gb143 hg w26 hbox hb; have n0_ := Aside0.mk (Kd.R_below (by (with_reducible repeat (first | apply Kd.R_alloc | apply Kd.R_drewN | apply Kd.R_drew)); exact HO135.out) hb); have n1_ := Aside0.mk (Kd.V_below (Kd.V_elderB (by (with_reducible repeat (first | apply Kd.V_alloc | apply Kd.V_drewN | apply Kd.V_drew)); exact HO140.out) gb143 (Nat.le_of_eq hg.symm)) hb); have n2_ := Aside0.mk (below_step (by repeat (first | (with_reducible first | exact HB.out | apply below_alloc | apply pw_below_drewN | apply below_drew1) | exact HB.out)) hb); have n3_ := Aside0.mk (hbox); have n4_ := Aside0.mk ((by rw [hg]; exact (below_size (by repeat (first | (with_reducible first | exact HB.out | apply below_alloc | apply pw_below_drewN | apply below_drew1) | exact HB.out))) : w.heap.size ≤ gb143)); have n5_ := Aside0.mk ((by rw [hg]; exact (below_size (by repeat (first | (with_reducible first | exact HB.out | apply below_alloc | apply pw_below_drewN | apply below_drew1) | exact HB.out))) : w.heap.size ≤ gb143)); clear HO135; clear HO140; clear HB; have HO135 := n0_; have HO140 := n1_; have HB := n2_; have BK143 := n3_; have GW143 := n4_; have GE143 := n5_; clear n0_ n1_ n2_ n3_ n4_ n5_; clear hb hbox hg; have hcz27_0 : w26.cell? ⟨gb143, 0, none⟩ = some (.int .i64 0) := (blk_cell BK143.out 0).trans rfl; have hcz27_1 : w26.cell? ⟨gb143, 1, none⟩ = some (.slice none 0 0) := (blk_cell BK143.out 1).trans rfl; have hfz27_0 := blk_frozen BK143.out 0; have hfz27_1 := blk_frozen BK143.out 1; obtain ⟨Ao28, co28, eo28⟩ := Kd.V_slice HO140.out; subst eo28))
            go_ret
            exact ⟨by first | rfl | (simp [errW_none, errW_some] <;> rfl) | (simp [*, errW_none, errW_some] <;> rfl), by repeat (first | (with_reducible first | exact HB.out | apply below_alloc | apply pw_below_drewN | apply below_drew1 | refine below_set ?_ GE143.out) | exact HB.out)⟩
        · rw [if_neg c6] at H
          have c6b0 : ((t138.length : Int) == 0) = false := beq_eq_false_iff_ne.mpr c6
          have c6b1 : ((t138.length : Int) != 0) = true := bne_iff_ne.mpr c6
          have c6b2 : ¬ (t138 = []) := fun h_ => c6 (by rw [h_]; rfl)
          obtain rfl := Option.some.inj H
          go_enter Try.func10, Try.ntmps10
          go_wp2_with (first | ((with_reducible refine gate_callee (f := 11) rfl ?_); refine goesL_ (some 7) rfl rfl Try.func11 (by kernel_rfl) rfl #[.slice none 0 0, .int .i64 1, .slice none 0 0] rfl (by (try simp only [List.map_toArray, List.map_cons, List.map_nil]); first | done | rfl | (simp only [List.length_drop, List.length_take]; rfl)) ?_; (refine (frame_Put.calls k (fun k_ => False) _ _ ([] : List Int) 1 _ _ ([] : List Int) t133 t136 _ ?side1 ?side2 ?side3 A1.out).mono ?_); (case side1 => exact Kd.V_nil _ _ _ _ _); (case side2 => exact Kd.C_nil _ _); (case side3 => exact Nat.le_refl _); rintro e w29 ⟨v134, rfl, ho0, hb⟩; refine ⟨_, rfl, ?_⟩; have n0_ := Aside0.mk (Kd.R_lower (Kd.R_mono (ok' := fun k_ => True) ho0 (fun _ hk_ => trivial)) (below_size (by repeat (first | (with_reducible first | exact HB.out | apply below_alloc | apply pw_below_drewN | apply below_drew1) | exact HB.out)))); have n1_ := Aside0.mk (below_step (by repeat (first | (with_reducible first | exact HB.out | apply below_alloc | apply pw_below_drewN | apply below_drew1) | exact HB.out)) hb); clear HB; have HO135 := n0_; have HB := n1_; clear n0_ n1_; (try clear hb); (try clear hb2); (try clear hk); (try clear hi); (try clear ho0); obtain ⟨Ao30, co30, eo30⟩ := Kd.R_slice HO135.out; subst eo30) | ((with_reducible refine gate_callee (f := 13) rfl ?_); refine goesL_ (some 12) rfl rfl Try.func13 (by kernel_rfl) rfl #[.slice Ao30 t133.length co30, .int .i64 0] rfl (by (try simp only [List.map_toArray, List.map_cons, List.map_nil]); first | done | rfl | (simp only [List.length_drop, List.length_take]; rfl)) ?_; (with_reducible refine (frame_Take.calls _ _ t133 0 t137 t138 t141 t142 _ ?side1 ?side2 A2.out).mono ?_); (case side1 => repeat (first | exact (Kd.R_reads' HO135.out).2.2 | (with_reducible refine Kd.C_alloc ?_ _) | (with_reducible refine Kd.C_drewN ?_ _) | (with_reducible refine Kd.C_drew ?_))); (case side2 => exact (Kd.R_reads' HO135.out).2.1); rintro e w31 ⟨v139, rfl, ho0, hb⟩; refine ⟨_, rfl, ?_⟩; have n0_ := Aside0.mk (Kd.R_below (by (with_reducible repeat (first | apply Kd.R_alloc | apply Kd.R_drewN | apply Kd.R_drew)); exact HO135.out) hb); have n1_ := Aside0.mk (Kd.V_lower (Kd.V_mono (ok' := fun k_ => some k_ ≠ (.slice Ao30 t133.length co30 : Value).ownBlock) ho0 (fun k_ hk_ => (Kd.fresh' (Kd.R_lt (by (with_reducible repeat (first | apply Kd.R_alloc | apply Kd.R_drewN | apply Kd.R_drew)); exact HO135.out)) k_ hk_))) (below_size (by repeat (first | (with_reducible first | exact HB.out | apply below_alloc | apply pw_below_drewN | apply below_drew1) | exact HB.out)))); have n2_ := Aside0.mk (below_step (by repeat (first | (with_reducible first | exact HB.out | apply below_alloc | apply pw_below_drewN | apply below_drew1) | exact HB.out)) hb); clear HO135; clear HB; have HO135 := n0_; have HO140 := n1_; have HB := n2_; clear n0_ n1_ n2_; (try clear hb); (try clear hb2); (try clear hk); (try clear hi); (try clear ho0)) | ((with_reducible refine gate_dst (N := 3) rfl ?_); (try (refine gate_guard (by rfl) ?_; dsimp only)); refine box_event ?hg (N := 3) ?hd (cs := #[.int .i64 0, .slice none 0 0]) (t := 29) ?hr ?_; (case hd => rfl); (case hg => rfl); (case hr => first | (go_simp; done) | (go_simp; rfl)); intro gb143 hg w32 hbox hb; have n0_ := Aside0.mk (Kd.R_below (by (with_reducible repeat (first | apply Kd.R_alloc | apply Kd.R_drewN | apply Kd.R_drew)); exact HO135.out) hb); have n1_ := Aside0.mk (Kd.V_below (Kd.V_elderB (by (with_reducible repeat (first | apply Kd.V_alloc | apply Kd.V_drewN | apply Kd.V_drew)); exact HO140.out) gb143 (Nat.le_of_eq hg.symm)) hb); have n2_ := Aside0.mk (below_step (by repeat (first | (with_reducible first | exact HB.out | apply below_alloc | apply pw_below_drewN | apply below_drew1) | exact HB.out)) hb); have n3_ := Aside0.mk (hbox); have n4_ := Aside0.mk ((by rw [hg]; exact (below_size (by repeat (first | (with_reducible first | exact HB.out | apply below_alloc | apply pw_below_drewN | apply below_drew1) | exact HB.out))) : w.heap.size ≤ gb143)); have n5_ := Aside0.mk ((by rw [hg]; exact (below_size (by repeat (first | (with_reducible first | exact HB.out | apply below_alloc | apply pw_below_drewN | apply below_drew1) | exact HB.out))) : w.heap.size ≤ gb143)); clear HO135; clear HO140; clear HB; have HO135 := n0_; have HO140 := n1_; have HB := n2_; have BK143 := n3_; have GW143 := n4_; have GE143 := n5_; clear n0_ n1_ n2_ n3_ n4_ n5_; clear hb hbox hg; have hcz33_0 : w32.cell? ⟨gb143, 0, none⟩ = some (.int .i64 0) := (blk_cell BK143.out 0).trans rfl; have hcz33_1 : w32.cell? ⟨gb143, 1, none⟩ = some (.slice none 0 0) := (blk_cell BK143.out 1).trans rfl; have hfz33_0 := blk_frozen BK143.out 0; have hfz33_1 := blk_frozen BK143.out 1; obtain ⟨Ao34, co34, eo34⟩ := Kd.V_slice HO140.out; subst eo34))
          go_ret
          exact ⟨by first | rfl | (simp [errW_none, errW_some] <;> rfl) | (simp [*, errW_none, errW_some] <;> rfl), by repeat (first | (with_reducible first | exact HB.out | apply below_alloc | apply pw_below_drewN | apply below_drew1 | refine below_set ?_ GE143.out) | exact HB.out)⟩
      · rw [if_neg c5] at H
        have c5b0 : (t137 == 1) = false := beq_eq_false_iff_ne.mpr c5
        have c5b1 : (t137 != 1) = true := bne_iff_ne.mpr c5
        obtain rfl := Option.some.inj H
        go_enter Try.func10, Try.ntmps10
        go_wp2_with (first | ((with_reducible refine gate_callee (f := 11) rfl ?_); refine goesL_ (some 7) rfl rfl Try.func11 (by kernel_rfl) rfl #[.slice none 0 0, .int .i64 1, .slice none 0 0] rfl (by (try simp only [List.map_toArray, List.map_cons, List.map_nil]); first | done | rfl | (simp only [List.length_drop, List.length_take]; rfl)) ?_; (refine (frame_Put.calls k (fun k_ => False) _ _ ([] : List Int) 1 _ _ ([] : List Int) t133 t136 _ ?side1 ?side2 ?side3 A1.out).mono ?_); (case side1 => exact Kd.V_nil _ _ _ _ _); (case side2 => exact Kd.C_nil _ _); (case side3 => exact Nat.le_refl _); rintro e w35 ⟨v134, rfl, ho0, hb⟩; refine ⟨_, rfl, ?_⟩; have n0_ := Aside0.mk (Kd.R_lower (Kd.R_mono (ok' := fun k_ => True) ho0 (fun _ hk_ => trivial)) (below_size (by repeat (first | (with_reducible first | exact HB.out | apply below_alloc | apply pw_below_drewN | apply below_drew1) | exact HB.out)))); have n1_ := Aside0.mk (below_step (by repeat (first | (with_reducible first | exact HB.out | apply below_alloc | apply pw_below_drewN | apply below_drew1) | exact HB.out)) hb); clear HB; have HO135 := n0_; have HB := n1_; clear n0_ n1_; (try clear hb); (try clear hb2); (try clear hk); (try clear hi); (try clear ho0); obtain ⟨Ao36, co36, eo36⟩ := Kd.R_slice HO135.out; subst eo36) | ((with_reducible refine gate_callee (f := 13) rfl ?_); refine goesL_ (some 12) rfl rfl Try.func13 (by kernel_rfl) rfl #[.slice Ao36 t133.length co36, .int .i64 0] rfl (by (try simp only [List.map_toArray, List.map_cons, List.map_nil]); first | done | rfl | (simp only [List.length_drop, List.length_take]; rfl)) ?_; (with_reducible refine (frame_Take.calls _ _ t133 0 t137 t138 t141 t142 _ ?side1 ?side2 A2.out).mono ?_); (case side1 => repeat (first | exact (Kd.R_reads' HO135.out).2.2 | (with_reducible refine Kd.C_alloc ?_ _) | (with_reducible refine Kd.C_drewN ?_ _) | (with_reducible refine Kd.C_drew ?_))); (case side2 => exact (Kd.R_reads' HO135.out).2.1); rintro e w37 ⟨v139, rfl, ho0, hb⟩; refine ⟨_, rfl, ?_⟩; have n0_ := Aside0.mk (Kd.R_below (by (with_reducible repeat (first | apply Kd.R_alloc | apply Kd.R_drewN | apply Kd.R_drew)); exact HO135.out) hb); have n1_ := Aside0.mk (Kd.V_lower (Kd.V_mono (ok' := fun k_ => some k_ ≠ (.slice Ao36 t133.length co36 : Value).ownBlock) ho0 (fun k_ hk_ => (Kd.fresh' (Kd.R_lt (by (with_reducible repeat (first | apply Kd.R_alloc | apply Kd.R_drewN | apply Kd.R_drew)); exact HO135.out)) k_ hk_))) (below_size (by repeat (first | (with_reducible first | exact HB.out | apply below_alloc | apply pw_below_drewN | apply below_drew1) | exact HB.out)))); have n2_ := Aside0.mk (below_step (by repeat (first | (with_reducible first | exact HB.out | apply below_alloc | apply pw_below_drewN | apply below_drew1) | exact HB.out)) hb); clear HO135; clear HB; have HO135 := n0_; have HO140 := n1_; have HB := n2_; clear n0_ n1_ n2_; (try clear hb); (try clear hb2); (try clear hk); (try clear hi); (try clear ho0)) | ((with_reducible refine gate_dst (N := 3) rfl ?_); (try (refine gate_guard (by rfl) ?_; dsimp only)); refine box_event ?hg (N := 3) ?hd (cs := #[.int .i64 0, .slice none 0 0]) (t := 29) ?hr ?_; (case hd => rfl); (case hg => rfl); (case hr => first | (go_simp; done) | (go_simp; rfl)); intro gb143 hg w38 hbox hb; have n0_ := Aside0.mk (Kd.R_below (by (with_reducible repeat (first | apply Kd.R_alloc | apply Kd.R_drewN | apply Kd.R_drew)); exact HO135.out) hb); have n1_ := Aside0.mk (Kd.V_below (Kd.V_elderB (by (with_reducible repeat (first | apply Kd.V_alloc | apply Kd.V_drewN | apply Kd.V_drew)); exact HO140.out) gb143 (Nat.le_of_eq hg.symm)) hb); have n2_ := Aside0.mk (below_step (by repeat (first | (with_reducible first | exact HB.out | apply below_alloc | apply pw_below_drewN | apply below_drew1) | exact HB.out)) hb); have n3_ := Aside0.mk (hbox); have n4_ := Aside0.mk ((by rw [hg]; exact (below_size (by repeat (first | (with_reducible first | exact HB.out | apply below_alloc | apply pw_below_drewN | apply below_drew1) | exact HB.out))) : w.heap.size ≤ gb143)); have n5_ := Aside0.mk ((by rw [hg]; exact (below_size (by repeat (first | (with_reducible first | exact HB.out | apply below_alloc | apply pw_below_drewN | apply below_drew1) | exact HB.out))) : w.heap.size ≤ gb143)); clear HO135; clear HO140; clear HB; have HO135 := n0_; have HO140 := n1_; have HB := n2_; have BK143 := n3_; have GW143 := n4_; have GE143 := n5_; clear n0_ n1_ n2_ n3_ n4_ n5_; clear hb hbox hg; have hcz39_0 : w38.cell? ⟨gb143, 0, none⟩ = some (.int .i64 0) := (blk_cell BK143.out 0).trans rfl; have hcz39_1 : w38.cell? ⟨gb143, 1, none⟩ = some (.slice none 0 0) := (blk_cell BK143.out 1).trans rfl; have hfz39_0 := blk_frozen BK143.out 0; have hfz39_1 := blk_frozen BK143.out 1; obtain ⟨Ao40, co40, eo40⟩ := Kd.V_slice HO140.out; subst eo40))
        go_ret
        exact ⟨by first | rfl | (simp [errW_none, errW_some] <;> rfl) | (simp [*, errW_none, errW_some] <;> rfl), by repeat (first | (with_reducible first | exact HB.out | apply below_alloc | apply pw_below_drewN | apply below_drew1 | refine below_set ?_ GE143.out) | exact HB.out)⟩
    · rw [if_neg c4] at H
      have c4b0 : (t136 == 0) = false := beq_eq_false_iff_ne.mpr c4
      have c4b1 : (t136 != 0) = true := bne_iff_ne.mpr c4
      obtain rfl := Option.some.inj H
      go_enter Try.func10, Try.ntmps10
      go_wp2_with (first | ((with_reducible refine gate_callee (f := 11) rfl ?_); refine goesL_ (some 7) rfl rfl Try.func11 (by kernel_rfl) rfl #[.slice none 0 0, .int .i64 1, .slice none 0 0] rfl (by (try simp only [List.map_toArray, List.map_cons, List.map_nil]); first | done | rfl | (simp only [List.length_drop, List.length_take]; rfl)) ?_; (refine (frame_Put.calls k (fun k_ => False) _ _ ([] : List Int) 1 _ _ ([] : List Int) t133 t136 _ ?side1 ?side2 ?side3 A1.out).mono ?_); (case side1 => exact Kd.V_nil _ _ _ _ _); (case side2 => exact Kd.C_nil _ _); (case side3 => exact Nat.le_refl _); rintro e w41 ⟨v134, rfl, ho0, hb⟩; refine ⟨_, rfl, ?_⟩; have n0_ := Aside0.mk (Kd.R_lower (Kd.R_mono (ok' := fun k_ => True) ho0 (fun _ hk_ => trivial)) (below_size (by repeat (first | (with_reducible first | exact HB.out | apply below_alloc | apply pw_below_drewN | apply below_drew1) | exact HB.out)))); have n1_ := Aside0.mk (below_step (by repeat (first | (with_reducible first | exact HB.out | apply below_alloc | apply pw_below_drewN | apply below_drew1) | exact HB.out)) hb); clear HB; have HO135 := n0_; have HB := n1_; clear n0_ n1_; (try clear hb); (try clear hb2); (try clear hk); (try clear hi); (try clear ho0); obtain ⟨Ao42, co42, eo42⟩ := Kd.R_slice HO135.out; subst eo42) | ((with_reducible refine gate_callee (f := 13) rfl ?_); refine goesL_ (some 12) rfl rfl Try.func13 (by kernel_rfl) rfl #[.slice Ao42 t133.length co42, .int .i64 0] rfl (by (try simp only [List.map_toArray, List.map_cons, List.map_nil]); first | done | rfl | (simp only [List.length_drop, List.length_take]; rfl)) ?_; (with_reducible refine (frame_Take.calls _ _ t133 0 t137 t138 t141 t142 _ ?side1 ?side2 A2.out).mono ?_); (case side1 => repeat (first | exact (Kd.R_reads' HO135.out).2.2 | (with_reducible refine Kd.C_alloc ?_ _) | (with_reducible refine Kd.C_drewN ?_ _) | (with_reducible refine Kd.C_drew ?_))); (case side2 => exact (Kd.R_reads' HO135.out).2.1); rintro e w43 ⟨v139, rfl, ho0, hb⟩; refine ⟨_, rfl, ?_⟩; have n0_ := Aside0.mk (Kd.R_below (by (with_reducible repeat (first | apply Kd.R_alloc | apply Kd.R_drewN | apply Kd.R_drew)); exact HO135.out) hb); have n1_ := Aside0.mk (Kd.V_lower (Kd.V_mono (ok' := fun k_ => some k_ ≠ (.slice Ao42 t133.length co42 : Value).ownBlock) ho0 (fun k_ hk_ => (Kd.fresh' (Kd.R_lt (by (with_reducible repeat (first | apply Kd.R_alloc | apply Kd.R_drewN | apply Kd.R_drew)); exact HO135.out)) k_ hk_))) (below_size (by repeat (first | (with_reducible first | exact HB.out | apply below_alloc | apply pw_below_drewN | apply below_drew1) | exact HB.out)))); have n2_ := Aside0.mk (below_step (by repeat (first | (with_reducible first | exact HB.out | apply below_alloc | apply pw_below_drewN | apply below_drew1) | exact HB.out)) hb); clear HO135; clear HB; have HO135 := n0_; have HO140 := n1_; have HB := n2_; clear n0_ n1_ n2_; (try clear hb); (try clear hb2); (try clear hk); (try clear hi); (try clear ho0)) | ((with_reducible refine gate_dst (N := 3) rfl ?_); (try (refine gate_guard (by rfl) ?_; dsimp only)); refine box_event ?hg (N := 3) ?hd (cs := #[.int .i64 0, .slice none 0 0]) (t := 29) ?hr ?_; (case hd => rfl); (case hg => rfl); (case hr => first | (go_simp; done) | (go_simp; rfl)); intro gb143 hg w44 hbox hb; have n0_ := Aside0.mk (Kd.R_below (by (with_reducible repeat (first | apply Kd.R_alloc | apply Kd.R_drewN | apply Kd.R_drew)); exact HO135.out) hb); have n1_ := Aside0.mk (Kd.V_below (Kd.V_elderB (by (with_reducible repeat (first | apply Kd.V_alloc | apply Kd.V_drewN | apply Kd.V_drew)); exact HO140.out) gb143 (Nat.le_of_eq hg.symm)) hb); have n2_ := Aside0.mk (below_step (by repeat (first | (with_reducible first | exact HB.out | apply below_alloc | apply pw_below_drewN | apply below_drew1) | exact HB.out)) hb); have n3_ := Aside0.mk (hbox); have n4_ := Aside0.mk ((by rw [hg]; exact (below_size (by repeat (first | (with_reducible first | exact HB.out | apply below_alloc | apply pw_below_drewN | apply below_drew1) | exact HB.out))) : w.heap.size ≤ gb143)); have n5_ := Aside0.mk ((by rw [hg]; exact (below_size (by repeat (first | (with_reducible first | exact HB.out | apply below_alloc | apply pw_below_drewN | apply below_drew1) | exact HB.out))) : w.heap.size ≤ gb143)); clear HO135; clear HO140; clear HB; have HO135 := n0_; have HO140 := n1_; have HB := n2_; have BK143 := n3_; have GW143 := n4_; have GE143 := n5_; clear n0_ n1_ n2_ n3_ n4_ n5_; clear hb hbox hg; have hcz45_0 : w44.cell? ⟨gb143, 0, none⟩ = some (.int .i64 0) := (blk_cell BK143.out 0).trans rfl; have hcz45_1 : w44.cell? ⟨gb143, 1, none⟩ = some (.slice none 0 0) := (blk_cell BK143.out 1).trans rfl; have hfz45_0 := blk_frozen BK143.out 0; have hfz45_1 := blk_frozen BK143.out 1; obtain ⟨Ao46, co46, eo46⟩ := Kd.V_slice HO140.out; subst eo46))
      go_ret
      exact ⟨by first | rfl | (simp [errW_none, errW_some] <;> rfl) | (simp [*, errW_none, errW_some] <;> rfl), by repeat (first | (with_reducible first | exact HB.out | apply below_alloc | apply pw_below_drewN | apply below_drew1 | refine below_set ?_ GE143.out) | exact HB.out)⟩
  · rw [if_neg c3] at H
    have c3b0 : ((t133.length : Int) == 12) = false := beq_eq_false_iff_ne.mpr c3
    have c3b1 : ((t133.length : Int) != 12) = true := bne_iff_ne.mpr c3
    obtain rfl := Option.some.inj H
    go_enter Try.func10, Try.ntmps10
    go_wp2_with (first | ((with_reducible refine gate_callee (f := 11) rfl ?_); refine goesL_ (some 7) rfl rfl Try.func11 (by kernel_rfl) rfl #[.slice none 0 0, .int .i64 1, .slice none 0 0] rfl (by (try simp only [List.map_toArray, List.map_cons, List.map_nil]); first | done | rfl | (simp only [List.length_drop, List.length_take]; rfl)) ?_; (refine (frame_Put.calls k (fun k_ => False) _ _ ([] : List Int) 1 _ _ ([] : List Int) t133 t136 _ ?side1 ?side2 ?side3 A1.out).mono ?_); (case side1 => exact Kd.V_nil _ _ _ _ _); (case side2 => exact Kd.C_nil _ _); (case side3 => exact Nat.le_refl _); rintro e w47 ⟨v134, rfl, ho0, hb⟩; refine ⟨_, rfl, ?_⟩; have n0_ := Aside0.mk (Kd.R_lower (Kd.R_mono (ok' := fun k_ => True) ho0 (fun _ hk_ => trivial)) (below_size (by repeat (first | (with_reducible first | exact HB.out | apply below_alloc | apply pw_below_drewN | apply below_drew1) | exact HB.out)))); have n1_ := Aside0.mk (below_step (by repeat (first | (with_reducible first | exact HB.out | apply below_alloc | apply pw_below_drewN | apply below_drew1) | exact HB.out)) hb); clear HB; have HO135 := n0_; have HB := n1_; clear n0_ n1_; (try clear hb); (try clear hb2); (try clear hk); (try clear hi); (try clear ho0); obtain ⟨Ao48, co48, eo48⟩ := Kd.R_slice HO135.out; subst eo48) | ((with_reducible refine gate_callee (f := 13) rfl ?_); refine goesL_ (some 12) rfl rfl Try.func13 (by kernel_rfl) rfl #[.slice Ao48 t133.length co48, .int .i64 0] rfl (by (try simp only [List.map_toArray, List.map_cons, List.map_nil]); first | done | rfl | (simp only [List.length_drop, List.length_take]; rfl)) ?_; (with_reducible refine (frame_Take.calls _ _ t133 0 t137 t138 t141 t142 _ ?side1 ?side2 A2.out).mono ?_); (case side1 => repeat (first | exact (Kd.R_reads' HO135.out).2.2 | (with_reducible refine Kd.C_alloc ?_ _) | (with_reducible refine Kd.C_drewN ?_ _) | (with_reducible refine Kd.C_drew ?_))); (case side2 => exact (Kd.R_reads' HO135.out).2.1); rintro e w49 ⟨v139, rfl, ho0, hb⟩; refine ⟨_, rfl, ?_⟩; have n0_ := Aside0.mk (Kd.R_below (by (with_reducible repeat (first | apply Kd.R_alloc | apply Kd.R_drewN | apply Kd.R_drew)); exact HO135.out) hb); have n1_ := Aside0.mk (Kd.V_lower (Kd.V_mono (ok' := fun k_ => some k_ ≠ (.slice Ao48 t133.length co48 : Value).ownBlock) ho0 (fun k_ hk_ => (Kd.fresh' (Kd.R_lt (by (with_reducible repeat (first | apply Kd.R_alloc | apply Kd.R_drewN | apply Kd.R_drew)); exact HO135.out)) k_ hk_))) (below_size (by repeat (first | (with_reducible first | exact HB.out | apply below_alloc | apply pw_below_drewN | apply below_drew1) | exact HB.out)))); have n2_ := Aside0.mk (below_step (by repeat (first | (with_reducible first | exact HB.out | apply below_alloc | apply pw_below_drewN | apply below_drew1) | exact HB.out)) hb); clear HO135; clear HB; have HO135 := n0_; have HO140 := n1_; have HB := n2_; clear n0_ n1_ n2_; (try clear hb); (try clear hb2); (try clear hk); (try clear hi); (try clear ho0)) | ((with_reducible refine gate_dst (N := 3) rfl ?_); (try (refine gate_guard (by rfl) ?_; dsimp only)); refine box_event ?hg (N := 3) ?hd (cs := #[.int .i64 0, .slice none 0 0]) (t := 29) ?hr ?_; (case hd => rfl); (case hg => rfl); (case hr => first | (go_simp; done) | (go_simp; rfl)); intro gb143 hg w50 hbox hb; have n0_ := Aside0.mk (Kd.R_below (by (with_reducible repeat (first | apply Kd.R_alloc | apply Kd.R_drewN | apply Kd.R_drew)); exact HO135.out) hb); have n1_ := Aside0.mk (Kd.V_below (Kd.V_elderB (by (with_reducible repeat (first | apply Kd.V_alloc | apply Kd.V_drewN | apply Kd.V_drew)); exact HO140.out) gb143 (Nat.le_of_eq hg.symm)) hb); have n2_ := Aside0.mk (below_step (by repeat (first | (with_reducible first | exact HB.out | apply below_alloc | apply pw_below_drewN | apply below_drew1) | exact HB.out)) hb); have n3_ := Aside0.mk (hbox); have n4_ := Aside0.mk ((by rw [hg]; exact (below_size (by repeat (first | (with_reducible first | exact HB.out | apply below_alloc | apply pw_below_drewN | apply below_drew1) | exact HB.out))) : w.heap.size ≤ gb143)); have n5_ := Aside0.mk ((by rw [hg]; exact (below_size (by repeat (first | (with_reducible first | exact HB.out | apply below_alloc | apply pw_below_drewN | apply below_drew1) | exact HB.out))) : w.heap.size ≤ gb143)); clear HO135; clear HO140; clear HB; have HO135 := n0_; have HO140 := n1_; have HB := n2_; have BK143 := n3_; have GW143 := n4_; have GE143 := n5_; clear n0_ n1_ n2_ n3_ n4_ n5_; clear hb hbox hg; have hcz51_0 : w50.cell? ⟨gb143, 0, none⟩ = some (.int .i64 0) := (blk_cell BK143.out 0).trans rfl; have hcz51_1 : w50.cell? ⟨gb143, 1, none⟩ = some (.slice none 0 0) := (blk_cell BK143.out 1).trans rfl; have hfz51_0 := blk_frozen BK143.out 0; have hfz51_1 := blk_frozen BK143.out 1; obtain ⟨Ao52, co52, eo52⟩ := Kd.V_slice HO140.out; subst eo52))
    go_ret
    exact ⟨by first | rfl | (simp [errW_none, errW_some] <;> rfl) | (simp [*, errW_none, errW_some] <;> rfl), by repeat (first | (with_reducible first | exact HB.out | apply below_alloc | apply pw_below_drewN | apply below_drew1 | refine below_set ?_ GE143.out) | exact HB.out)⟩

end Go.Proofs.Ytcnapbpljghfoaa.PCrc

/- What the printed functions of the document and of frame tell, in plain words: what is framed, what is taken. -/
namespace Go.Proofs.Ytcnapbpljghfoaa.Plain
open Go.RowKit Go.Proofs.YtcnapbpljghfoaaW.PrintWords Go.Proofs.YtcnapbpljghfoaaW.PrintLast Go.Proofs.YtcnapbpljghfoaaW.PrintMore
open Go.Proofs.Ytcnapbpljghfoaa.PCrc
open Go.Proofs.Ytcnapbpljghfoaa.Hand (moreF sealF ownF tailL sum_f tail_f refsumF fixF concatF takeO)
set_option linter.unusedVariables false
set_option linter.unusedSimpArgs false

theorem strOfNums_extract (l : List Int) (i j : Nat) : (strOfNums l).extract i j = strOfNums ((l.take j).drop i) := by
  apply ByteArray.ext
  rw [ByteArray.data_extract]
  apply Array.ext'
  simp [strOfNums, List.map_take, List.map_drop, List.extract_eq_take_drop]
  rw [List.drop_take]
theorem bt_strOfNums {l : List Int} (h : isB l) (i : Nat) (hi : i < l.length) : bt (strOfNums l) (i : Int) = l.getD i 0 := by
  unfold bt
  rw [dif_pos (by rw [strOfNums_size, Int.toNat_natCast]; exact hi)]
  simp only [Int.toNat_natCast]
  have hx := h l[i] (List.getElem_mem _)
  rw [List.getD_eq_getElem?_getD, List.getElem?_eq_getElem hi]
  have e : ((strOfNums l)[i]'(by rw [strOfNums_size]; exact hi)) = UInt8.ofNat (l[i]).toNat := by
    simp [strOfNums, ByteArray.getElem_eq_getElem_data]
  rw [e, UInt8.toNat_ofNat', Option.getD_some]
  omega
theorem str_eq {l r : List Int} (h : isB l) (h' : isB r) : (strOfNums l).toList = (strOfNums r).toList ↔ l = r := ⟨strOfNums_inj h h', fun e => by rw [e]⟩

theorem refseal_f {l : List Int} (hb : isB l) (hl : l.length ≤ 140737488355328) : concordanceref1_Seal.f (strOfNums l) = some (strOfNums (l ++ tailL (moreN 0 l))) := by
  unfold concordanceref1_Seal.f concordanceref1_Sum.f refsumF concordanceref1_four.f
  rw [if_pos (by rw [strOfNums_size]; exact hl), Option.bind_some, Option.bind_some, if_pos (by rw [strOfNums_size, strOfNums_size]; simp only [List.length_cons, List.length_nil]; omega), bytesOf_strOfNums hb, strOfNums_append]
  rfl
theorem refopen_f {l : List Int} (hb : isB l) (hl : l.length ≤ 140737488355328) : concordanceref1_Open.f (strOfNums l) = some (strOfNums (openL l).1, (openL l).2) := by
  unfold concordanceref1_Open.f openL
  rw [strOfNums_size, w64 (by omega) (by omega)]
  by_cases h4 : l.length < 4
  · rw [if_pos (by omega), if_pos h4]
    rfl
  · have e : ((l.length : Int) - 4).toNat = l.length - 4 := by omega
    rw [if_neg (by omega), if_pos (by omega), if_pos (by omega), if_neg h4, e, strOfNums_extract, List.drop_zero, refseal_f (isB_take hb _) (by rw [List.length_take]; omega), Option.bind_some]
    have hsp : l = l.take (l.length - 4) ++ l.drop (l.length - 4) := (List.take_append_drop _ _).symm
    have hiff : (strOfNums (l.take (l.length - 4) ++ tailL (moreN 0 (l.take (l.length - 4))))).toList = (strOfNums l).toList ↔ tailL (moreN 0 (l.take (l.length - 4))) = l.drop (l.length - 4) := by
      rw [str_eq (sealed_isB (isB_take hb _)) hb]
      constructor
      · intro h
        conv at h => rhs; rw [hsp]
        exact List.append_cancel_left h
      · intro h
        rw [h]
        exact hsp.symm
    by_cases ht : tailL (moreN 0 (l.take (l.length - 4))) = l.drop (l.length - 4)
    · rw [if_pos ht, if_pos (hiff.2 ht)]
    · rw [if_neg ht, if_neg (fun h => ht (hiff.1 h))]
      rfl
theorem reffixed_three {l : List Int} (hb : isB l) (hl : l.length = 3) (k : Nat) : concordanceref1_Fixed.f (k + 5) (strOfNums l) 3 = some ((three l : Int), 0) := by
  have hf := fixedV_three hb hl
  obtain ⟨a, b, c, rfl⟩ : ∃ a b c, l = [a, b, c] := by
    match l, hl with
    | [a, b, c], _ => exact ⟨a, b, c, rfl⟩
  have b0 := bt_strOfNums hb 0 (by simp)
  have b1 := bt_strOfNums hb 1 (by simp)
  have b2 := bt_strOfNums hb 2 (by simp)
  rw [show ((0 : Nat) : Int) = 0 from rfl] at b0
  rw [show ((1 : Nat) : Int) = 1 from rfl] at b1
  rw [show ((2 : Nat) : Int) = 2 from rfl] at b2
  have hs : ((strOfNums [a, b, c]).size : Int) = 3 := by rw [strOfNums_size]; rfl
  unfold concordanceref1_Fixed.f
  rw [if_neg (by omega), concordanceref1_Fixed.j0, if_neg (by simp), hs, if_neg (by omega)]
  rw [show k + 4 = (k + 3) + 1 from rfl, concordanceref1_Fixed.l0, if_pos (by omega), if_pos (by omega), hs, if_pos (by omega), b0, w64 (by omega) (by omega)]
  rw [show k + 3 = (k + 2) + 1 from rfl, concordanceref1_Fixed.l0, if_pos (by omega), if_pos (by omega), hs, if_pos (by omega), show (0 : Int) + 1 = 1 from rfl, b1, w64 (by omega) (by omega)]
  rw [show k + 2 = (k + 1) + 1 from rfl, concordanceref1_Fixed.l0, if_pos (by omega), if_pos (by omega), hs, if_pos (by omega), show (1 : Int) + 1 = 2 from rfl, b2, w64 (by omega) (by omega)]
  rw [concordanceref1_Fixed.l0, if_neg (by omega), ← hf]
  rfl
theorem frameok_f (k : Nat) (a n : Int) : concordanceref1_FrameOk.f (k + 1) a n = some (if a < 1 ∨ 250 < a then 1 else if 70000 < n then 2 else 0) := by
  unfold concordanceref1_FrameOk.f
  by_cases h1 : a < 1
  · rw [if_pos h1, concordanceref1_FrameOk.j0, if_pos rfl, if_pos (.inl h1)]
  · rw [if_neg h1, concordanceref1_FrameOk.j0]
    by_cases h2 : a > 250
    · rw [decide_eq_true h2, if_pos rfl, if_pos (.inr h2)]
    · rw [decide_eq_false h2, if_neg (by simp), if_neg (show ¬ (a < 1 ∨ 250 < a) from by omega)]
      by_cases h3 : 70000 < n
      · rw [if_pos (show n > 70000 from h3), if_pos h3]
      · rw [if_neg (show ¬ n > 70000 from h3), if_neg h3]
theorem take_getD {l : List Int} {m : Nat} (h : 0 < m) : (l.take m).getD 0 0 = l.getD 0 0 := by
  cases l with
  | nil => simp
  | cons x l => cases m with
    | zero => omega
    | succ m => rfl
/-- The document's Unframe tells what frame.Take tells. -/
theorem unframe_f {l : List Int} (hb : isB l) (hl : l.length ≤ 140737488355328) (a : Int) (ha : -9223372036854775808 ≤ a) (ha2 : a < 9223372036854775808) (k : Nat) : concordanceref1_Unframe.f (k + 6) (strOfNums l) a = some ((takeF l a).1, strOfNums (takeF l a).2.1, (takeF l a).2.2.1, (takeF l a).2.2.2) := by
  unfold concordanceref1_Unframe.f takeF
  by_cases h1 : a < 0
  · rw [if_pos h1, concordanceref1_Unframe.j0, if_pos rfl, if_pos (.inl h1)]
    rfl
  · rw [if_neg h1, concordanceref1_Unframe.j0, strOfNums_size]
    by_cases h2 : (l.length : Int) < a
    · rw [decide_eq_true h2, if_pos rfl, if_pos (.inr h2)]
      rfl
    · rw [decide_eq_false h2, if_neg (by simp), if_neg (show ¬ (a < 0 ∨ (l.length : Int) < a) from by omega)]
      obtain ⟨n, rfl⟩ := Int.eq_ofNat_of_zero_le (show 0 ≤ a by omega)
      rw [w64 (x := (l.length : Int) - n) (by omega) (by omega), w64 (x := (n : Int) + 8) (by omega) (by omega), w64 (x := (n : Int) + 12) (by omega) (by omega), Int.toNat_natCast, List.length_drop]
      by_cases h3 : l.length - n < 8
      · rw [if_pos (show (l.length : Int) - n < 8 from by omega), if_pos h3]
        rfl
      · rw [if_neg (show ¬ (l.length : Int) - n < 8 from by omega), if_neg h3, if_pos (by omega), if_pos (by omega), if_pos (by omega), strOfNums_extract, show ((n : Int) + 8).toNat = n + 8 from by omega]
        have e8 : (l.take (n + 8)).drop n = (l.drop n).take 8 := by rw [List.drop_take]; congr 1; omega
        have hb8 := isB_take (isB_drop hb n) 8
        have hl8 : ((l.drop n).take 8).length = 8 := by rw [List.length_take, List.length_drop]; omega
        rw [e8, refopen_f hb8 (by omega), Option.bind_some]
        have hol := openL_len (l := (l.drop n).take 8)
        have hoB := openL_isB hb8
        rw [hl8] at hol
        by_cases h4 : (openL ((l.drop n).take 8)).2 = 0
        · have hx4 : ((openL ((l.drop n).take 8)).1).length = 4 := by rw [(hol h4).1, List.length_take, hl8]; rfl
          generalize (openL ((l.drop n).take 8)).1 = x at hx4 hoB ⊢
          have hb3 := isB_drop hoB 1
          have hl3 : (x.drop 1).length = 3 := by rw [List.length_drop]; omega
          have hn3 := three_lt hb3 hl3
          have hk := bt_strOfNums hoB 0 (by omega)
          rw [show ((0 : Nat) : Int) = 0 from rfl] at hk
          have hk2 : 0 ≤ x.getD 0 0 ∧ x.getD 0 0 < 256 := by
            rw [List.getD_eq_getElem?_getD, List.getElem?_eq_getElem (show 0 < x.length by omega)]
            exact hoB _ (List.getElem_mem _)
          rw [if_pos h4, if_pos h4]
          dsimp only
          rw [strOfNums_size, if_pos (by omega), strOfNums_extract, List.take_length, reffixed_three hb3 hl3, Option.bind_some, if_pos (by omega), hk]
          dsimp only
          unfold recB
          generalize three (x.drop 1) = q at hn3 ⊢
          generalize x.getD 0 0 = c at hk2 ⊢
          rw [w64 (x := c) (by omega) (by omega), w64 (x := (q : Int)) (by omega) (by omega), frameok_f, Option.bind_some, w64 (x := (l.length : Int) - n - 8) (by omega) (by omega), w64 (x := (q : Int) + 4) (by omega) (by omega), w64 (x := (n : Int) + 12 + q) (by omega) (by omega)]
          by_cases h5 : c < 1 ∨ 250 < c
          · rw [if_pos h5, if_neg (by omega), if_pos (show c < 1 ∨ 250 < c ∨ 70000 < q from by omega)]
            rfl
          · rw [if_neg h5]
            by_cases h6 : 70000 < (q : Int)
            · rw [if_pos h6, if_neg (by omega), if_pos (show c < 1 ∨ 250 < c ∨ 70000 < q from by omega)]
              rfl
            · rw [if_neg h6, if_pos rfl, if_neg (show ¬ (c < 1 ∨ 250 < c ∨ 70000 < q) from by omega), List.length_drop]
              by_cases h7 : (l.length : Int) - n - 8 < (q : Int) + 4
              · rw [if_pos h7, if_pos (show ((l.length - n : Nat) : Int) - 8 < (q : Int) + 4 from by omega)]
                rfl
              · rw [if_neg h7, if_neg (show ¬ ((l.length - n : Nat) : Int) - 8 < (q : Int) + 4 from by omega), if_pos (by omega), if_pos (by omega), if_pos (by omega), strOfNums_extract, show ((n : Int) + 12 + q).toNat = n + (12 + q) from by omega]
                have e9 : (l.take (n + (12 + q))).drop (n + 8) = ((l.drop n).take (12 + q)).drop 8 := by
                  rw [← List.drop_drop, List.drop_take]
                  congr 2
                  omega
                rw [e9, refopen_f (isB_drop (isB_take (isB_drop hb n) _) 8) (by rw [List.length_drop, List.length_take, List.length_drop]; omega), Option.bind_some]
                by_cases h8 : (openL (((l.drop n).take (12 + q)).drop 8)).2 = 0
                · rw [if_pos h8, if_pos h8]
                · rw [if_neg h8, if_neg h8]
                  rfl
        · rw [if_neg h4, if_neg h4]
          rfl

/-- A record: its head (the kind, the length), sealed, and its body, sealed. -/
def headL (kind : Int) (n : Nat) : List Int := (kind % 256) :: fixL n 3
def recL (kind : Int) (body : List Int) : List Int := (headL kind body.length ++ tailL (moreN 0 (headL kind body.length))) ++ (body ++ tailL (moreN 0 body))
theorem headL_length (kind : Int) (n : Nat) : (headL kind n).length = 4 := rfl
theorem fixL_isB (n s : Nat) : isB (fixL n s) := by
  induction s with
  | zero => intro x hx; cases hx
  | succ s ih =>
    intro x hx
    rcases List.mem_cons.1 hx with rfl | hx
    · omega
    · exact ih x hx
theorem headL_isB (kind : Int) (n : Nat) : isB (headL kind n) := by
  intro x hx
  rcases List.mem_cons.1 hx with rfl | hx
  · omega
  · exact fixL_isB n 3 x hx
theorem recL_isB {kind : Int} {body : List Int} (hb : isB body) : isB (recL kind body) := isB_append (sealed_isB (headL_isB _ _)) (sealed_isB hb)
theorem recL_length (kind : Int) (body : List Int) : (recL kind body).length = body.length + 12 := by
  unfold recL
  rw [List.length_append, List.length_append, List.length_append, headL_length, tailL_length, tailL_length]
  omega
/-- What frame.Put tells. -/
def putF (l : List Int) (kind : Int) (body : List Int) : List Int × Int := if kind < 1 ∨ 250 < kind then ([], 1) else if 70000 < body.length then ([], 2) else (l ++ recL kind body, 0)
theorem put_f {l body : List Int} (hl : l.length ≤ 140737488200000) (hbb : isB body) (hbl : body.length ≤ 140737488200000) (kind : Int) (k : Nat) : frame_Put.f (k + 1) l kind body = some (putF l kind body) := by
  unfold frame_Put.f putF
  by_cases h1 : kind < 1
  · rw [if_pos h1, frame_Put.j0, if_pos rfl, if_pos (.inl h1)]
  · rw [if_neg h1, frame_Put.j0]
    by_cases h2 : kind > 250
    · rw [decide_eq_true h2, if_pos rfl, if_pos (.inr h2)]
    · rw [decide_eq_false h2, if_neg (by simp), if_neg (show ¬ (kind < 1 ∨ 250 < kind) from by omega)]
      by_cases h3 : 70000 < body.length
      · rw [if_pos (show (body.length : Int) > 70000 from by omega), if_pos h3]
      · have hh := headL_isB kind body.length
        have hfx : num_Fix.f [kind % 256] (IntKind.u64.wrap (body.length : Int)) 3 = some (headL kind body.length) := by
          unfold num_Fix.f fixF
          rw [wrap_u64, if_pos ⟨by simp, by omega, by omega⟩, show ((body.length : Int) % 18446744073709551616).toNat = body.length from by omega]
          rfl
        have hcc : slices_Concat_byte_byte.f [l, headL kind body.length ++ tailL (moreN 0 (headL kind body.length)), body ++ tailL (moreN 0 body)] = some (l ++ recL kind body) := by
          unfold slices_Concat_byte_byte.f concatF
          have hfl : [l, headL kind body.length ++ tailL (moreN 0 (headL kind body.length)), body ++ tailL (moreN 0 body)].flatten = l ++ recL kind body := by
            simp only [List.flatten_cons, List.flatten_nil, List.append_nil]
            rfl
          rw [hfl, if_pos ⟨by simp, by rw [List.length_append, recL_length]; omega⟩]
        rw [if_neg (show ¬ (body.length : Int) > 70000 from by omega), if_neg h3, hfx, Option.bind_some, seal_f hh (by rw [headL_length]; omega), Option.bind_some, seal_f hbb (by omega), Option.bind_some, hcc, Option.bind_some]
theorem three_fix {n : Nat} (h : n < 16777216) : three (fixL n 3) = n := by
  unfold three
  simp only [fixL, List.getD_cons_zero, List.getD_cons_succ]
  omega
/-- What was framed is taken again. -/
theorem take_rec {l r body : List Int} {kind : Int} (hb : isB body) (h1 : 1 ≤ kind) (h2 : kind ≤ 250) (h3 : body.length ≤ 70000) : takeF (l ++ recL kind body ++ r) l.length = (kind, body, (l.length : Int) + 12 + body.length, 0) := by
  have hlen : (l ++ recL kind body ++ r).length = l.length + (body.length + 12) + r.length := by rw [List.length_append, List.length_append, recL_length]
  have hdrop : (l ++ recL kind body ++ r).drop l.length = recL kind body ++ r := by rw [List.append_assoc, List.drop_left]
  have hh : (headL kind body.length ++ tailL (moreN 0 (headL kind body.length))).length = 8 := rfl
  have hrec : recL kind body ++ r = (headL kind body.length ++ tailL (moreN 0 (headL kind body.length))) ++ ((body ++ tailL (moreN 0 body)) ++ r) := by
    unfold recL
    rw [List.append_assoc]
  have ht8 : (recL kind body ++ r).take 8 = headL kind body.length ++ tailL (moreN 0 (headL kind body.length)) := by
    rw [hrec]
    exact List.take_left' hh
  have hs : (body ++ tailL (moreN 0 body)).length = body.length + 4 := by rw [List.length_append, tailL_length]
  have ht12 : ((recL kind body ++ r).take (12 + body.length)).drop 8 = body ++ tailL (moreN 0 body) := by
    rw [hrec, show 12 + body.length = 8 + (body.length + 4) from by omega, List.drop_take, show 8 + (body.length + 4) - 8 = body.length + 4 from by omega, List.drop_left' hh]
    exact List.take_left' hs
  unfold takeF
  rw [if_neg (by omega), Int.toNat_natCast, hdrop, ht8, openL_seal, if_neg (by rw [List.length_append, recL_length]; omega), if_pos rfl]
  unfold recB
  dsimp only
  have hk : (headL kind body.length).getD 0 0 = kind := by show kind % 256 = kind; omega
  have hd : (headL kind body.length).drop 1 = fixL body.length 3 := rfl
  rw [hk, hd, three_fix (by omega), if_neg (by omega), if_neg (by rw [List.length_append, recL_length]; omega), ht12, openL_seal, if_pos rfl]
/-- awake tells true. -/
theorem awake3_f (k : Nat) : concordancelaw3_awake.f (k + 1) = some true := by
  unfold concordancelaw3_awake.f
  have hn : isB [] := by intro x hx; cases hx
  rw [put_f (by simp) hn (by simp), Option.bind_some]
  have hp : putF [] 1 [] = (recL 1 [], 0) := by
    unfold putF
    rw [if_neg (by omega), if_neg (by simp), List.nil_append]
  have ht := take_rec (l := []) (r := []) (body := []) (kind := 1) hn (by omega) (by omega) (by simp)
  rw [List.nil_append, List.append_nil, List.length_nil] at ht
  have hto : frame_Take.f (recL 1 []) 0 = some (1, [], 12, 0) := by
    unfold frame_Take.f takeO
    rw [if_pos ⟨recL_isB hn, by rw [recL_length]; simp⟩]
    rw [show (((0 : Nat) : Int)) = 0 from rfl] at ht
    rw [ht]
    rfl
  rw [hp]
  dsimp only
  rw [hto, Option.bind_some, if_pos (by rw [recL_length]; simp), if_pos rfl, if_pos rfl, if_pos (by simp), if_pos rfl, if_pos rfl]
  decide +kernel
end Go.Proofs.Ytcnapbpljghfoaa.Plain

/- concordancelaw3.FrameBounds, walked by hand: kinds and lengths around their bounds. -/
namespace Go.Proofs.Ytcnapbpljghfoaa.Hand
open Go.RowKit Go.Proofs.YtcnapbpljghfoaaW.PrintWords Go.Proofs.YtcnapbpljghfoaaW.PrintLast Go.Proofs.YtcnapbpljghfoaaW.PrintMore
open Go.Proofs.Ytcnapbpljghfoaa.Plain Go.Proofs.Ytcnapbpljghfoaa.PCrc
attribute [local go_sem] max2_int min2_int max_two min_two
set_option linter.unusedVariables false
set_option linter.unusedSimpArgs false

set_option maxHeartbeats 1600000 in
set_option maxRecDepth 100000 in
theorem bounds_walk (a0 a1 : Int) (w : World) (hw0 : (Lit.int .i64 a0).wf = true) (hw1 : (Lit.int .i64 a1).wf = true) :
    Calls Try.prog 5 #[.int .i64 a0, .int .i64 a1] w fun e w' => e = .returned (.bool true) ∧ Below w.heap.size w w' := by
  obtain ⟨K, hK, hK1⟩ : ∃ K : Nat, Go.bits .and .i64 a0 511 = (K : Int) ∧ K ≤ 511 := by
    have e := and_low a0 9 (by omega)
    rw [show ((2 ^ 9 - 1 : Nat) : Int) = 511 from rfl, show ((2 ^ 9 : Nat) : Int) = 512 from rfl] at e
    exact ⟨(a0 % 512).toNat, by omega, by omega⟩
  obtain ⟨M, hM, hM1⟩ : ∃ M : Nat, Go.bits .and .i64 a1 31 = (M : Int) ∧ M ≤ 31 := by
    have e := and_low a1 5 (by omega)
    rw [show ((2 ^ 5 - 1 : Nat) : Int) = 31 from rfl, show ((2 ^ 5 : Nat) : Int) = 32 from rfl] at e
    exact ⟨(a1 % 32).toNat, by omega, by omega⟩
  have HM := Aside0.mk hM1
  have HAW := Aside0.mk (awake3_f 0)
  have HSZ := Aside0.mk (show frame_Size.f (-4) = some 12 from by unfold frame_Size.f mx; rw [if_pos (by omega), w64 (by omega) (by omega)]; rfl)
  obtain ⟨n, hn⟩ : ∃ n : Int, (M : Int) + 69990 = n := ⟨_, rfl⟩
  have hn0 : 69990 ≤ n := by omega
  have hn1 : n ≤ 70021 := by omega
  have HN := Aside0.mk (show 0 ≤ n ∧ n ≤ 70021 from by omega)
  have hlen : ((List.replicate n.toNat (0 : Int)).length : Int) = n := by rw [List.length_replicate]; omega
  have hbB : isB (List.replicate n.toNat (0 : Int)) := by intro x hx; rw [(List.mem_replicate.1 hx).2]; omega
  obtain ⟨body, hbody⟩ : ∃ b, List.replicate n.toNat (0 : Int) = b := ⟨_, rfl⟩
  have HREP := Aside0.mk hbody
  rw [hbody] at hlen hbB
  clear hbody
  have hput := put_f (l := []) (by simp) hbB (by omega) ((K : Int) - 10) 0
  unfold putF at hput
  by_cases c1 : (K : Int) - 10 < 1
  · rw [if_pos (.inl c1)] at hput
    have HPUT := Aside0.mk hput
    have d1 : decide ((K : Int) - 10 < 1) = true := decide_eq_true c1
    clear hput hlen hbB
    go_enter Try.func5, Try.ntmps5
    go_wp2_with (first | ((with_reducible refine gate_dst (N := 25) rfl ?_); refine Kd.R_make (Kd.int .u8) _ 5 rfl (N := 25) rfl 22 _ _ rfl n rfl rfl Try.underlying22 (.int .u8 0) 1 hinfo_u8 rfl (by decide) (by omega) 0 (ok := fun _ => True) (okp := fun _ => True) rfl (fun _ hk => hk) trivial HN.out.1 (by have := HN.out.2; omega) (Below.refl w.heap.size _) (Nat.le_refl _) ?_; intro v1 w1 ho hb hg_ hnew_; clear hg_ hnew_; rw [HREP.out] at ho; obtain ⟨A1, c1, rfl⟩ := Kd.R_slice ho; have HO := Aside0.mk (Kd.R_reads' ho).2; have HB := Aside0.mk hb; clear ho hb) | ((with_reducible refine gate_callee (f := 11) rfl ?_); refine goesL_ (some 29) rfl rfl Try.func11 (by kernel_rfl) rfl #[.slice none 0 0, .int .i64 ((K : Int) - 10), .slice A1 body.length c1] rfl (by (try simp only [List.map_toArray, List.map_cons, List.map_nil]); first | done | rfl) ?_; refine (frame_Put.calls 1 (fun _ => True) none 0 [] _ A1 c1 body _ _ _ (Kd.V_nil _ _ _ _ _) HO.out.2 HO.out.1 HPUT.out).mono ?_; rintro e w2 ⟨v2, rfl, ho, hb⟩; refine ⟨_, rfl, ?_⟩; obtain ⟨A2, c2, rfl⟩ := Kd.R_slice ho; have HO2 := Aside0.mk (Kd.R_reads' ho).2; clear HO ho; have n1_ := Aside0.mk (below_step HB.out hb); clear HB hb; have HB := n1_; clear n1_) | (go_at_call 10; refine (concordancelaw3_awake.calls _ _ _ HAW.out).mono ?_; rintro e w7 ⟨rfl, hb⟩; have n1_ := Aside0.mk (below_step HB.out hb); clear HB hb; have HB := n1_; clear n1_))
    go_ret
    exact ⟨rfl, HB.out⟩
  · have d1 : decide ((K : Int) - 10 < 1) = false := decide_eq_false c1
    by_cases c2 : 250 < (K : Int) - 10
    · rw [if_pos (.inr c2)] at hput
      have HPUT := Aside0.mk hput
      have d2 : decide (250 < (K : Int) - 10) = true := decide_eq_true c2
      clear hput hlen hbB
      go_enter Try.func5, Try.ntmps5
      go_wp2_with (first | ((with_reducible refine gate_dst (N := 25) rfl ?_); refine Kd.R_make (Kd.int .u8) _ 5 rfl (N := 25) rfl 22 _ _ rfl n rfl rfl Try.underlying22 (.int .u8 0) 1 hinfo_u8 rfl (by decide) (by omega) 0 (ok := fun _ => True) (okp := fun _ => True) rfl (fun _ hk => hk) trivial HN.out.1 (by have := HN.out.2; omega) (Below.refl w.heap.size _) (Nat.le_refl _) ?_; intro v1 w1 ho hb hg_ hnew_; clear hg_ hnew_; rw [HREP.out] at ho; obtain ⟨A1, c1, rfl⟩ := Kd.R_slice ho; have HO := Aside0.mk (Kd.R_reads' ho).2; have HB := Aside0.mk hb; clear ho hb) | ((with_reducible refine gate_callee (f := 11) rfl ?_); refine goesL_ (some 29) rfl rfl Try.func11 (by kernel_rfl) rfl #[.slice none 0 0, .int .i64 ((K : Int) - 10), .slice A1 body.length c1] rfl (by (try simp only [List.map_toArray, List.map_cons, List.map_nil]); first | done | rfl) ?_; refine (frame_Put.calls 1 (fun _ => True) none 0 [] _ A1 c1 body _ _ _ (Kd.V_nil _ _ _ _ _) HO.out.2 HO.out.1 HPUT.out).mono ?_; rintro e w2 ⟨v2, rfl, ho, hb⟩; refine ⟨_, rfl, ?_⟩; obtain ⟨A2, c2, rfl⟩ := Kd.R_slice ho; have HO2 := Aside0.mk (Kd.R_reads' ho).2; clear HO ho; have n1_ := Aside0.mk (below_step HB.out hb); clear HB hb; have HB := n1_; clear n1_) | (go_at_call 10; refine (concordancelaw3_awake.calls _ _ _ HAW.out).mono ?_; rintro e w7 ⟨rfl, hb⟩; have n1_ := Aside0.mk (below_step HB.out hb); clear HB hb; have HB := n1_; clear n1_))
      go_ret
      exact ⟨rfl, HB.out⟩
    · rw [if_neg (by omega)] at hput
      have d2 : decide (250 < (K : Int) - 10) = false := decide_eq_false c2
      by_cases c3 : 70000 < body.length
      · rw [if_pos c3] at hput
        have HPUT := Aside0.mk hput
        have d3 : decide (70000 < n) = true := decide_eq_true (by omega)
        clear hput hlen hbB
        go_enter Try.func5, Try.ntmps5
        go_wp2_with (first | ((with_reducible refine gate_dst (N := 25) rfl ?_); refine Kd.R_make (Kd.int .u8) _ 5 rfl (N := 25) rfl 22 _ _ rfl n rfl rfl Try.underlying22 (.int .u8 0) 1 hinfo_u8 rfl (by decide) (by omega) 0 (ok := fun _ => True) (okp := fun _ => True) rfl (fun _ hk => hk) trivial HN.out.1 (by have := HN.out.2; omega) (Below.refl w.heap.size _) (Nat.le_refl _) ?_; intro v1 w1 ho hb hg_ hnew_; clear hg_ hnew_; rw [HREP.out] at ho; obtain ⟨A1, c1, rfl⟩ := Kd.R_slice ho; have HO := Aside0.mk (Kd.R_reads' ho).2; have HB := Aside0.mk hb; clear ho hb) | ((with_reducible refine gate_callee (f := 11) rfl ?_); refine goesL_ (some 29) rfl rfl Try.func11 (by kernel_rfl) rfl #[.slice none 0 0, .int .i64 ((K : Int) - 10), .slice A1 body.length c1] rfl (by (try simp only [List.map_toArray, List.map_cons, List.map_nil]); first | done | rfl) ?_; refine (frame_Put.calls 1 (fun _ => True) none 0 [] _ A1 c1 body _ _ _ (Kd.V_nil _ _ _ _ _) HO.out.2 HO.out.1 HPUT.out).mono ?_; rintro e w2 ⟨v2, rfl, ho, hb⟩; refine ⟨_, rfl, ?_⟩; obtain ⟨A2, c2, rfl⟩ := Kd.R_slice ho; have HO2 := Aside0.mk (Kd.R_reads' ho).2; clear HO ho; have n1_ := Aside0.mk (below_step HB.out hb); clear HB hb; have HB := n1_; clear n1_) | (go_at_call 10; refine (concordancelaw3_awake.calls _ _ _ HAW.out).mono ?_; rintro e w7 ⟨rfl, hb⟩; have n1_ := Aside0.mk (below_step HB.out hb); clear HB hb; have HB := n1_; clear n1_))
        go_ret
        exact ⟨rfl, HB.out⟩
      · rw [if_neg c3, List.nil_append] at hput
        have d3 : decide (70000 < n) = false := decide_eq_false (by omega)
        have hrl := recL_length ((K : Int) - 10) body
        have hrB := recL_isB (kind := (K : Int) - 10) hbB
        have ht := take_rec (l := []) (r := []) (kind := (K : Int) - 10) hbB (by omega) (by omega) (by omega)
        rw [List.nil_append, List.append_nil, List.length_nil, show ((0 : Nat) : Int) = 0 from rfl, show (0 : Int) + 12 + (body.length : Int) = n + 12 from by omega] at ht
        obtain ⟨r, er⟩ : ∃ r, recL ((K : Int) - 10) body = r := ⟨_, rfl⟩
        rw [er] at hput hrl hrB ht
        have hT : ∀ a, takeO r a = some (takeF r a) := fun a => by unfold takeO; rw [if_pos ⟨hrB, by omega⟩]
        have HT1 := Aside0.mk (show takeO r 0 = some ((K : Int) - 10, body, n + 12, 0) from by rw [hT, ht])
        have HT2 := Aside0.mk (show takeO r ((r.length : Int) + 1) = some (0, [], 0, 1) from by rw [hT]; unfold takeF; rw [if_pos (.inr (by omega))])
        have HT3 := Aside0.mk (show takeO r (-1) = some (0, [], 0, 1) from by rw [hT]; unfold takeF; rw [if_pos (.inl (by omega))])
        have hrm : r.length ≤ 1000000 := by omega
        have hbe : ((body.length : Int) == n) = true := beq_iff_eq.mpr (by omega)
        have HPUT := Aside0.mk hput
        clear hput hlen hbB hrB hrl ht er hT
        go_enter Try.func5, Try.ntmps5
        go_wp2_with (first | ((with_reducible refine gate_dst (N := 25) rfl ?_); refine Kd.R_make (Kd.int .u8) _ 5 rfl (N := 25) rfl 22 _ _ rfl n rfl rfl Try.underlying22 (.int .u8 0) 1 hinfo_u8 rfl (by decide) (by omega) 0 (ok := fun _ => True) (okp := fun _ => True) rfl (fun _ hk => hk) trivial HN.out.1 (by have := HN.out.2; omega) (Below.refl w.heap.size _) (Nat.le_refl _) ?_; intro v1 w1 ho hb hg_ hnew_; clear hg_ hnew_; rw [HREP.out] at ho; obtain ⟨A1, c1, rfl⟩ := Kd.R_slice ho; have HO := Aside0.mk (Kd.R_reads' ho).2; have HB := Aside0.mk hb; clear ho hb) | ((with_reducible refine gate_callee (f := 11) rfl ?_); refine goesL_ (some 29) rfl rfl Try.func11 (by kernel_rfl) rfl #[.slice none 0 0, .int .i64 ((K : Int) - 10), .slice A1 body.length c1] rfl (by (try simp only [List.map_toArray, List.map_cons, List.map_nil]); first | done | rfl) ?_; refine (frame_Put.calls 1 (fun _ => True) none 0 [] _ A1 c1 body _ _ _ (Kd.V_nil _ _ _ _ _) HO.out.2 HO.out.1 HPUT.out).mono ?_; rintro e w2 ⟨v2, rfl, ho, hb⟩; refine ⟨_, rfl, ?_⟩; obtain ⟨A2, c2, rfl⟩ := Kd.R_slice ho; have HO2 := Aside0.mk (Kd.R_reads' ho).2; clear HO ho; have n1_ := Aside0.mk (below_step HB.out hb); clear HB hb; have HB := n1_; clear n1_) | ((with_reducible refine gate_callee (f := 13) rfl ?_); refine goesL_ (some 55) rfl rfl Try.func13 (by kernel_rfl) rfl #[.slice A2 r.length c2, .int .i64 0] rfl (by (try simp only [List.map_toArray, List.map_cons, List.map_nil]); first | done | rfl) ?_; refine (take_calls _ _ r 0 _ _ _ _ _ HO2.out.2 HO2.out.1 HT1.out).mono ?_; rintro e w3 ⟨v3, rfl, hv, hb⟩; refine ⟨_, rfl, ?_⟩; obtain ⟨A3, c3, rfl, hle3, hF3⟩ := hv; have n0_ := Aside0.mk (And.intro HO2.out.1 (Kd.C_alloc (Kd.C_below HO2.out.2 hb) (.cells #[.int .i64 ((K : Int) - 10), .slice A3 body.length c3] 29))); have n1_ := Aside0.mk (below_alloc (below_step HB.out hb) (.cells #[.int .i64 ((K : Int) - 10), .slice A3 body.length c3] 29)); clear HB HO2; have HB := n1_; have HO2 := n0_; have HBX := Aside0.mk (blk_new w3 (.cells #[.int .i64 ((K : Int) - 10), .slice A3 body.length c3] 29)); clear n0_ n1_ hb hF3 hle3) | ((with_reducible refine gate_callee (f := 13) rfl ?_); refine goesL_ (some 64) rfl rfl Try.func13 (by kernel_rfl) rfl #[.slice A2 r.length c2, .int .i64 ((r.length : Int) + 1)] rfl (by (try simp only [List.map_toArray, List.map_cons, List.map_nil]); first | done | rfl) ?_; refine (take_calls _ _ r ((r.length : Int) + 1) _ _ _ _ _ HO2.out.2 HO2.out.1 HT2.out).mono ?_; rintro e w4 ⟨v4, rfl, hv, hb⟩; refine ⟨_, rfl, ?_⟩; obtain ⟨A4, c4, rfl, hle4, hF4⟩ := hv; have n0_ := Aside0.mk (And.intro HO2.out.1 (Kd.C_alloc (Kd.C_below HO2.out.2 hb) (.cells #[.int .i64 0, .slice A4 0 c4] 29))); have n1_ := Aside0.mk (below_alloc (below_step HB.out hb) (.cells #[.int .i64 0, .slice A4 0 c4] 29)); have n2_ := Aside0.mk (blk_alloc (blk_below HBX.out hb) (.cells #[.int .i64 0, .slice A4 0 c4] 29)); clear HB HO2 HBX; have HB := n1_; have HO2 := n0_; have HBX := n2_; clear n0_ n1_ n2_ hb hF4 hle4) | ((with_reducible refine gate_callee (f := 13) rfl ?_); refine goesL_ (some 70) rfl rfl Try.func13 (by kernel_rfl) rfl #[.slice A2 r.length c2, .int .i64 (-1)] rfl (by (try simp only [List.map_toArray, List.map_cons, List.map_nil]); first | done | rfl) ?_; refine (take_calls _ _ r (-1) _ _ _ _ _ HO2.out.2 HO2.out.1 HT3.out).mono ?_; rintro e w5 ⟨v5, rfl, hv, hb⟩; refine ⟨_, rfl, ?_⟩; obtain ⟨A5, c5, rfl, hle5, hF5⟩ := hv; have n1_ := Aside0.mk (below_alloc (below_step HB.out hb) (.cells #[.int .i64 0, .slice A5 0 c5] 29)); have n2_ := blk_alloc (blk_below HBX.out hb) (.cells #[.int .i64 0, .slice A5 0 c5] 29); clear HB; have HB := n1_; have hx0 := blk_cell n2_ 0; have hx1 := blk_cell n2_ 1; clear n1_ n2_ hb hF5 hle5) | (go_at_call 15; refine (frame_Size.calls _ _ _ HSZ.out).mono ?_; rintro e w6 ⟨rfl, hb⟩; have n1_ := Aside0.mk (below_step HB.out hb); clear HB hb; have HB := n1_; clear n1_) | (go_at_call 10; refine (concordancelaw3_awake.calls _ _ _ HAW.out).mono ?_; rintro e w7 ⟨rfl, hb⟩; have n1_ := Aside0.mk (below_step HB.out hb); clear HB hb; have HB := n1_; clear n1_))
        go_ret
        exact ⟨rfl, HB.out⟩
end Go.Proofs.Ytcnapbpljghfoaa.Hand
