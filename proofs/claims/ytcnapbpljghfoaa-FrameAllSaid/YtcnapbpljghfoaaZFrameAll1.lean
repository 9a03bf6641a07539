/- Texts of this seat, one behind the other: what concordance's FrameAll reaches. -/
import Derived.Test.YtcnapbpljghfoaaZFrameAll0
import Derived.RangeFuncBox
import Derived.RangeFuncLeaves
import Derived.RangeFuncNested
import Derived.Shelf.Abstract
import Derived.OwnWalkIn
import Derived.TacticsInMore
import Derived.LoopNIn
import Derived.LoopIn
import Derived.Maps.AppendAt
import Derived.Outline
/- The contract, proved by hand, of frame.Take: the record at a place of bytes, its end, or why there is none. -/
namespace Go.Proofs.Ytcnapbpljghfoaa.Plain
open Go.RowKit Go.Proofs.YtcnapbpljghfoaaW.PrintWords
open Go.Proofs.Ytcnapbpljghfoaa.PCrc
set_option linter.unusedVariables false
/-- The number of three bytes, the greatest first. -/
def three (l : List Int) : Nat := (l.getD 0 0).toNat * 65536 + (l.getD 1 0).toNat * 256 + (l.getD 2 0).toNat
theorem or_add (a b : Nat) (hb : b < 256) : a * 256 ||| b = a * 256 + b := by
  have := Nat.two_pow_add_eq_or_of_lt (i := 8) (b := b) (by simpa using hb) a
  rw [Nat.mul_comm a 256]
  exact this.symm
theorem fixedV_three {l : List Int} (hb : isB l) (hl : l.length = 3) : Hand.fixedV l = ((three l : Nat) : Int) := by
  obtain ⟨a, b, c, rfl⟩ : ∃ a b c, l = [a, b, c] := by
    match l, hl with
    | [a, b, c], _ => exact ⟨a, b, c, rfl⟩
  have ha := hb a (by simp)
  have hbb := hb b (by simp)
  have hc := hb c (by simp)
  obtain ⟨a, rfl⟩ := Int.eq_ofNat_of_zero_le ha.1
  obtain ⟨b, rfl⟩ := Int.eq_ofNat_of_zero_le hbb.1
  obtain ⟨c, rfl⟩ := Int.eq_ofNat_of_zero_le hc.1
  have w : ∀ x : Nat, x < 18446744073709551616 → IntKind.u64.wrap (x : Int) = (x : Int) := by
    intro x hx
    rw [IntKind.wrap_u64]
    omega
  have step : ∀ m x : Nat, m < 65536 → x < 256 → Go.bits .or .u64 (IntKind.u64.wrap ((m : Int) * 256)) (IntKind.u64.wrap (x : Int)) = ((m * 256 + x : Nat) : Int) := by
    intro m x hm hx
    rw [show (m : Int) * 256 = ((m * 256 : Nat) : Int) from by omega, w _ (by omega), w _ (by omega), Go.u64_or_nat _ _ (by omega) (by omega), or_add m x hx]
  unfold Hand.fixedV three
  simp only [List.foldl_cons, List.foldl_nil]
  rw [show (0 : Int) = ((0 : Nat) : Int) from rfl, step 0 a (by omega) (by omega), step _ b (by omega) (by omega), step _ c (by omega) (by omega)]
  simp
  omega
theorem three_lt {l : List Int} (hb : isB l) (hl : l.length = 3) : three l < 16777216 := by
  obtain ⟨a, b, c, rfl⟩ : ∃ a b c, l = [a, b, c] := by
    match l, hl with
    | [a, b, c], _ => exact ⟨a, b, c, rfl⟩
  have ha := hb a (by simp)
  have hbb := hb b (by simp)
  have hc := hb c (by simp)
  simp [three]
  omega
/-- What crc.Open tells is as long as it must be. -/
theorem openL_len {l : List Int} (h : (openL l).2 = 0) : (openL l).1 = l.take (l.length - 4) ∧ 4 ≤ l.length := by
  unfold openL at h ⊢
  split
  · rename_i h4; rw [if_pos h4] at h; cases h
  · rename_i h4
    rw [if_neg h4] at h
    split
    · exact ⟨rfl, by omega⟩
    · rename_i h5; rw [if_neg h5] at h; cases h
theorem openL_err {l : List Int} (h : (openL l).2 ≠ 0) : (openL l).1 = [] := by
  unfold openL at h ⊢
  split
  · rfl
  · rename_i h4
    rw [if_neg h4] at h
    split
    · rename_i h5; rw [if_pos h5] at h; exact absurd rfl h
    · rfl
theorem openL_isB {l : List Int} (hb : isB l) : isB (openL l).1 := by
  by_cases h : (openL l).2 = 0
  · rw [(openL_len h).1]; exact isB_take hb _
  · rw [openL_err h]; intro x hx; cases hx
/-- Behind the head (h: what of it is opened; r: all from the place on; a: the place). -/
def recB (h r : List Int) (a : Int) : Int × List Int × Int × Int :=
  if h.getD 0 0 < 1 ∨ 250 < h.getD 0 0 ∨ 70000 < three (h.drop 1) then (0, [], 0, 3)
  else if (r.length : Int) - 8 < (three (h.drop 1) : Int) + 4 then (0, [], 0, 4)
  else if (openL ((r.take (12 + three (h.drop 1))).drop 8)).2 = 0 then (h.getD 0 0, (openL ((r.take (12 + three (h.drop 1))).drop 8)).1, a + 12 + (three (h.drop 1) : Int), 0)
  else (0, [], 0, (openL ((r.take (12 + three (h.drop 1))).drop 8)).2)
/-- What frame.Take tells: kind, body, the place behind, the error. -/
def takeF (l : List Int) (a : Int) : Int × List Int × Int × Int :=
  if a < 0 ∨ (l.length : Int) < a then (0, [], 0, 1)
  else if (l.drop a.toNat).length < 8 then (0, [], 0, 4)
  else if (openL ((l.drop a.toNat).take 8)).2 = 0 then recB (openL ((l.drop a.toNat).take 8)).1 (l.drop a.toNat) a
  else (0, [], 0, (openL ((l.drop a.toNat).take 8)).2)
end Go.Proofs.Ytcnapbpljghfoaa.Plain
namespace Go.Proofs.Ytcnapbpljghfoaa.Hand
open Go.RowKit Go.Proofs.YtcnapbpljghfoaaW.PrintWords Go.Proofs.YtcnapbpljghfoaaW.PrintLast Go.Proofs.YtcnapbpljghfoaaW.PrintMore
open Go.Proofs.Ytcnapbpljghfoaa.Plain Go.Proofs.Ytcnapbpljghfoaa.PCrc
set_option linter.unusedVariables false
set_option linter.unusedSimpArgs false
def takeO (l : List Int) (a : Int) : Option (Int × List Int × Int × Int) := if (∀ x ∈ l, 0 ≤ x ∧ x < 256) ∧ l.length ≤ 140737488355328 then some (takeF l a) else none
/-- The two cells of a record's box. -/
def FBox (g : Nat) (a b : Value) (W : World) : Prop := W.heap[g]? = some (.cells #[a, b] 29 (0, 0))
theorem FBox.ends {W : World} {g : Nat} {a b : Value} (h : FBox g a b W) {tmps : Array Value} {x y : Value} (hp : tmps.getD 4 undef = .pointer (some ⟨g, 0, none⟩)) (hx : tmps.getD 5 undef = x) (hy : tmps.getD 6 undef = y) :
    (results Try.f13 tmps).run Try.prog W = .ok (.tuple #[.agg #[a, b], x, y]) W := by
  subst hx hy
  exact results_ctt rfl tmps W g 29 #[a, b] (0, 0) _ hp h Try.underlying29 rfl rfl
theorem FBox.set {W : World} {g : Nat} {a b : Value} (h : FBox g a b W) (c d : Value) : FBox g c d ((W.setCell ⟨g, 0, none⟩ c).setCell ⟨g, 1, none⟩ d) := by
  have h1 := blk_set h 0 c
  have h2 := blk_set h1 1 d
  exact h2

set_option maxHeartbeats 4000000 in
set_option maxRecDepth 100000 in
theorem take5_calls (A0 : Option Addr) (c0 : Nat) (l0 : List Int) (a1 : Int) (r1 : Int) (r2 : List Int) (r3 : Int) (r4 : Int) (w : World) (hr0 : Kd.C (Kd.int .u8) w A0 l0.length l0) (hc0 : l0.length ≤ c0) (h : takeO l0 a1 = some (r1, r2, r3, r4)) :
    Calls Try.prog 13 #[.slice A0 l0.length c0, .int .i64 a1] w fun e w' => ∃ v1_ : Value, e = .returned (.tuple #[.agg #[.int .i64 r1, v1_], .int .i64 r3, .int .i64 r4]) ∧ B5 w' w.heap.size v1_ r2 ∧ Below w.heap.size w w' := by
  unfold takeO at h
  by_cases hcnd : (∀ x ∈ l0, 0 ≤ x ∧ x < 256) ∧ l0.length ≤ 140737488355328
  · rw [if_pos hcnd] at h
    replace h := Option.some.inj h
    have HBY := Aside0.mk (show isB l0 from hcnd.1)
    have HL := Aside0.mk hcnd.2
    have HR := Aside0.mk hr0
    clear hcnd hr0
    unfold takeF at h
    have HB0 := Aside0.mk (Below.refl w.heap.size w)
    by_cases c1 : a1 < 0
    · rw [if_pos (.inl c1)] at h
      (injection h with e1 h; injection h with e2 h; injection h with e3 e4; subst e1 e2 e3 e4)
      have d1 : decide (a1 < 0) = true := decide_eq_true c1
      go_enter Try.func13, Try.ntmps13
      go_wp2_with (first | ((with_reducible refine gate_dst (N := 4) rfl ?_); refine box_event ?hg (N := 4) ?hd (cs := #[.int .i64 0, .slice none 0 0]) (t := 29) ?hr ?_; (case hd => rfl); (case hg => rfl); (case hr => first | (go_simp; done) | (go_simp; rfl)); intro gb hgb w4 hbox hb; have HGE := Aside0.mk (show w.heap.size ≤ gb by omega); have HB := Aside0.mk hb; have hx0 := blk_cell hbox 0; have hx1 := blk_cell hbox 1; have hy0 := blk_frozen hbox 0; have hy1 := blk_frozen hbox 1; have HX := Aside0.mk (show FBox gb _ _ w4 from hbox); clear hgb hb hbox))
      (go_wp2; refine bodyPost_ret (FBox.ends (HX.out.set _ _) rfl rfl rfl) rfl ⟨_, rfl, B5.nil _ _, (below_set (below_set HB.out HGE.out) HGE.out)⟩)
    · obtain ⟨a, rfl⟩ := Int.eq_ofNat_of_zero_le (show 0 ≤ a1 by omega)
      have d1 : decide ((a : Int) < 0) = false := decide_eq_false c1
      by_cases c2 : (l0.length : Int) < (a : Int)
      · rw [if_pos (.inr c2)] at h
        (injection h with e1 h; injection h with e2 h; injection h with e3 e4; subst e1 e2 e3 e4)
        have d2 : decide ((l0.length : Int) < (a : Int)) = true := decide_eq_true c2
        have d3 : decide (l0.length < a) = true := decide_eq_true (by omega)
        go_enter Try.func13, Try.ntmps13
        go_wp2_with (first | ((with_reducible refine gate_dst (N := 4) rfl ?_); refine box_event ?hg (N := 4) ?hd (cs := #[.int .i64 0, .slice none 0 0]) (t := 29) ?hr ?_; (case hd => rfl); (case hg => rfl); (case hr => first | (go_simp; done) | (go_simp; rfl)); intro gb hgb w4 hbox hb; have HGE := Aside0.mk (show w.heap.size ≤ gb by omega); have HB := Aside0.mk hb; have hx0 := blk_cell hbox 0; have hx1 := blk_cell hbox 1; have hy0 := blk_frozen hbox 0; have hy1 := blk_frozen hbox 1; have HX := Aside0.mk (show FBox gb _ _ w4 from hbox); clear hgb hb hbox))
        (go_wp2; refine bodyPost_ret (FBox.ends (HX.out.set _ _) rfl rfl rfl) rfl ⟨_, rfl, B5.nil _ _, (below_set (below_set HB.out HGE.out) HGE.out)⟩)
      · rw [if_neg (by omega)] at h
        have d2 : decide ((l0.length : Int) < (a : Int)) = false := decide_eq_false c2
        have d3 : decide (l0.length < a) = false := decide_eq_false (by omega)
        obtain ⟨i0, hi0, _, hsz0, _⟩ := info_parts hinfo_u8
        obtain ⟨A1, hcut1, hA1, hC1⟩ := print_drop_of (P := Try.prog) (Value.int .u8) 0 22 5 .i64 Try.underlying22 hi0 hsz0 A0 c0 l0 (a : Int) (by omega) (by omega) hc0
        have hR1 := Kd.C_of_reads (h1 := fun _ => rfl) (hA1 _ (Kd.reads_of_C HR.out))
        have hBr := isB_drop HBY.out a
        have hLr : (l0.drop a).length ≤ l0.length := by rw [List.length_drop]; omega
        simp only [Int.toNat_natCast] at hcut1 hR1 hC1 h
        obtain ⟨r, er⟩ : ∃ x, l0.drop a = x := ⟨_, rfl⟩
        obtain ⟨cr, ecr⟩ : ∃ x, c0 - a = x := ⟨_, rfl⟩
        rw [er] at hcut1 hR1 hC1 h hBr hLr
        rw [ecr] at hcut1 hC1
        have HBr := Aside0.mk hBr
        have HLr := Aside0.mk (Nat.le_trans hLr HL.out)
        have HAL := Aside0.mk (show a ≤ l0.length by omega)
        have HRr : Aside0 (Kd.C (Kd.int .u8) w A1 r.length r) := ⟨hR1⟩
        have HCr := Aside0.mk hC1
        clear hBr hLr er ecr hR1 hC1 hA1
        by_cases c3 : r.length < 8
        · rw [if_pos c3] at h
          (injection h with e1 h; injection h with e2 h; injection h with e3 e4; subst e1 e2 e3 e4)
          have d4 : decide ((r.length : Int) < 8) = true := decide_eq_true (by omega)
          go_enter Try.func13, Try.ntmps13
          go_wp2_with (first | ((with_reducible refine gate_dst (N := 4) rfl ?_); refine box_event ?hg (N := 4) ?hd (cs := #[.int .i64 0, .slice none 0 0]) (t := 29) ?hr ?_; (case hd => rfl); (case hg => rfl); (case hr => first | (go_simp; done) | (go_simp; rfl)); intro gb hgb w4 hbox hb; have HGE := Aside0.mk (show w.heap.size ≤ gb by omega); have HB := Aside0.mk hb; have hx0 := blk_cell hbox 0; have hx1 := blk_cell hbox 1; have hy0 := blk_frozen hbox 0; have hy1 := blk_frozen hbox 1; have HX := Aside0.mk (show FBox gb _ _ w4 from hbox); clear hgb hb hbox))
          (go_wp2; refine bodyPost_ret (FBox.ends (HX.out.set _ _) rfl rfl rfl) rfl ⟨_, rfl, B5.nil _ _, (below_set (below_set HB.out HGE.out) HGE.out)⟩)
        · rw [if_neg c3] at h
          have d4 : decide ((r.length : Int) < 8) = false := decide_eq_false (by omega)
          have HC3 := Aside0.mk c3
          obtain ⟨hcut2, hA2, hC2⟩ := print_take_of (P := Try.prog) (Value.int .u8) 0 22 5 .i64 Try.underlying22 hi0 hsz0 A1 cr r (8 : Int) (by omega) (by omega) HCr.out
          have hR2 := Kd.C_of_reads (h1 := fun _ => rfl) (hA2 _ (Kd.reads_of_C HRr.out))
          have hB8 := isB_take HBr.out 8
          have hl8 : (r.take 8).length = 8 := by rw [List.length_take]; omega
          rw [show (8 : Int).toNat = 8 from rfl] at hcut2 hR2
          obtain ⟨x8, ex8⟩ : ∃ x, r.take 8 = x := ⟨_, rfl⟩
          rw [ex8] at hcut2 hR2 h hB8 hl8
          have hop := open_f hB8 (by omega)
          have hoB := openL_isB hB8
          have hol := openL_len (l := x8)
          have hoe := openL_err (l := x8)
          obtain ⟨x4, e4, eop⟩ : ∃ x e, openL x8 = (x, e) := ⟨_, _, rfl⟩
          rw [eop] at hop h hoB hol hoe
          dsimp only at h hoB hol hoe
          have HOP := Aside0.mk (fun (w' : World) (hw : Kd.C (Kd.int .u8) w' A1 x8.length x8) => crc_Open.calls A1 cr x8 x4 e4 w' hw (by have := HCr.out; omega) hop)
          rw [hl8] at hcut2 hR2 HOP
          have HR8 : Aside0 (Kd.C (Kd.int .u8) w A1 8 x8) := ⟨hR2⟩
          clear hR2 hop hB8 hA2 hC2 c3 eop
          by_cases c4 : e4 = 0
          · subst c4
            rw [if_pos rfl] at h
            have hl4 : x4.length = 4 := by rw [(hol rfl).1, List.length_take]; omega
            obtain ⟨k0, ek0⟩ : ∃ k, x4.getD 0 0 = k := ⟨_, rfl⟩
            have hk0 : 0 ≤ k0 ∧ k0 < 256 := by
              rw [← ek0, List.getD_eq_getElem?_getD, List.getElem?_eq_getElem (show 0 < x4.length by omega)]
              exact hoB _ (List.getElem_mem _)
            have hB3 := isB_drop hoB 1
            have hl3 : (x4.drop 1).length = 3 := by rw [List.length_drop]; omega
            have hfx : fixedF (x4.drop 1) 3 = some (((three (x4.drop 1) : Nat) : Int), 0) := by
              unfold fixedF
              rw [if_neg (by omega), if_neg (by omega), List.take_of_length_le (by rw [hl3]; decide), fixedV_three hB3 hl3]
            have hn3 := three_lt hB3 hl3
            unfold recB at h
            rw [ek0] at h
            obtain ⟨n, en⟩ : ∃ n, three (x4.drop 1) = n := ⟨_, rfl⟩
            rw [en] at hfx hn3 h
            have HFX := Aside0.mk hfx
            have HL4 := Aside0.mk hl4
            have HL3 := Aside0.mk hl3
            have HEK := Aside0.mk ek0
            have hk1 := hk0.1
            have hk2 := hk0.2
            clear hfx hl3 hB3 en hol hoe hoB hk0 ek0
            by_cases c5 : k0 < 1
            · have d5 : decide (k0 < 1) = true := decide_eq_true c5
              rw [if_pos (.inl c5)] at h
              (injection h with e1 h; injection h with e2 h; injection h with e3 e4; subst e1 e2 e3 e4)
              go_enter Try.func13, Try.ntmps13
              go_wp2_with (first | ((with_reducible refine gate_dst (N := 4) rfl ?_); refine box_event ?hg (N := 4) ?hd (cs := #[.int .i64 0, .slice none 0 0]) (t := 29) ?hr ?_; (case hd => rfl); (case hg => rfl); (case hr => first | (go_simp; done) | (go_simp; rfl)); intro gb hgb w4 hbox hb; have HGE := Aside0.mk (show w.heap.size ≤ gb by omega); have HB := Aside0.mk hb; have hx0 := blk_cell hbox 0; have hx1 := blk_cell hbox 1; have hy0 := blk_frozen hbox 0; have hy1 := blk_frozen hbox 1; have HX := Aside0.mk (show FBox gb _ _ w4 from hbox); clear hgb hb hbox) | (((with_reducible refine gate_callee (f := 22) rfl ?_); refine goesL_ (some 34) rfl rfl Try.func22 (by kernel_rfl) rfl #[.slice A1 8 cr] rfl (by (try simp only [List.map_toArray, List.map_cons, List.map_nil]); first | done | rfl) ?_; refine (HOP.out _ (Kd.C_below HR8.out HB.out)).mono ?_; rintro e w5 ⟨v5, rfl, ho, hb⟩; refine ⟨_, rfl, ?_⟩; obtain ⟨A2, c2, rfl, hle2, hF2⟩ := ho; have HF2 := Aside0.mk hF2; have HLE2 := Aside0.mk hle2; clear hF2 hle2; (have n0_ := Aside0.mk (below_step HB.out hb); have n1_ := Aside0.mk (show FBox gb _ _ _ from blk_below HX.out hb); clear HB HX hx0 hx1 hy0 hy1; have HB := n0_; have HX := n1_; clear n0_ n1_ hb; (have hx0 := blk_cell HX.out 0; have hx1 := blk_cell HX.out 1; have hy0 := blk_frozen HX.out 0; have hy1 := blk_frozen HX.out 1))); (obtain ⟨A3, hcut3, hA3, hC3⟩ := print_drop_of (P := Try.prog) (Value.int .u8) 0 22 5 .i64 Try.underlying22 hi0 hsz0 A2 c2 x4 (1 : Int) (by omega) (by have := HL4.out; omega) HLE2.out; have hR3 := Kd.C_of_reads (h1 := fun _ => rfl) (hA3 _ (Kd.reads_of_C (Kd.F_now HF2.out))); rw [show (1 : Int).toNat = 1 from rfl] at hcut3 hR3 hC3; have HR3 : Aside0 (Kd.C (Kd.int .u8) w5 A3 (x4.drop 1).length (x4.drop 1)) := ⟨hR3⟩; obtain ⟨ad, rfl, hcell⟩ := Kd.at_int (Kd.F_now HF2.out) 0 (by omega) (by have := HL4.out; omega); rw [show rd x4 0 = k0 from HEK.out, show ((0 : Int)).toNat = 0 from rfl] at hcell; have hcell0 : w5.cell? ad = some (.int .u8 k0) := (by simpa [Addr.add] using hcell); rw [HL3.out, HL4.out] at hcut3; rw [HL3.out] at hC3; have HC3' := Aside0.mk hC3; have HCALL := Aside0.mk (fun (w' : World) (hw : Kd.C (Kd.int .u8) w' A3 (x4.drop 1).length (x4.drop 1)) => fixed_calls A3 (c2 - 1) (x4.drop 1) 3 (n : Int) 0 w' hw (by have := HL3.out; have := HC3'.out; omega) HFX.out); rw [HL3.out] at HCALL; have HR3' := HR3; rw [HL3.out] at HR3'; clear hR3 hA3 hC3; (try rw [HL4.out]))) | (go_at_call 23; refine (HCALL.out _ HR3'.out).mono ?_; rintro e w6 ⟨rfl, ⟨nd, rfl⟩⟩; have n0_ := Aside0.mk (pw_below_drewN HB.out nd); have n1_ := Aside0.mk (show FBox gb _ _ (w5.drewN nd) from blk_drewN HX.out nd); clear HB HX hx0 hx1 hy0 hy1; have HB := n0_; have HX := n1_; clear n0_ n1_; (have hx0 := blk_cell HX.out 0; have hx1 := blk_cell HX.out 1; have hy0 := blk_frozen HX.out 0; have hy1 := blk_frozen HX.out 1)))
              (go_wp2; refine bodyPost_ret (FBox.ends (HX.out.set _ _) rfl rfl rfl) rfl ⟨_, rfl, B5.nil _ _, (below_set (below_set HB.out HGE.out) HGE.out)⟩)
            · have d5 : decide (k0 < 1) = false := decide_eq_false c5
              by_cases c6 : 250 < k0
              · have d6 : decide (250 < k0) = true := decide_eq_true c6
                rw [if_pos (.inr (.inl c6))] at h
                (injection h with e1 h; injection h with e2 h; injection h with e3 e4; subst e1 e2 e3 e4)
                go_enter Try.func13, Try.ntmps13
                go_wp2_with (first | ((with_reducible refine gate_dst (N := 4) rfl ?_); refine box_event ?hg (N := 4) ?hd (cs := #[.int .i64 0, .slice none 0 0]) (t := 29) ?hr ?_; (case hd => rfl); (case hg => rfl); (case hr => first | (go_simp; done) | (go_simp; rfl)); intro gb hgb w4 hbox hb; have HGE := Aside0.mk (show w.heap.size ≤ gb by omega); have HB := Aside0.mk hb; have hx0 := blk_cell hbox 0; have hx1 := blk_cell hbox 1; have hy0 := blk_frozen hbox 0; have hy1 := blk_frozen hbox 1; have HX := Aside0.mk (show FBox gb _ _ w4 from hbox); clear hgb hb hbox) | (((with_reducible refine gate_callee (f := 22) rfl ?_); refine goesL_ (some 34) rfl rfl Try.func22 (by kernel_rfl) rfl #[.slice A1 8 cr] rfl (by (try simp only [List.map_toArray, List.map_cons, List.map_nil]); first | done | rfl) ?_; refine (HOP.out _ (Kd.C_below HR8.out HB.out)).mono ?_; rintro e w5 ⟨v5, rfl, ho, hb⟩; refine ⟨_, rfl, ?_⟩; obtain ⟨A2, c2, rfl, hle2, hF2⟩ := ho; have HF2 := Aside0.mk hF2; have HLE2 := Aside0.mk hle2; clear hF2 hle2; (have n0_ := Aside0.mk (below_step HB.out hb); have n1_ := Aside0.mk (show FBox gb _ _ _ from blk_below HX.out hb); clear HB HX hx0 hx1 hy0 hy1; have HB := n0_; have HX := n1_; clear n0_ n1_ hb; (have hx0 := blk_cell HX.out 0; have hx1 := blk_cell HX.out 1; have hy0 := blk_frozen HX.out 0; have hy1 := blk_frozen HX.out 1))); (obtain ⟨A3, hcut3, hA3, hC3⟩ := print_drop_of (P := Try.prog) (Value.int .u8) 0 22 5 .i64 Try.underlying22 hi0 hsz0 A2 c2 x4 (1 : Int) (by omega) (by have := HL4.out; omega) HLE2.out; have hR3 := Kd.C_of_reads (h1 := fun _ => rfl) (hA3 _ (Kd.reads_of_C (Kd.F_now HF2.out))); rw [show (1 : Int).toNat = 1 from rfl] at hcut3 hR3 hC3; have HR3 : Aside0 (Kd.C (Kd.int .u8) w5 A3 (x4.drop 1).length (x4.drop 1)) := ⟨hR3⟩; obtain ⟨ad, rfl, hcell⟩ := Kd.at_int (Kd.F_now HF2.out) 0 (by omega) (by have := HL4.out; omega); rw [show rd x4 0 = k0 from HEK.out, show ((0 : Int)).toNat = 0 from rfl] at hcell; have hcell0 : w5.cell? ad = some (.int .u8 k0) := (by simpa [Addr.add] using hcell); rw [HL3.out, HL4.out] at hcut3; rw [HL3.out] at hC3; have HC3' := Aside0.mk hC3; have HCALL := Aside0.mk (fun (w' : World) (hw : Kd.C (Kd.int .u8) w' A3 (x4.drop 1).length (x4.drop 1)) => fixed_calls A3 (c2 - 1) (x4.drop 1) 3 (n : Int) 0 w' hw (by have := HL3.out; have := HC3'.out; omega) HFX.out); rw [HL3.out] at HCALL; have HR3' := HR3; rw [HL3.out] at HR3'; clear hR3 hA3 hC3; (try rw [HL4.out]))) | (go_at_call 23; refine (HCALL.out _ HR3'.out).mono ?_; rintro e w6 ⟨rfl, ⟨nd, rfl⟩⟩; have n0_ := Aside0.mk (pw_below_drewN HB.out nd); have n1_ := Aside0.mk (show FBox gb _ _ (w5.drewN nd) from blk_drewN HX.out nd); clear HB HX hx0 hx1 hy0 hy1; have HB := n0_; have HX := n1_; clear n0_ n1_; (have hx0 := blk_cell HX.out 0; have hx1 := blk_cell HX.out 1; have hy0 := blk_frozen HX.out 0; have hy1 := blk_frozen HX.out 1)))
                (go_wp2; refine bodyPost_ret (FBox.ends (HX.out.set _ _) rfl rfl rfl) rfl ⟨_, rfl, B5.nil _ _, (below_set (below_set HB.out HGE.out) HGE.out)⟩)
              · have d6 : decide (250 < k0) = false := decide_eq_false c6
                by_cases c7 : 70000 < n
                · have d7 : decide (70000 < (n : Int)) = true := decide_eq_true (by omega)
                  rw [if_pos (.inr (.inr c7))] at h
                  (injection h with e1 h; injection h with e2 h; injection h with e3 e4; subst e1 e2 e3 e4)
                  go_enter Try.func13, Try.ntmps13
                  go_wp2_with (first | ((with_reducible refine gate_dst (N := 4) rfl ?_); refine box_event ?hg (N := 4) ?hd (cs := #[.int .i64 0, .slice none 0 0]) (t := 29) ?hr ?_; (case hd => rfl); (case hg => rfl); (case hr => first | (go_simp; done) | (go_simp; rfl)); intro gb hgb w4 hbox hb; have HGE := Aside0.mk (show w.heap.size ≤ gb by omega); have HB := Aside0.mk hb; have hx0 := blk_cell hbox 0; have hx1 := blk_cell hbox 1; have hy0 := blk_frozen hbox 0; have hy1 := blk_frozen hbox 1; have HX := Aside0.mk (show FBox gb _ _ w4 from hbox); clear hgb hb hbox) | (((with_reducible refine gate_callee (f := 22) rfl ?_); refine goesL_ (some 34) rfl rfl Try.func22 (by kernel_rfl) rfl #[.slice A1 8 cr] rfl (by (try simp only [List.map_toArray, List.map_cons, List.map_nil]); first | done | rfl) ?_; refine (HOP.out _ (Kd.C_below HR8.out HB.out)).mono ?_; rintro e w5 ⟨v5, rfl, ho, hb⟩; refine ⟨_, rfl, ?_⟩; obtain ⟨A2, c2, rfl, hle2, hF2⟩ := ho; have HF2 := Aside0.mk hF2; have HLE2 := Aside0.mk hle2; clear hF2 hle2; (have n0_ := Aside0.mk (below_step HB.out hb); have n1_ := Aside0.mk (show FBox gb _ _ _ from blk_below HX.out hb); clear HB HX hx0 hx1 hy0 hy1; have HB := n0_; have HX := n1_; clear n0_ n1_ hb; (have hx0 := blk_cell HX.out 0; have hx1 := blk_cell HX.out 1; have hy0 := blk_frozen HX.out 0; have hy1 := blk_frozen HX.out 1))); (obtain ⟨A3, hcut3, hA3, hC3⟩ := print_drop_of (P := Try.prog) (Value.int .u8) 0 22 5 .i64 Try.underlying22 hi0 hsz0 A2 c2 x4 (1 : Int) (by omega) (by have := HL4.out; omega) HLE2.out; have hR3 := Kd.C_of_reads (h1 := fun _ => rfl) (hA3 _ (Kd.reads_of_C (Kd.F_now HF2.out))); rw [show (1 : Int).toNat = 1 from rfl] at hcut3 hR3 hC3; have HR3 : Aside0 (Kd.C (Kd.int .u8) w5 A3 (x4.drop 1).length (x4.drop 1)) := ⟨hR3⟩; obtain ⟨ad, rfl, hcell⟩ := Kd.at_int (Kd.F_now HF2.out) 0 (by omega) (by have := HL4.out; omega); rw [show rd x4 0 = k0 from HEK.out, show ((0 : Int)).toNat = 0 from rfl] at hcell; have hcell0 : w5.cell? ad = some (.int .u8 k0) := (by simpa [Addr.add] using hcell); rw [HL3.out, HL4.out] at hcut3; rw [HL3.out] at hC3; have HC3' := Aside0.mk hC3; have HCALL := Aside0.mk (fun (w' : World) (hw : Kd.C (Kd.int .u8) w' A3 (x4.drop 1).length (x4.drop 1)) => fixed_calls A3 (c2 - 1) (x4.drop 1) 3 (n : Int) 0 w' hw (by have := HL3.out; have := HC3'.out; omega) HFX.out); rw [HL3.out] at HCALL; have HR3' := HR3; rw [HL3.out] at HR3'; clear hR3 hA3 hC3; (try rw [HL4.out]))) | (go_at_call 23; refine (HCALL.out _ HR3'.out).mono ?_; rintro e w6 ⟨rfl, ⟨nd, rfl⟩⟩; have n0_ := Aside0.mk (pw_below_drewN HB.out nd); have n1_ := Aside0.mk (show FBox gb _ _ (w5.drewN nd) from blk_drewN HX.out nd); clear HB HX hx0 hx1 hy0 hy1; have HB := n0_; have HX := n1_; clear n0_ n1_; (have hx0 := blk_cell HX.out 0; have hx1 := blk_cell HX.out 1; have hy0 := blk_frozen HX.out 0; have hy1 := blk_frozen HX.out 1)))
                  (go_wp2; refine bodyPost_ret (FBox.ends (HX.out.set _ _) rfl rfl rfl) rfl ⟨_, rfl, B5.nil _ _, (below_set (below_set HB.out HGE.out) HGE.out)⟩)
                · have d7 : decide (70000 < (n : Int)) = false := decide_eq_false (by omega)
                  rw [if_neg (by omega)] at h
                  have hn7 : n ≤ 70000 := by omega
                  have HRL := Aside0.mk (show 8 ≤ r.length by have := HC3.out; omega)
                  have hrl := Nat.le_trans HRL.out (Nat.le_refl _)
                  have hrm := HLr.out
                  by_cases c8 : (r.length : Int) - 8 < (n : Int) + 4
                  · have d8 : decide ((r.length : Int) - 8 < (n : Int) + 4) = true := decide_eq_true c8
                    rw [if_pos c8] at h
                    (injection h with e1 h; injection h with e2 h; injection h with e3 e4; subst e1 e2 e3 e4)
                    go_enter Try.func13, Try.ntmps13
                    go_wp2_with (first | ((with_reducible refine gate_dst (N := 4) rfl ?_); refine box_event ?hg (N := 4) ?hd (cs := #[.int .i64 0, .slice none 0 0]) (t := 29) ?hr ?_; (case hd => rfl); (case hg => rfl); (case hr => first | (go_simp; done) | (go_simp; rfl)); intro gb hgb w4 hbox hb; have HGE := Aside0.mk (show w.heap.size ≤ gb by omega); have HB := Aside0.mk hb; have hx0 := blk_cell hbox 0; have hx1 := blk_cell hbox 1; have hy0 := blk_frozen hbox 0; have hy1 := blk_frozen hbox 1; have HX := Aside0.mk (show FBox gb _ _ w4 from hbox); clear hgb hb hbox) | (((with_reducible refine gate_callee (f := 22) rfl ?_); refine goesL_ (some 34) rfl rfl Try.func22 (by kernel_rfl) rfl #[.slice A1 8 cr] rfl (by (try simp only [List.map_toArray, List.map_cons, List.map_nil]); first | done | rfl) ?_; refine (HOP.out _ (Kd.C_below HR8.out HB.out)).mono ?_; rintro e w5 ⟨v5, rfl, ho, hb⟩; refine ⟨_, rfl, ?_⟩; obtain ⟨A2, c2, rfl, hle2, hF2⟩ := ho; have HF2 := Aside0.mk hF2; have HLE2 := Aside0.mk hle2; clear hF2 hle2; (have n0_ := Aside0.mk (below_step HB.out hb); have n1_ := Aside0.mk (show FBox gb _ _ _ from blk_below HX.out hb); clear HB HX hx0 hx1 hy0 hy1; have HB := n0_; have HX := n1_; clear n0_ n1_ hb; (have hx0 := blk_cell HX.out 0; have hx1 := blk_cell HX.out 1; have hy0 := blk_frozen HX.out 0; have hy1 := blk_frozen HX.out 1))); (obtain ⟨A3, hcut3, hA3, hC3⟩ := print_drop_of (P := Try.prog) (Value.int .u8) 0 22 5 .i64 Try.underlying22 hi0 hsz0 A2 c2 x4 (1 : Int) (by omega) (by have := HL4.out; omega) HLE2.out; have hR3 := Kd.C_of_reads (h1 := fun _ => rfl) (hA3 _ (Kd.reads_of_C (Kd.F_now HF2.out))); rw [show (1 : Int).toNat = 1 from rfl] at hcut3 hR3 hC3; have HR3 : Aside0 (Kd.C (Kd.int .u8) w5 A3 (x4.drop 1).length (x4.drop 1)) := ⟨hR3⟩; obtain ⟨ad, rfl, hcell⟩ := Kd.at_int (Kd.F_now HF2.out) 0 (by omega) (by have := HL4.out; omega); rw [show rd x4 0 = k0 from HEK.out, show ((0 : Int)).toNat = 0 from rfl] at hcell; have hcell0 : w5.cell? ad = some (.int .u8 k0) := (by simpa [Addr.add] using hcell); rw [HL3.out, HL4.out] at hcut3; rw [HL3.out] at hC3; have HC3' := Aside0.mk hC3; have HCALL := Aside0.mk (fun (w' : World) (hw : Kd.C (Kd.int .u8) w' A3 (x4.drop 1).length (x4.drop 1)) => fixed_calls A3 (c2 - 1) (x4.drop 1) 3 (n : Int) 0 w' hw (by have := HL3.out; have := HC3'.out; omega) HFX.out); rw [HL3.out] at HCALL; have HR3' := HR3; rw [HL3.out] at HR3'; clear hR3 hA3 hC3; (try rw [HL4.out]))) | (go_at_call 23; refine (HCALL.out _ HR3'.out).mono ?_; rintro e w6 ⟨rfl, ⟨nd, rfl⟩⟩; have n0_ := Aside0.mk (pw_below_drewN HB.out nd); have n1_ := Aside0.mk (show FBox gb _ _ (w5.drewN nd) from blk_drewN HX.out nd); clear HB HX hx0 hx1 hy0 hy1; have HB := n0_; have HX := n1_; clear n0_ n1_; (have hx0 := blk_cell HX.out 0; have hx1 := blk_cell HX.out 1; have hy0 := blk_frozen HX.out 0; have hy1 := blk_frozen HX.out 1)))
                    (go_wp2; refine bodyPost_ret (FBox.ends (HX.out.set _ _) rfl rfl rfl) rfl ⟨_, rfl, B5.nil _ _, (below_set (below_set HB.out HGE.out) HGE.out)⟩)
                  · have d8 : decide ((r.length : Int) - 8 < (n : Int) + 4) = false := decide_eq_false c8
                    rw [if_neg c8] at h
                    obtain ⟨A5, hcut5, hA5, hC5⟩ := print_mid_of (P := Try.prog) (Value.int .u8) 0 22 5 .i64 .i64 Try.underlying22 hi0 hsz0 A1 cr r (8 : Int) (8 + ((n : Int) + 4)) (by omega) (by omega) (by omega) HCr.out
                    have hR5 := Kd.C_of_reads (h1 := fun _ => rfl) (hA5 _ (Kd.reads_of_C HRr.out))
                    rw [show (8 : Int).toNat = 8 from rfl, show (8 + ((n : Int) + 4)).toNat = 12 + n from by omega] at hcut5 hR5 hC5
                    have hB5 := isB_drop (isB_take HBr.out (12 + n)) 8
                    have hl5 : ((r.take (12 + n)).drop 8).length = 4 + n := by rw [List.length_drop, List.length_take]; omega
                    obtain ⟨x5, ex5⟩ : ∃ x, (r.take (12 + n)).drop 8 = x := ⟨_, rfl⟩
                    rw [ex5] at hcut5 hR5 hC5 h hB5 hl5
                    obtain ⟨xb, e5, eop5⟩ : ∃ x e, openL x5 = (x, e) := ⟨_, _, rfl⟩
                    rw [eop5] at h
                    dsimp only at h
                    have hop5 := (fun (w' : World) (hw : Kd.C (Kd.int .u8) w' A5 x5.length x5) => open5_calls A5 (cr - 8) x5 w' hw hC5 hB5 (by omega))
                    rw [eop5] at hop5
                    have HOP5 := Aside0.mk hop5
                    have HR5 : Aside0 (Kd.C (Kd.int .u8) w A5 x5.length x5) := ⟨hR5⟩
                    have hsum : (a : Int) + 8 + ((n : Int) + 4) = (a : Int) + 12 + (n : Int) := by omega
                    have hal := HAL.out
                    have hl0 := HL.out
                    clear hR5 hop5 hB5 hl5 hA5 hC5 eop5 ex5 c8
                    by_cases c9 : e5 = 0
                    · subst c9
                      rw [if_pos rfl] at h
                      (injection h with e1 h; injection h with e2 h; injection h with e3 e4; subst e1 e2 e3 e4)
                      go_enter Try.func13, Try.ntmps13
                      go_wp2_with (first | ((with_reducible refine gate_dst (N := 4) rfl ?_); refine box_event ?hg (N := 4) ?hd (cs := #[.int .i64 0, .slice none 0 0]) (t := 29) ?hr ?_; (case hd => rfl); (case hg => rfl); (case hr => first | (go_simp; done) | (go_simp; rfl)); intro gb hgb w4 hbox hb; have HGE := Aside0.mk (show w.heap.size ≤ gb by omega); have HB := Aside0.mk hb; have hx0 := blk_cell hbox 0; have hx1 := blk_cell hbox 1; have hy0 := blk_frozen hbox 0; have hy1 := blk_frozen hbox 1; have HX := Aside0.mk (show FBox gb _ _ w4 from hbox); clear hgb hb hbox) | (((with_reducible refine gate_callee (f := 22) rfl ?_); refine goesL_ (some 34) rfl rfl Try.func22 (by kernel_rfl) rfl #[.slice A1 8 cr] rfl (by (try simp only [List.map_toArray, List.map_cons, List.map_nil]); first | done | rfl) ?_; refine (HOP.out _ (Kd.C_below HR8.out HB.out)).mono ?_; rintro e w5 ⟨v5, rfl, ho, hb⟩; refine ⟨_, rfl, ?_⟩; obtain ⟨A2, c2, rfl, hle2, hF2⟩ := ho; have HF2 := Aside0.mk hF2; have HLE2 := Aside0.mk hle2; clear hF2 hle2; (have n0_ := Aside0.mk (below_step HB.out hb); have n1_ := Aside0.mk (show FBox gb _ _ _ from blk_below HX.out hb); clear HB HX hx0 hx1 hy0 hy1; have HB := n0_; have HX := n1_; clear n0_ n1_ hb; (have hx0 := blk_cell HX.out 0; have hx1 := blk_cell HX.out 1; have hy0 := blk_frozen HX.out 0; have hy1 := blk_frozen HX.out 1))); (obtain ⟨A3, hcut3, hA3, hC3⟩ := print_drop_of (P := Try.prog) (Value.int .u8) 0 22 5 .i64 Try.underlying22 hi0 hsz0 A2 c2 x4 (1 : Int) (by omega) (by have := HL4.out; omega) HLE2.out; have hR3 := Kd.C_of_reads (h1 := fun _ => rfl) (hA3 _ (Kd.reads_of_C (Kd.F_now HF2.out))); rw [show (1 : Int).toNat = 1 from rfl] at hcut3 hR3 hC3; have HR3 : Aside0 (Kd.C (Kd.int .u8) w5 A3 (x4.drop 1).length (x4.drop 1)) := ⟨hR3⟩; obtain ⟨ad, rfl, hcell⟩ := Kd.at_int (Kd.F_now HF2.out) 0 (by omega) (by have := HL4.out; omega); rw [show rd x4 0 = k0 from HEK.out, show ((0 : Int)).toNat = 0 from rfl] at hcell; have hcell0 : w5.cell? ad = some (.int .u8 k0) := (by simpa [Addr.add] using hcell); rw [HL3.out, HL4.out] at hcut3; rw [HL3.out] at hC3; have HC3' := Aside0.mk hC3; have HCALL := Aside0.mk (fun (w' : World) (hw : Kd.C (Kd.int .u8) w' A3 (x4.drop 1).length (x4.drop 1)) => fixed_calls A3 (c2 - 1) (x4.drop 1) 3 (n : Int) 0 w' hw (by have := HL3.out; have := HC3'.out; omega) HFX.out); rw [HL3.out] at HCALL; have HR3' := HR3; rw [HL3.out] at HR3'; clear hR3 hA3 hC3; (try rw [HL4.out]))) | (go_at_call 23; refine (HCALL.out _ HR3'.out).mono ?_; rintro e w6 ⟨rfl, ⟨nd, rfl⟩⟩; have n0_ := Aside0.mk (pw_below_drewN HB.out nd); have n1_ := Aside0.mk (show FBox gb _ _ (w5.drewN nd) from blk_drewN HX.out nd); clear HB HX hx0 hx1 hy0 hy1; have HB := n0_; have HX := n1_; clear n0_ n1_; (have hx0 := blk_cell HX.out 0; have hx1 := blk_cell HX.out 1; have hy0 := blk_frozen HX.out 0; have hy1 := blk_frozen HX.out 1)) | ((with_reducible refine gate_callee (f := 22) rfl ?_); refine goesL_ (some 78) rfl rfl Try.func22 (by kernel_rfl) rfl #[.slice A5 x5.length (cr - 8)] rfl (by (try simp only [List.map_toArray, List.map_cons, List.map_nil]); first | done | rfl) ?_; refine (HOP5.out _ (Kd.C_below HR5.out HB.out)).mono ?_; rintro e w7 ⟨v7, rfl, ho, hb⟩; refine ⟨_, rfl, ?_⟩; obtain ⟨A7, c7', rfl, hle7, hF7⟩ := ho; have HO7 := Aside0.mk (show B5 w7 _ _ xb from ⟨A7, c7', rfl, hle7, hF7⟩); have HGL := Aside0.mk (blk_lt HX.out); have HWS := Aside0.mk (below_size HB.out); clear hF7 hle7; (have n0_ := Aside0.mk (below_step HB.out hb); have n1_ := Aside0.mk (show FBox gb _ _ _ from blk_below HX.out hb); clear HB HX hx0 hx1 hy0 hy1; have HB := n0_; have HX := n1_; clear n0_ n1_ hb; (have hx0 := blk_cell HX.out 0; have hx1 := blk_cell HX.out 1; have hy0 := blk_frozen HX.out 0; have hy1 := blk_frozen HX.out 1))))
                      go_wp2
                      refine bodyPost_ret (FBox.ends (HX.out.set _ _) rfl rfl rfl) rfl ⟨_, rfl, HO7.out.step HWS.out (fun k hk => ?_), (below_set (below_set HB.out HGE.out) HGE.out)⟩
                      have hne : k ≠ gb := by have := HGL.out; have hk' := hk.1; omega
                      exact (Below.heap_setCell _ ⟨gb, 1, none⟩ _ k hne).trans (Below.heap_setCell _ ⟨gb, 0, none⟩ _ k hne)
                    · rw [if_neg c9] at h
                      (injection h with e1 h; injection h with e2 h; injection h with e3 e4; subst e1 e2 e3 e4)
                      have d9 : (e5 != 0) = true := bne_iff_ne.mpr c9
                      have d10 : (e5 == 0) = false := beq_eq_false_iff_ne.mpr c9
                      go_enter Try.func13, Try.ntmps13
                      go_wp2_with (first | ((with_reducible refine gate_dst (N := 4) rfl ?_); refine box_event ?hg (N := 4) ?hd (cs := #[.int .i64 0, .slice none 0 0]) (t := 29) ?hr ?_; (case hd => rfl); (case hg => rfl); (case hr => first | (go_simp; done) | (go_simp; rfl)); intro gb hgb w4 hbox hb; have HGE := Aside0.mk (show w.heap.size ≤ gb by omega); have HB := Aside0.mk hb; have hx0 := blk_cell hbox 0; have hx1 := blk_cell hbox 1; have hy0 := blk_frozen hbox 0; have hy1 := blk_frozen hbox 1; have HX := Aside0.mk (show FBox gb _ _ w4 from hbox); clear hgb hb hbox) | (((with_reducible refine gate_callee (f := 22) rfl ?_); refine goesL_ (some 34) rfl rfl Try.func22 (by kernel_rfl) rfl #[.slice A1 8 cr] rfl (by (try simp only [List.map_toArray, List.map_cons, List.map_nil]); first | done | rfl) ?_; refine (HOP.out _ (Kd.C_below HR8.out HB.out)).mono ?_; rintro e w5 ⟨v5, rfl, ho, hb⟩; refine ⟨_, rfl, ?_⟩; obtain ⟨A2, c2, rfl, hle2, hF2⟩ := ho; have HF2 := Aside0.mk hF2; have HLE2 := Aside0.mk hle2; clear hF2 hle2; (have n0_ := Aside0.mk (below_step HB.out hb); have n1_ := Aside0.mk (show FBox gb _ _ _ from blk_below HX.out hb); clear HB HX hx0 hx1 hy0 hy1; have HB := n0_; have HX := n1_; clear n0_ n1_ hb; (have hx0 := blk_cell HX.out 0; have hx1 := blk_cell HX.out 1; have hy0 := blk_frozen HX.out 0; have hy1 := blk_frozen HX.out 1))); (obtain ⟨A3, hcut3, hA3, hC3⟩ := print_drop_of (P := Try.prog) (Value.int .u8) 0 22 5 .i64 Try.underlying22 hi0 hsz0 A2 c2 x4 (1 : Int) (by omega) (by have := HL4.out; omega) HLE2.out; have hR3 := Kd.C_of_reads (h1 := fun _ => rfl) (hA3 _ (Kd.reads_of_C (Kd.F_now HF2.out))); rw [show (1 : Int).toNat = 1 from rfl] at hcut3 hR3 hC3; have HR3 : Aside0 (Kd.C (Kd.int .u8) w5 A3 (x4.drop 1).length (x4.drop 1)) := ⟨hR3⟩; obtain ⟨ad, rfl, hcell⟩ := Kd.at_int (Kd.F_now HF2.out) 0 (by omega) (by have := HL4.out; omega); rw [show rd x4 0 = k0 from HEK.out, show ((0 : Int)).toNat = 0 from rfl] at hcell; have hcell0 : w5.cell? ad = some (.int .u8 k0) := (by simpa [Addr.add] using hcell); rw [HL3.out, HL4.out] at hcut3; rw [HL3.out] at hC3; have HC3' := Aside0.mk hC3; have HCALL := Aside0.mk (fun (w' : World) (hw : Kd.C (Kd.int .u8) w' A3 (x4.drop 1).length (x4.drop 1)) => fixed_calls A3 (c2 - 1) (x4.drop 1) 3 (n : Int) 0 w' hw (by have := HL3.out; have := HC3'.out; omega) HFX.out); rw [HL3.out] at HCALL; have HR3' := HR3; rw [HL3.out] at HR3'; clear hR3 hA3 hC3; (try rw [HL4.out]))) | (go_at_call 23; refine (HCALL.out _ HR3'.out).mono ?_; rintro e w6 ⟨rfl, ⟨nd, rfl⟩⟩; have n0_ := Aside0.mk (pw_below_drewN HB.out nd); have n1_ := Aside0.mk (show FBox gb _ _ (w5.drewN nd) from blk_drewN HX.out nd); clear HB HX hx0 hx1 hy0 hy1; have HB := n0_; have HX := n1_; clear n0_ n1_; (have hx0 := blk_cell HX.out 0; have hx1 := blk_cell HX.out 1; have hy0 := blk_frozen HX.out 0; have hy1 := blk_frozen HX.out 1)) | ((with_reducible refine gate_callee (f := 22) rfl ?_); refine goesL_ (some 78) rfl rfl Try.func22 (by kernel_rfl) rfl #[.slice A5 x5.length (cr - 8)] rfl (by (try simp only [List.map_toArray, List.map_cons, List.map_nil]); first | done | rfl) ?_; refine (HOP5.out _ (Kd.C_below HR5.out HB.out)).mono ?_; rintro e w7 ⟨v7, rfl, ho, hb⟩; refine ⟨_, rfl, ?_⟩; obtain ⟨A7, c7', rfl, hle7, hF7⟩ := ho; have HO7 := Aside0.mk (show B5 w7 _ _ xb from ⟨A7, c7', rfl, hle7, hF7⟩); have HGL := Aside0.mk (blk_lt HX.out); have HWS := Aside0.mk (below_size HB.out); clear hF7 hle7; (have n0_ := Aside0.mk (below_step HB.out hb); have n1_ := Aside0.mk (show FBox gb _ _ _ from blk_below HX.out hb); clear HB HX hx0 hx1 hy0 hy1; have HB := n0_; have HX := n1_; clear n0_ n1_ hb; (have hx0 := blk_cell HX.out 0; have hx1 := blk_cell HX.out 1; have hy0 := blk_frozen HX.out 0; have hy1 := blk_frozen HX.out 1))))
                      (go_wp2; refine bodyPost_ret (FBox.ends (HX.out.set _ _) rfl rfl rfl) rfl ⟨_, rfl, B5.nil _ _, (below_set (below_set HB.out HGE.out) HGE.out)⟩)
          · rw [if_neg c4] at h
            (injection h with e1 h; injection h with e2 h; injection h with e3 e4; subst e1 e2 e3 e4)
            have d5 : (e4 != 0) = true := bne_iff_ne.mpr c4
            have d6 : (e4 == 0) = false := beq_eq_false_iff_ne.mpr c4
            go_enter Try.func13, Try.ntmps13
            go_wp2_with (first | ((with_reducible refine gate_dst (N := 4) rfl ?_); refine box_event ?hg (N := 4) ?hd (cs := #[.int .i64 0, .slice none 0 0]) (t := 29) ?hr ?_; (case hd => rfl); (case hg => rfl); (case hr => first | (go_simp; done) | (go_simp; rfl)); intro gb hgb w4 hbox hb; have HGE := Aside0.mk (show w.heap.size ≤ gb by omega); have HB := Aside0.mk hb; have hx0 := blk_cell hbox 0; have hx1 := blk_cell hbox 1; have hy0 := blk_frozen hbox 0; have hy1 := blk_frozen hbox 1; have HX := Aside0.mk (show FBox gb _ _ w4 from hbox); clear hgb hb hbox) | ((with_reducible refine gate_callee (f := 22) rfl ?_); refine goesL_ (some 34) rfl rfl Try.func22 (by kernel_rfl) rfl #[.slice A1 8 cr] rfl (by (try simp only [List.map_toArray, List.map_cons, List.map_nil]); first | done | rfl) ?_; refine (HOP.out _ (Kd.C_below HR8.out HB.out)).mono ?_; rintro e w5 ⟨v5, rfl, ho, hb⟩; refine ⟨_, rfl, ?_⟩; obtain ⟨A2, c2, rfl, hle2, hF2⟩ := ho; have HF2 := Aside0.mk hF2; have HLE2 := Aside0.mk hle2; clear hF2 hle2; (have n0_ := Aside0.mk (below_step HB.out hb); have n1_ := Aside0.mk (show FBox gb _ _ _ from blk_below HX.out hb); clear HB HX hx0 hx1 hy0 hy1; have HB := n0_; have HX := n1_; clear n0_ n1_ hb; (have hx0 := blk_cell HX.out 0; have hx1 := blk_cell HX.out 1; have hy0 := blk_frozen HX.out 0; have hy1 := blk_frozen HX.out 1))))
            (go_wp2; refine bodyPost_ret (FBox.ends (HX.out.set _ _) rfl rfl rfl) rfl ⟨_, rfl, B5.nil _ _, (below_set (below_set HB.out HGE.out) HGE.out)⟩)
  · rw [if_neg hcnd] at h
    cases h
theorem take_calls (A0 : Option Addr) (c0 : Nat) (l0 : List Int) (a1 : Int) (r1 : Int) (r2 : List Int) (r3 : Int) (r4 : Int) (w : World) (hr0 : Kd.C (Kd.int .u8) w A0 l0.length l0) (hc0 : l0.length ≤ c0) (h : takeO l0 a1 = some (r1, r2, r3, r4)) :
    Calls Try.prog 13 #[.slice A0 l0.length c0, .int .i64 a1] w fun e w' => ∃ v1_ : Value, e = .returned (.tuple #[.agg #[.int .i64 r1, v1_], .int .i64 r3, .int .i64 r4]) ∧ Kd.V (Kd.int .u8) 5 w' w.heap.size (fun k_ => (w.heap.size ≤ k_)) v1_ r2 ∧ Below w.heap.size w w' :=
  (take5_calls A0 c0 l0 a1 r1 r2 r3 r4 w hr0 hc0 h).mono fun e w' ⟨v, he, hv, hb⟩ => ⟨v, he, hv.V, hb⟩
end Go.Proofs.Ytcnapbpljghfoaa.Hand

/- Printed by a program of this session (drv.py) from the translation of this seat: functions, their contracts, rows. -/
namespace Go.Proofs.Ytcnapbpljghfoaa.PCrc
open Go.RowKit Go.Proofs.YtcnapbpljghfoaaW.PrintWords Go.Proofs.YtcnapbpljghfoaaW.PrintLast Go.Proofs.YtcnapbpljghfoaaW.PrintMore
attribute [local go_sem] max2_int min2_int max_two min_two max_three min_three max_four min_four   -- for this text's walks alone
set_option linter.unusedVariables false
set_option linter.unusedSimpArgs false

/-! ### frame_Take: function 13 (by hand) -/
def frame_Take.f (l0 : List Int) (a1 : Int) : Option (Int × List Int × Int × Int) := Go.Proofs.Ytcnapbpljghfoaa.Hand.takeO l0 a1
theorem frame_Take.calls (A0 : Option Addr) (c0 : Nat) (l0 : List Int) (a1 : Int) (r1 : Int) (r2 : List Int) (r3 : Int) (r4 : Int) (w : World) (hr0 : Kd.C (Kd.int .u8) w A0 l0.length l0) (hc0 : l0.length ≤ c0) (h : frame_Take.f l0 a1 = some (r1, r2, r3, r4)) :
    Calls Try.prog 13 #[.slice A0 l0.length c0, .int .i64 a1] w fun e w' => ∃ v1_ : Value, e = .returned (.tuple #[.agg #[.int .i64 r1, v1_], .int .i64 r3, .int .i64 r4]) ∧ Kd.V (Kd.int .u8) 5 w' w.heap.size (fun k_ => (w.heap.size ≤ k_)) v1_ r2 ∧ Below w.heap.size w w' :=
  Go.Proofs.Ytcnapbpljghfoaa.Hand.take_calls _ _ _ _ _ _ _ _ _ hr0 hc0 h

end Go.Proofs.Ytcnapbpljghfoaa.PCrc

/- Printed by a program of this session (drv.py) from the translation of this seat: functions, their contracts, rows. -/
namespace Go.Proofs.Ytcnapbpljghfoaa.PCrc
open Go.RowKit Go.Proofs.YtcnapbpljghfoaaW.PrintWords Go.Proofs.YtcnapbpljghfoaaW.PrintLast Go.Proofs.YtcnapbpljghfoaaW.PrintMore
attribute [local go_sem] max2_int min2_int max_two min_two max_three min_three max_four min_four   -- for this text's walks alone
set_option linter.unusedVariables false
set_option linter.unusedSimpArgs false

/-! ### concordancelaw3_awake: function 10 -/
def concordancelaw3_awake.f (k : Nat)  : Option (Bool) := (frame_Put.f k ([] : List Int) 1 ([] : List Int)).bind fun bt133 => ((frame_Take.f bt133.1 0).bind fun bt137 => (if (bt133.1.length : Int) = 12 then (if bt133.2 = 0 then (if bt137.1 = 1 then (if (bt137.2.1.length : Int) = 0 then (if bt137.2.2.1 = 12 then (if bt137.2.2.2 = 0 then ((frame_Size.f 5).bind fun t144 => (some (t144 == 17))) else (some false)) else (some false)) else (some false)) else (some false)) else (some false)) else (some false)))
theorem concordancelaw3_awake.mono : ∀ k, LeO (concordancelaw3_awake.f k ) (concordancelaw3_awake.f (k + 1) ) := by
  intro  k
  unfold concordancelaw3_awake.f
  repeat' first
      | (with_reducible exact frame_Put.mono _ _ _ _)
      | (with_reducible exact LeO.refl _)
      | (with_reducible exact LeO.none _)
      | (with_reducible refine LeO.ite ?_ ?_)
      | (with_reducible refine LeO.bind ?_ (fun _ => ?_))
      | exact frame_Put.mono _ _ _ _
      | exact LeO.none _
      | refine LeO.ite ?_ ?_
      | refine LeO.bind ?_ (fun _ => ?_)
set_option maxHeartbeats 8000000 in
set_option maxRecDepth 100000 in
theorem concordancelaw3_awake.calls (k : Nat)  (r : Bool) (w : World) (h : concordancelaw3_awake.f k  = some r) :
    Calls Try.prog 10 #[] w fun e w' => e = .returned (.bool r) ∧ Below w.heap.size w w' := by
  have hu29 := Try.underlying29
  have HB := Aside0.mk (Below.refl w.heap.size w)
  have H : ((frame_Put.f k ([] : List Int) 1 ([] : List Int)).bind fun bt133 => ((frame_Take.f bt133.1 0).bind fun bt137 => (if (bt133.1.length : Int) = 12 then (if bt133.2 = 0 then (if bt137.1 = 1 then (if (bt137.2.1.length : Int) = 0 then (if bt137.2.2.1 = 12 then (if bt137.2.2.2 = 0 then ((frame_Size.f 5).bind fun t144 => (some (t144 == 17))) else (some false)) else (some false)) else (some false)) else (some false)) else (some false)) else (some false)))) = some r := h
  clear h
  replace H := Option.bind_eq_some_iff.mp H
  obtain ⟨⟨t133, t136⟩, A10, H⟩ := H
  replace H : ((frame_Take.f t133 0).bind fun bt137 => (if (t133.length : Int) = 12 then (if t136 = 0 then (if bt137.1 = 1 then (if (bt137.2.1.length : Int) = 0 then (if bt137.2.2.1 = 12 then (if bt137.2.2.2 = 0 then ((frame_Size.f 5).bind fun t144 => (some (t144 == 17))) else (some false)) else (some false)) else (some false)) else (some false)) else (some false)) else (some false))) = some r := H
  have A1 := Aside0.mk A10
  clear A10
  replace H := Option.bind_eq_some_iff.mp H
  obtain ⟨⟨t137, t138, t141, t142⟩, A20, H⟩ := H
  replace H : (if (t133.length : Int) = 12 then (if t136 = 0 then (if t137 = 1 then (if (t138.length : Int) = 0 then (if t141 = 12 then (if t142 = 0 then ((frame_Size.f 5).bind fun t144 => (some (t144 == 17))) else (some false)) else (some false)) else (some false)) else (some false)) else (some false)) else (some false)) = some r := H
  have A2 := Aside0.mk A20
  clear A20
  by_cases c3 : (t133.length : Int) = 12
  · rw [if_pos c3] at H
    have c3b0 : ((t133.length : Int) == 12) = true := beq_iff_eq.mpr c3
    have c3b1 : ((t133.length : Int) != 12) = false := bne_eq_false_iff_eq.mpr c3
    clear c3
    by_cases c4 : t136 = 0
    · rw [if_pos c4] at H
      have c4b0 : (t136 == 0) = true := beq_iff_eq.mpr c4
      have c4b1 : (t136 != 0) = false := bne_eq_false_iff_eq.mpr c4
      clear c4
      by_cases c5 : t137 = 1
      · rw [if_pos c5] at H
        have c5b0 : (t137 == 1) = true := beq_iff_eq.mpr c5
        have c5b1 : (t137 != 1) = false := bne_eq_false_iff_eq.mpr c5
        clear c5
        by_cases c6 : (t138.length : Int) = 0
        · rw [if_pos c6] at H
          have c6b0 : ((t138.length : Int) == 0) = true := beq_iff_eq.mpr c6
          have c6b1 : ((t138.length : Int) != 0) = false := bne_eq_false_iff_eq.mpr c6
          clear c6
          by_cases c7 : t141 = 12
          · rw [if_pos c7] at H
            have c7b0 : (t141 == 12) = true := beq_iff_eq.mpr c7
            have c7b1 : (t141 != 12) = false := bne_eq_false_iff_eq.mpr c7
            clear c7
            by_cases c8 : t142 = 0
            · rw [if_pos c8] at H
              have c8b0 : (t142 == 0) = true := beq_iff_eq.mpr c8
              have c8b1 : (t142 != 0) = false := bne_eq_false_iff_eq.mpr c8
              clear c8
              replace H := Option.bind_eq_some_iff.mp H
              obtain ⟨t144, A90, H⟩ := H
              replace H : (some (t144 == 17)) = some r := H
              have A9 := Aside0.mk A90
              clear A90
              obtain rfl := Option.some.inj H
              go_enter Try.func10, Try.ntmps10
              go_wp2_with (first | ((with_reducible refine gate_callee (f := 11) rfl ?_); refine goesL_ (some 7) rfl rfl Try.func11 (by kernel_rfl) rfl #[.slice none 0 0, .int .i64 1, .slice none 0 0] rfl (by (try simp only [List.map_toArray, List.map_cons, List.map_nil]); first | done | rfl | (simp only [List.length_drop, List.length_take]; rfl)) ?_; (refine (frame_Put.calls k (fun k_ => False) _ _ ([] : List Int) 1 _ _ ([] : List Int) t133 t136 _ ?side1 ?side2 ?side3 A1.out).mono ?_); (case side1 => exact Kd.V_nil _ _ _ _ _); (case side2 => exact Kd.C_nil _ _); (case side3 => exact Nat.le_refl _); rintro e w10 ⟨v134, rfl, ho0, hb⟩; refine ⟨_, rfl, ?_⟩; have n0_ := Aside0.mk (Kd.R_lower (Kd.R_mono (ok' := fun k_ => True) ho0 (fun _ hk_ => trivial)) (below_size (by repeat (first | (with_reducible first | exact HB.out | apply below_alloc | apply pw_below_drewN | apply below_drew1) | exact HB.out)))); have n1_ := Aside0.mk (below_step (by repeat (first | (with_reducible first | exact HB.out | apply below_alloc | apply pw_below_drewN | apply below_drew1) | exact HB.out)) hb); clear HB; have HO135 := n0_; have HB := n1_; clear n0_ n1_; (try clear hb); (try clear hb2); (try clear hk); (try clear hi); (try clear ho0); obtain ⟨Ao11, co11, eo11⟩ := Kd.R_slice HO135.out; subst eo11) | ((with_reducible refine gate_callee (f := 13) rfl ?_); refine goesL_ (some 12) rfl rfl Try.func13 (by kernel_rfl) rfl #[.slice Ao11 t133.length co11, .int .i64 0] rfl (by (try simp only [List.map_toArray, List.map_cons, List.map_nil]); first | done | rfl | (simp only [List.length_drop, List.length_take]; rfl)) ?_; (with_reducible refine (frame_Take.calls _ _ t133 0 t137 t138 t141 t142 _ ?side1 ?side2 A2.out).mono ?_); (case side1 => repeat (first | exact (Kd.R_reads' HO135.out).2.2 | (with_reducible refine Kd.C_alloc ?_ _) | (with_reducible refine Kd.C_drewN ?_ _) | (with_reducible refine Kd.C_drew ?_))); (case side2 => exact (Kd.R_reads' HO135.out).2.1); rintro e w12 ⟨v139, rfl, ho0, hb⟩; refine ⟨_, rfl, ?_⟩; have n0_ := Aside0.mk (Kd.R_below (by (with_reducible repeat (first | apply Kd.R_alloc | apply Kd.R_drewN | apply Kd.R_drew)); exact HO135.out) hb); have n1_ := Aside0.mk (Kd.V_lower (Kd.V_mono (ok' := fun k_ => some k_ ≠ (.slice Ao11 t133.length co11 : Value).ownBlock) ho0 (fun k_ hk_ => (Kd.fresh' (Kd.R_lt (by (with_reducible repeat (first | apply Kd.R_alloc | apply Kd.R_drewN | apply Kd.R_drew)); exact HO135.out)) k_ hk_))) (below_size (by repeat (first | (with_reducible first | exact HB.out | apply below_alloc | apply pw_below_drewN | apply below_drew1) | exact HB.out)))); have n2_ := Aside0.mk (below_step (by repeat (first | (with_reducible first | exact HB.out | apply below_alloc | apply pw_below_drewN | apply below_drew1) | exact HB.out)) hb); clear HO135; clear HB; have HO135 := n0_; have HO140 := n1_; have HB := n2_; clear n0_ n1_ n2_; (try clear hb); (try clear hb2); (try clear hk); (try clear hi); (try clear ho0)) | ((with_reducible refine gate_dst (N := 3) rfl ?_); (try (refine gate_guard (by rfl) ?_; dsimp only)); refine box_event ?hg (N := 3) ?hd (cs := #[.int .i64 0, .slice none 0 0]) (t := 29) ?hr ?_; (case hd => rfl); (case hg => rfl); (case hr => first | (go_simp; done) | (go_simp; rfl)); intro gb143 hg w13 hbox hb; have n0_ := Aside0.mk (Kd.R_below (by (with_reducible repeat (first | apply Kd.R_alloc | apply Kd.R_drewN | apply Kd.R_drew)); exact HO135.out) hb); have n1_ := Aside0.mk (Kd.V_below (Kd.V_elderB (by (with_reducible repeat (first | apply Kd.V_alloc | apply Kd.V_drewN | apply Kd.V_drew)); exact HO140.out) gb143 (Nat.le_of_eq hg.symm)) hb); have n2_ := Aside0.mk (below_step (by repeat (first | (with_reducible first | exact HB.out | apply below_alloc | apply pw_below_drewN | apply below_drew1) | exact HB.out)) hb); have n3_ := Aside0.mk (hbox); have n4_ := Aside0.mk ((by rw [hg]; exact (below_size (by repeat (first | (with_reducible first | exact HB.out | apply below_alloc | apply pw_below_drewN | apply below_drew1) | exact HB.out))) : w.heap.size ≤ gb143)); have n5_ := Aside0.mk ((by rw [hg]; exact (below_size (by repeat (first | (with_reducible first | exact HB.out | apply below_alloc | apply pw_below_drewN | apply below_drew1) | exact HB.out))) : w.heap.size ≤ gb143)); clear HO135; clear HO140; clear HB; have HO135 := n0_; have HO140 := n1_; have HB := n2_; have BK143 := n3_; have GW143 := n4_; have GE143 := n5_; clear n0_ n1_ n2_ n3_ n4_ n5_; clear hb hbox hg; have hcz14_0 : w13.cell? ⟨gb143, 0, none⟩ = some (.int .i64 0) := (blk_cell BK143.out 0).trans rfl; have hcz14_1 : w13.cell? ⟨gb143, 1, none⟩ = some (.slice none 0 0) := (blk_cell BK143.out 1).trans rfl; have hfz14_0 := blk_frozen BK143.out 0; have hfz14_1 := blk_frozen BK143.out 1; obtain ⟨Ao15, co15, eo15⟩ := Kd.V_slice HO140.out; subst eo15) | (go_at_call 15; (with_reducible refine (frame_Size.calls 5 t144 _ A9.out).mono ?_); rintro e w16 ⟨rfl, hb⟩; have n0_ := Aside0.mk (Kd.R_below (by (with_reducible repeat (first | apply Kd.R_alloc | apply Kd.R_drewN | apply Kd.R_drew)); exact (Kd.R_mono (Kd.R_far (p := ⟨gb143, 1, none⟩) (Kd.R_far (p := ⟨gb143, 0, none⟩) (Kd.R_types HO135.out BK143.out (by decide)) (fun _ hk => hk.2) (.int .i64 t137)) (fun _ hk => hk.2) (.slice Ao15 t138.length co15)) (fun _ h_ => h_.1))) hb); have n1_ := Aside0.mk (Kd.V_below (by (with_reducible repeat (first | apply Kd.V_alloc | apply Kd.V_drewN | apply Kd.V_drew)); exact (Kd.V_mono (Kd.V_far (p := ⟨gb143, 1, none⟩) (Kd.V_far (p := ⟨gb143, 0, none⟩) (Kd.V_mono HO140.out (fun k_ hk => (⟨hk, hk.2⟩ : _ ∧ k_ ≠ gb143))) (fun _ hk => hk.2) (.int .i64 t137)) (fun _ hk => hk.2) (.slice Ao15 t138.length co15)) (fun _ h_ => h_.1))) hb); have n2_ := Aside0.mk (blk_below (g := gb143) (o := .cells #[.int .i64 t137, .slice Ao15 t138.length co15] 29 (0, 0)) (by (with_reducible repeat (first | refine blk_drewN ?_ _ | refine blk_drew ?_ | refine blk_alloc ?_ _)); refine blk_put (cs := #[.int .i64 t137, .slice none 0 0]) ?_ 1 _ rfl; (with_reducible repeat (first | refine blk_drewN ?_ _ | refine blk_drew ?_ | refine blk_alloc ?_ _)); refine blk_put (cs := #[.int .i64 0, .slice none 0 0]) ?_ 0 _ rfl; (with_reducible repeat (first | refine blk_drewN ?_ _ | refine blk_drew ?_ | refine blk_alloc ?_ _)); exact BK143.out) hb); have n3_ := Aside0.mk (below_step (by repeat (first | (with_reducible first | exact HB.out | apply below_alloc | apply pw_below_drewN | apply below_drew1 | refine below_set ?_ GE143.out) | exact HB.out)) hb); clear HO135; clear HO140; clear BK143; clear HB; have HO135 := n0_; have HO140 := n1_; have BK143 := n2_; have HB := n3_; clear n0_ n1_ n2_ n3_; (try clear hb); (try clear hb2); (try clear hk); (try clear hi)))
              go_ret
              exact ⟨by first | rfl | (simp [errW_none, errW_some] <;> rfl) | (simp [*, errW_none, errW_some] <;> rfl), by repeat (first | (with_reducible first | exact HB.out | apply below_alloc | apply pw_below_drewN | apply below_drew1 | refine below_set ?_ GE143.out) | exact HB.out)⟩
            · rw [if_neg c8] at H
              have c8b0 : (t142 == 0) = false := beq_eq_false_iff_ne.mpr c8
              have c8b1 : (t142 != 0) = true := bne_iff_ne.mpr c8
              obtain rfl := Option.some.inj H
              go_enter Try.func10, Try.ntmps10
              go_wp2_with (first | ((with_reducible refine gate_callee (f := 11) rfl ?_); refine goesL_ (some 7) rfl rfl Try.func11 (by kernel_rfl) rfl #[.slice none 0 0, .int .i64 1, .slice none 0 0] rfl (by (try simp only [List.map_toArray, List.map_cons, List.map_nil]); first | done | rfl | (simp only [List.length_drop, List.length_take]; rfl)) ?_; (refine (frame_Put.calls k (fun k_ => False) _ _ ([] : List Int) 1 _ _ ([] : List Int) t133 t136 _ ?side1 ?side2 ?side3 A1.out).mono ?_); (case side1 => exact Kd.V_nil _ _ _ _ _); (case side2 => exact Kd.C_nil _ _); (case side3 => exact Nat.le_refl _); rintro e w17 ⟨v134, rfl, ho0, hb⟩; refine ⟨_, rfl, ?_⟩; have n0_ := Aside0.mk (Kd.R_lower (Kd.R_mono (ok' := fun k_ => True) ho0 (fun _ hk_ => trivial)) (below_size (by repeat (first | (with_reducible first | exact HB.out | apply below_alloc | apply pw_below_drewN | apply below_drew1) | exact HB.out)))); have n1_ := Aside0.mk (below_step (by repeat (first | (with_reducible first | exact HB.out | apply below_alloc | apply pw_below_drewN | apply below_drew1) | exact HB.out)) hb); clear HB; have HO135 := n0_; have HB := n1_; clear n0_ n1_; (try clear hb); (try clear hb2); (try clear hk); (try clear hi); (try clear ho0); obtain ⟨Ao18, co18, eo18⟩ := Kd.R_slice HO135.out; subst eo18) | ((with_reducible refine gate_callee (f := 13) rfl ?_); refine goesL_ (some 12) rfl rfl Try.func13 (by kernel_rfl) rfl #[.slice Ao18 t133.length co18, .int .i64 0] rfl (by (try simp only [List.map_toArray, List.map_cons, List.map_nil]); first | done | rfl | (simp only [List.length_drop, List.length_take]; rfl)) ?_; (with_reducible refine (frame_Take.calls _ _ t133 0 t137 t138 t141 t142 _ ?side1 ?side2 A2.out).mono ?_); (case side1 => repeat (first | exact (Kd.R_reads' HO135.out).2.2 | (with_reducible refine Kd.C_alloc ?_ _) | (with_reducible refine Kd.C_drewN ?_ _) | (with_reducible refine Kd.C_drew ?_))); (case side2 => exact (Kd.R_reads' HO135.out).2.1); rintro e w19 ⟨v139, rfl, ho0, hb⟩; refine ⟨_, rfl, ?_⟩; have n0_ := Aside0.mk (Kd.R_below (by (with_reducible repeat (first | apply Kd.R_alloc | apply Kd.R_drewN | apply Kd.R_drew)); exact HO135.out) hb); have n1_ := Aside0.mk (Kd.V_lower (Kd.V_mono (ok' := fun k_ => some k_ ≠ (.slice Ao18 t133.length co18 : Value).ownBlock) ho0 (fun k_ hk_ => (Kd.fresh' (Kd.R_lt (by (with_reducible repeat (first | apply Kd.R_alloc | apply Kd.R_drewN | apply Kd.R_drew)); exact HO135.out)) k_ hk_))) (below_size (by repeat (first | (with_reducible first | exact HB.out | apply below_alloc | apply pw_below_drewN | apply below_drew1) | exact HB.out)))); have n2_ := Aside0.mk (below_step (by repeat (first | (with_reducible first | exact HB.out | apply below_alloc | apply pw_below_drewN | apply below_drew1) | exact HB.out)) hb); clear HO135; clear HB; have HO135 := n0_; have HO140 := n1_; have HB := n2_; clear n0_ n1_ n2_; (try clear hb); (try clear hb2); (try clear hk); (try clear hi); (try clear ho0)) | ((with_reducible refine gate_dst (N := 3) rfl ?_); (try (refine gate_guard (by rfl) ?_; dsimp only)); refine box_event ?hg (N := 3) ?hd (cs := #[.int .i64 0, .slice none 0 0]) (t := 29) ?hr ?_; (case hd => rfl); (case hg => rfl); (case hr => first | (go_simp; done) | (go_simp; rfl)); intro gb143 hg w20 hbox hb; have n0_ := Aside0.mk (Kd.R_below (by (with_reducible repeat (first | apply Kd.R_alloc | apply Kd.R_drewN | apply Kd.R_drew)); exact HO135.out) hb); have n1_ := Aside0.mk (Kd.V_below (Kd.V_elderB (by (with_reducible repeat (first | apply Kd.V_alloc | apply Kd.V_drewN | apply Kd.V_drew)); exact HO140.out) gb143 (Nat.le_of_eq hg.symm)) hb); have n2_ := Aside0.mk (below_step (by repeat (first | (with_reducible first | exact HB.out | apply below_alloc | apply pw_below_drewN | apply below_drew1) | exact HB.out)) hb); have n3_ := Aside0.mk (hbox); have n4_ := Aside0.mk ((by rw [hg]; exact (below_size (by repeat (first | (with_reducible first | exact HB.out | apply below_alloc | apply pw_below_drewN | apply below_drew1) | exact HB.out))) : w.heap.size ≤ gb143)); have n5_ := Aside0.mk ((by rw [hg]; exact (below_size (by repeat (first | (with_reducible first | exact HB.out | apply below_alloc | apply pw_below_drewN | apply below_drew1) | exact HB.out))) : w.heap.size ≤ gb143)); clear HO135; clear HO140; clear HB; have HO135 := n0_; have HO140 := n1_; have HB := n2_; have BK143 := n3_; have GW143 := n4_; have GE143 := n5_; clear n0_ n1_ n2_ n3_ n4_ n5_; clear hb hbox hg; have hcz21_0 : w20.cell? ⟨gb143, 0, none⟩ = some (.int .i64 0) := (blk_cell BK143.out 0).trans rfl; have hcz21_1 : w20.cell? ⟨gb143, 1, none⟩ = some (.slice none 0 0) := (blk_cell BK143.out 1).trans rfl; have hfz21_0 := blk_frozen BK143.out 0; have hfz21_1 := blk_frozen BK143.out 1; obtain ⟨Ao22, co22, eo22⟩ := Kd.V_slice HO140.out; subst eo22))
              go_ret
              exact ⟨by first | rfl | (simp [errW_none, errW_some] <;> rfl) | (simp [*, errW_none, errW_some] <;> rfl), by repeat (first | (with_reducible first | exact HB.out | apply below_alloc | apply pw_below_drewN | apply below_drew1 | refine below_set ?_ GE143.out) | exact HB.out)⟩
          · rw [if_neg c7] at H
            have c7b0 : (t141 == 12) = false := beq_eq_false_iff_ne.mpr c7
            have c7b1 : (t141 != 12) = true := bne_iff_ne.mpr c7
            obtain rfl := Option.some.inj H
            go_enter Try.func10, Try.ntmps10
            go_wp2_with (first | ((with_reducible refine gate_callee (f := 11) rfl ?_); refine goesL_ (some 7) rfl rfl Try.func11 (by kernel_rfl) rfl #[.slice none 0 0, .int .i64 1, .slice none 0 0] rfl (by (try simp only [List.map_toArray, List.map_cons, List.map_nil]); first | done | rfl | (simp only [List.length_drop, List.length_take]; rfl)) ?_; (refine (frame_Put.calls k (fun k_ => False) _ _ ([] : List Int) 1 _ _ ([] : List Int) t133 t136 _ ?side1 ?side2 ?side3 A1.out).mono ?_); (case side1 => exact Kd.V_nil _ _ _ _ _); (case side2 => exact Kd.C_nil _ _); (case side3 => exact Nat.le_refl _); rintro e w23 ⟨v134, rfl, ho0, hb⟩; refine ⟨_, rfl, ?_⟩; have n0_ := Aside0.mk (Kd.R_lower (Kd.R_mono (ok' := fun k_ => True) ho0 (fun _ hk_ => trivial)) (below_size (by repeat (first | (with_reducible first | exact HB.out | apply below_alloc | apply pw_below_drewN | apply below_drew1) | exact HB.out)))); have n1_ := Aside0.mk (below_step (by repeat (first | (with_reducible first | exact HB.out | apply below_alloc | apply pw_below_drewN | apply below_drew1) | exact HB.out)) hb); clear HB; have HO135 := n0_; have HB := n1_; clear n0_ n1_; (try clear hb); (try clear hb2); (try clear hk); (try clear hi); (try clear ho0); obtain ⟨Ao24, co24, eo24⟩ := Kd.R_slice HO135.out; subst eo24) | ((with_reducible refine gate_callee (f := 13) rfl ?_); refine goesL_ (some 12) rfl rfl Try.func13 (by kernel_rfl) rfl #[.slice Ao24 t133.length co24, .int .i64 0] rfl (by (try simp only [List.map_toArray, List.map_cons, List.map_nil]); first | done | rfl | (simp only [List.length_drop, List.length_take]; rfl)) ?_; (with_reducible refine (frame_Take.calls _ _ t133 0 t137 t138 t141 t142 _ ?side1 ?side2 A2.out).mono ?_); (case side1 => repeat (first | exact (Kd.R_reads' HO135.out).2.2 | (with_reducible refine Kd.C_alloc ?_ _) | (with_reducible refine Kd.C_drewN ?_ _) | (with_reducible refine Kd.C_drew ?_))); (case side2 => exact (Kd.R_reads' HO135.out).2.1); rintro e w25 ⟨v139, rfl, ho0, hb⟩; refine ⟨_, rfl, ?_⟩; have n0_ := Aside0.mk (Kd.R_below (by (with_reducible repeat (first | apply Kd.R_alloc | apply Kd.R_drewN | apply Kd.R_drew)); exact HO135.out) hb); have n1_ := Aside0.mk (Kd.V_lower (Kd.V_mono (ok' := fun k_ => some k_ ≠ (.slice Ao24 t133.length co24 : Value).ownBlock) ho0 (fun k_ hk_ => (Kd.fresh' (Kd.R_lt (by (with_reducible repeat (first | apply Kd.R_alloc | apply Kd.R_drewN | apply Kd.R_drew)); exact HO135.out)) k_ hk_))) (below_size (by repeat (first | (with_reducible first | exact HB.out | apply below_alloc | apply pw_below_drewN | apply below_drew1) | exact HB.out)))); have n2_ := Aside0.mk (below_step (by repeat (first | (with_reducible first | exact HB.out | apply below_alloc | apply pw_below_drewN | apply below_drew1) | exact HB.out)) hb); clear HO135; clear HB; have HO135 := n0_; have HO140 := n1_; have HB := n2_; clear n0_ n1_ n2_; (try clear hb); (try clear hb2); (try clear hk); (try clear hi); (try clear ho0)) | ((with_reducible refine gate_dst (N := 3) rfl ?_); (try (refine gate_guard (by rfl) ?_; dsimp only)); refine box_event ?hg (N := 3) ?hd (cs := #[.int .i64 0, .slice none 0 0]) (t := 29) ?hr ?_; (case hd => rfl); (case hg => rfl); (case hr => first | (go_simp; done) | (go_simp; rfl)); intro gb143 hg w26 hbox hb; have n0_ := Aside0.mk (Kd.R_below (by (with_reducible repeat (first | apply Kd.R_alloc | apply Kd.R_drewN | apply Kd.R_drew)); exact HO135.out) hb); have n1_ := Aside0.mk (Kd.V_below (Kd.V_elderB (by (with_reducible repeat (first | apply Kd.V_alloc | apply Kd.V_drewN | apply Kd.V_drew)); exact HO140.out) gb143 (Nat.le_of_eq hg.symm)) hb); have n2_ := Aside0.mk (below_step (by repeat (first | (with_reducible first | exact HB.out | apply below_alloc | apply pw_below_drewN | apply below_drew1) | exact HB.out)) hb); have n3_ := Aside0.mk (hbox); have n4_ := Aside0.mk ((by rw [hg]; exact (below_size (by repeat (first | (with_reducible first | exact HB.out | apply below_alloc | apply pw_below_drewN | apply below_drew1) | exact HB.out))) : w.heap.size ≤ gb143)); have n5_ := Aside0.mk ((by rw [hg]; exact (below_size (by repeat (first | (with_reducible first | exact HB.out | apply below_alloc | apply pw_below_drewN | apply below_drew1) | exact HB.out))) : w.heap.size ≤ gb143)); clear HO135; clear HO140; clear HB; have HO135 := n0_; have HO140 := n1_; have HB := n2_; have BK143 := n3_; have GW143 := n4_; have GE143 := n5_; clear n0_ n1_ n2_ n3_ n4_ n5_; clear hb hbox hg; have hcz27_0 : w26.cell? ⟨gb143, 0, none⟩ = some (.int .i64 0) := (blk_cell BK143.out 0).trans rfl; have hcz27_1 : w26.cell? ⟨gb143, 1, none⟩ = some (.slice none 0 0) := (blk_cell BK143.out 1).trans rfl; have hfz27_0 := blk_frozen BK143.out 0; have hfz27_1 := blk_frozen BK143.out 1; obtain ⟨Ao28, co28, eo28⟩ := Kd.V_slice HO140.out; subst eo28))
            go_ret
            exact ⟨by first | rfl | (simp [errW_none, errW_some] <;> rfl) | (simp [*, errW_none, errW_some] <;> rfl), by repeat (first | (with_reducible first | exact HB.out | apply below_alloc | apply pw_below_drewN | apply below_drew1 | refine below_set ?_ GE143.out) | exact HB.out)⟩
        · rw [if_neg c6] at H
          have c6b0 : ((t138.length : Int) == 0) = false := beq_eq_false_iff_ne.mpr c6
          have c6b1 : ((t138.length : Int) != 0) = true := bne_iff_ne.mpr c6
          have c6b2 : ¬ (t138 = []) := fun h_ => c6 (by rw [h_]; rfl)
          obtain rfl := Option.some.inj H
          go_enter Try.func10, Try.ntmps10
          go_wp2_with (first | ((with_reducible refine gate_callee (f := 11) rfl ?_); refine goesL_ (some 7) rfl rfl Try.func11 (by kernel_rfl) rfl #[.slice none 0 0, .int .i64 1, .slice none 0 0] rfl (by (try simp only [List.map_toArray, List.map_cons, List.map_nil]); first | done | rfl | (simp only [List.length_drop, List.length_take]; rfl)) ?_; (refine (frame_Put.calls k (fun k_ => False) _ _ ([] : List Int) 1 _ _ ([] : List Int) t133 t136 _ ?side1 ?side2 ?side3 A1.out).mono ?_); (case side1 => exact Kd.V_nil _ _ _ _ _); (case side2 => exact Kd.C_nil _ _); (case side3 => exact Nat.le_refl _); rintro e w29 ⟨v134, rfl, ho0, hb⟩; refine ⟨_, rfl, ?_⟩; have n0_ := Aside0.mk (Kd.R_lower (Kd.R_mono (ok' := fun k_ => True) ho0 (fun _ hk_ => trivial)) (below_size (by repeat (first | (with_reducible first | exact HB.out | apply below_alloc | apply pw_below_drewN | apply below_drew1) | exact HB.out)))); have n1_ := Aside0.mk (below_step (by repeat (first | (with_reducible first | exact HB.out | apply below_alloc | apply pw_below_drewN | apply below_drew1) | exact HB.out)) hb); clear HB; have HO135 := n0_; have HB := n1_; clear n0_ n1_; (try clear hb); (try clear hb2); (try clear hk); (try clear hi); (try clear ho0); obtain ⟨Ao30, co30, eo30⟩ := Kd.R_slice HO135.out; subst eo30) | ((with_reducible refine gate_callee (f := 13) rfl ?_); refine goesL_ (some 12) rfl rfl Try.func13 (by kernel_rfl) rfl #[.slice Ao30 t133.length co30, .int .i64 0] rfl (by (try simp only [List.map_toArray, List.map_cons, List.map_nil]); first | done | rfl | (simp only [List.length_drop, List.length_take]; rfl)) ?_; (with_reducible refine (frame_Take.calls _ _ t133 0 t137 t138 t141 t142 _ ?side1 ?side2 A2.out).mono ?_); (case side1 => repeat (first | exact (Kd.R_reads' HO135.out).2.2 | (with_reducible refine Kd.C_alloc ?_ _) | (with_reducible refine Kd.C_drewN ?_ _) | (with_reducible refine Kd.C_drew ?_))); (case side2 => exact (Kd.R_reads' HO135.out).2.1); rintro e w31 ⟨v139, rfl, ho0, hb⟩; refine ⟨_, rfl, ?_⟩; have n0_ := Aside0.mk (Kd.R_below (by (with_reducible repeat (first | apply Kd.R_alloc | apply Kd.R_drewN | apply Kd.R_drew)); exact HO135.out) hb); have n1_ := Aside0.mk (Kd.V_lower (Kd.V_mono (ok' := fun k_ => some k_ ≠ (.slice Ao30 t133.length co30 : Value).ownBlock) ho0 (fun k_ hk_ => (Kd.fresh' (Kd.R_lt (by (with_reducible repeat (first | apply Kd.R_alloc | apply Kd.R_drewN | apply Kd.R_drew)); exact HO135.out)) k_ hk_))) (below_size (by repeat (first | (with_reducible first | exact HB.out | apply below_alloc | apply pw_below_drewN | apply below_drew1) | exact HB.out)))); have n2_ := Aside0.mk (below_step (by repeat (first | (with_reducible first | exact HB.out | apply below_alloc | apply pw_below_drewN | apply below_drew1) | exact HB.out)) hb); clear HO135; clear HB; have HO135 := n0_; have HO140 := n1_; have HB := n2_; clear n0_ n1_ n2_; (try clear hb); (try clear hb2); (try clear hk); (try clear hi); (try clear ho0)) | ((with_reducible refine gate_dst (N := 3) rfl ?_); (try (refine gate_guard (by rfl) ?_; dsimp only)); refine box_event ?hg (N := 3) ?hd (cs := #[.int .i64 0, .slice none 0 0]) (t := 29) ?hr ?_; (case hd => rfl); (case hg => rfl); (case hr => first | (go_simp; done) | (go_simp; rfl)); intro gb143 hg w32 hbox hb; have n0_ := Aside0.mk (Kd.R_below (by (with_reducible repeat (first | apply Kd.R_alloc | apply Kd.R_drewN | apply Kd.R_drew)); exact HO135.out) hb); have n1_ := Aside0.mk (Kd.V_below (Kd.V_elderB (by (with_reducible repeat (first | apply Kd.V_alloc | apply Kd.V_drewN | apply Kd.V_drew)); exact HO140.out) gb143 (Nat.le_of_eq hg.symm)) hb); have n2_ := Aside0.mk (below_step (by repeat (first | (with_reducible first | exact HB.out | apply below_alloc | apply pw_below_drewN | apply below_drew1) | exact HB.out)) hb); have n3_ := Aside0.mk (hbox); have n4_ := Aside0.mk ((by rw [hg]; exact (below_size (by repeat (first | (with_reducible first | exact HB.out | apply below_alloc | apply pw_below_drewN | apply below_drew1) | exact HB.out))) : w.heap.size ≤ gb143)); have n5_ := Aside0.mk ((by rw [hg]; exact (below_size (by repeat (first | (with_reducible first | exact HB.out | apply below_alloc | apply pw_below_drewN | apply below_drew1) | exact HB.out))) : w.heap.size ≤ gb143)); clear HO135; clear HO140; clear HB; have HO135 := n0_; have HO140 := n1_; have HB := n2_; have BK143 := n3_; have GW143 := n4_; have GE143 := n5_; clear n0_ n1_ n2_ n3_ n4_ n5_; clear hb hbox hg; have hcz33_0 : w32.cell? ⟨gb143, 0, none⟩ = some (.int .i64 0) := (blk_cell BK143.out 0).trans rfl; have hcz33_1 : w32.cell? ⟨gb143, 1, none⟩ = some (.slice none 0 0) := (blk_cell BK143.out 1).trans rfl; have hfz33_0 := blk_frozen BK143.out 0; have hfz33_1 := blk_frozen BK143.out 1; obtain ⟨Ao34, co34, eo34⟩ := Kd.V_slice HO140.out; subst eo34))
          go_ret
          exact ⟨by first | rfl | (simp [errW_none, errW_some] <;> rfl) | (simp [*, errW_none, errW_some] <;> rfl), by repeat (first | (with_reducible first | exact HB.out | apply below_alloc | apply pw_below_drewN | apply below_drew1 | refine below_set ?_ GE143.out) | exact HB.out)⟩
      · rw [if_neg c5] at H
        have c5b0 : (t137 == 1) = false := beq_eq_false_iff_ne.mpr c5
        have c5b1 : (t137 != 1) = true := bne_iff_ne.mpr c5
        obtain rfl := Option.some.inj H
        go_enter Try.func10, Try.ntmps10
        go_wp2_with (first | ((with_reducible refine gate_callee (f := 11) rfl ?_); refine goesL_ (some 7) rfl rfl Try.func11 (by kernel_rfl) rfl #[.slice none 0 0, .int .i64 1, .slice none 0 0] rfl (by (try simp only [List.map_toArray, List.map_cons, List.map_nil]); first | done | rfl | (simp only [List.length_drop, List.length_take]; rfl)) ?_; (refine (frame_Put.calls k (fun k_ => False) _ _ ([] : List Int) 1 _ _ ([] : List Int) t133 t136 _ ?side1 ?side2 ?side3 A1.out).mono ?_); (case side1 => exact Kd.V_nil _ _ _ _ _); (case side2 => exact Kd.C_nil _ _); (case side3 => exact Nat.le_refl _); rintro e w35 ⟨v134, rfl, ho0, hb⟩; refine ⟨_, rfl, ?_⟩; have n0_ := Aside0.mk (Kd.R_lower (Kd.R_mono (ok' := fun k_ => True) ho0 (fun _ hk_ => trivial)) (below_size (by repeat (first | (with_reducible first | exact HB.out | apply below_alloc | apply pw_below_drewN | apply below_drew1) | exact HB.out)))); have n1_ := Aside0.mk (below_step (by repeat (first | (with_reducible first | exact HB.out | apply below_alloc | apply pw_below_drewN | apply below_drew1) | exact HB.out)) hb); clear HB; have HO135 := n0_; have HB := n1_; clear n0_ n1_; (try clear hb); (try clear hb2); (try clear hk); (try clear hi); (try clear ho0); obtain ⟨Ao36, co36, eo36⟩ := Kd.R_slice HO135.out; subst eo36) | ((with_reducible refine gate_callee (f := 13) rfl ?_); refine goesL_ (some 12) rfl rfl Try.func13 (by kernel_rfl) rfl #[.slice Ao36 t133.length co36, .int .i64 0] rfl (by (try simp only [List.map_toArray, List.map_cons, List.map_nil]); first | done | rfl | (simp only [List.length_drop, List.length_take]; rfl)) ?_; (with_reducible refine (frame_Take.calls _ _ t133 0 t137 t138 t141 t142 _ ?side1 ?side2 A2.out).mono ?_); (case side1 => repeat (first | exact (Kd.R_reads' HO135.out).2.2 | (with_reducible refine Kd.C_alloc ?_ _) | (with_reducible refine Kd.C_drewN ?_ _) | (with_reducible refine Kd.C_drew ?_))); (case side2 => exact (Kd.R_reads' HO135.out).2.1); rintro e w37 ⟨v139, rfl, ho0, hb⟩; refine ⟨_, rfl, ?_⟩; have n0_ := Aside0.mk (Kd.R_below (by (with_reducible repeat (first | apply Kd.R_alloc | apply Kd.R_drewN | apply Kd.R_drew)); exact HO135.out) hb); have n1_ := Aside0.mk (Kd.V_lower (Kd.V_mono (ok' := fun k_ => some k_ ≠ (.slice Ao36 t133.length co36 : Value).ownBlock) ho0 (fun k_ hk_ => (Kd.fresh' (Kd.R_lt (by (with_reducible repeat (first | apply Kd.R_alloc | apply Kd.R_drewN | apply Kd.R_drew)); exact HO135.out)) k_ hk_))) (below_size (by repeat (first | (with_reducible first | exact HB.out | apply below_alloc | apply pw_below_drewN | apply below_drew1) | exact HB.out)))); have n2_ := Aside0.mk (below_step (by repeat (first | (with_reducible first | exact HB.out | apply below_alloc | apply pw_below_drewN | apply below_drew1) | exact HB.out)) hb); clear HO135; clear HB; have HO135 := n0_; have HO140 := n1_; have HB := n2_; clear n0_ n1_ n2_; (try clear hb); (try clear hb2); (try clear hk); (try clear hi); (try clear ho0)) | ((with_reducible refine gate_dst (N := 3) rfl ?_); (try (refine gate_guard (by rfl) ?_; dsimp only)); refine box_event ?hg (N := 3) ?hd (cs := #[.int .i64 0, .slice none 0 0]) (t := 29) ?hr ?_; (case hd => rfl); (case hg => rfl); (case hr => first | (go_simp; done) | (go_simp; rfl)); intro gb143 hg w38 hbox hb; have n0_ := Aside0.mk (Kd.R_below (by (with_reducible repeat (first | apply Kd.R_alloc | apply Kd.R_drewN | apply Kd.R_drew)); exact HO135.out) hb); have n1_ := Aside0.mk (Kd.V_below (Kd.V_elderB (by (with_reducible repeat (first | apply Kd.V_alloc | apply Kd.V_drewN | apply Kd.V_drew)); exact HO140.out) gb143 (Nat.le_of_eq hg.symm)) hb); have n2_ := Aside0.mk (below_step (by repeat (first | (with_reducible first | exact HB.out | apply below_alloc | apply pw_below_drewN | apply below_drew1) | exact HB.out)) hb); have n3_ := Aside0.mk (hbox); have n4_ := Aside0.mk ((by rw [hg]; exact (below_size (by repeat (first | (with_reducible first | exact HB.out | apply below_alloc | apply pw_below_drewN | apply below_drew1) | exact HB.out))) : w.heap.size ≤ gb143)); have n5_ := Aside0.mk ((by rw [hg]; exact (below_size (by repeat (first | (with_reducible first | exact HB.out | apply below_alloc | apply pw_below_drewN | apply below_drew1) | exact HB.out))) : w.heap.size ≤ gb143)); clear HO135; clear HO140; clear HB; have HO135 := n0_; have HO140 := n1_; have HB := n2_; have BK143 := n3_; have GW143 := n4_; have GE143 := n5_; clear n0_ n1_ n2_ n3_ n4_ n5_; clear hb hbox hg; have hcz39_0 : w38.cell? ⟨gb143, 0, none⟩ = some (.int .i64 0) := (blk_cell BK143.out 0).trans rfl; have hcz39_1 : w38.cell? ⟨gb143, 1, none⟩ = some (.slice none 0 0) := (blk_cell BK143.out 1).trans rfl; have hfz39_0 := blk_frozen BK143.out 0; have hfz39_1 := blk_frozen BK143.out 1; obtain ⟨Ao40, co40, eo40⟩ := Kd.V_slice HO140.out; subst eo40))
        go_ret
        exact ⟨by first | rfl | (simp [errW_none, errW_some] <;> rfl) | (simp [*, errW_none, errW_some] <;> rfl), by repeat (first | (with_reducible first | exact HB.out | apply below_alloc | apply pw_below_drewN | apply below_drew1 | refine below_set ?_ GE143.out) | exact HB.out)⟩
    · rw [if_neg c4] at H
      have c4b0 : (t136 == 0) = false := beq_eq_false_iff_ne.mpr c4
      have c4b1 : (t136 != 0) = true := bne_iff_ne.mpr c4
      obtain rfl := Option.some.inj H
      go_enter Try.func10, Try.ntmps10
      go_wp2_with (first | ((with_reducible refine gate_callee (f := 11) rfl ?_); refine goesL_ (some 7) rfl rfl Try.func11 (by kernel_rfl) rfl #[.slice none 0 0, .int .i64 1, .slice none 0 0] rfl (by (try simp only [List.map_toArray, List.map_cons, List.map_nil]); first | done | rfl | (simp only [List.length_drop, List.length_take]; rfl)) ?_; (refine (frame_Put.calls k (fun k_ => False) _ _ ([] : List Int) 1 _ _ ([] : List Int) t133 t136 _ ?side1 ?side2 ?side3 A1.out).mono ?_); (case side1 => exact Kd.V_nil _ _ _ _ _); (case side2 => exact Kd.C_nil _ _); (case side3 => exact Nat.le_refl _); rintro e w41 ⟨v134, rfl, ho0, hb⟩; refine ⟨_, rfl, ?_⟩; have n0_ := Aside0.mk (Kd.R_lower (Kd.R_mono (ok' := fun k_ => True) ho0 (fun _ hk_ => trivial)) (below_size (by repeat (first | (with_reducible first | exact HB.out | apply below_alloc | apply pw_below_drewN | apply below_drew1) | exact HB.out)))); have n1_ := Aside0.mk (below_step (by repeat (first | (with_reducible first | exact HB.out | apply below_alloc | apply pw_below_drewN | apply below_drew1) | exact HB.out)) hb); clear HB; have HO135 := n0_; have HB := n1_; clear n0_ n1_; (try clear hb); (try clear hb2); (try clear hk); (try clear hi); (try clear ho0); obtain ⟨Ao42, co42, eo42⟩ := Kd.R_slice HO135.out; subst eo42) | ((with_reducible refine gate_callee (f := 13) rfl ?_); refine goesL_ (some 12) rfl rfl Try.func13 (by kernel_rfl) rfl #[.slice Ao42 t133.length co42, .int .i64 0] rfl (by (try simp only [List.map_toArray, List.map_cons, List.map_nil]); first | done | rfl | (simp only [List.length_drop, List.length_take]; rfl)) ?_; (with_reducible refine (frame_Take.calls _ _ t133 0 t137 t138 t141 t142 _ ?side1 ?side2 A2.out).mono ?_); (case side1 => repeat (first | exact (Kd.R_reads' HO135.out).2.2 | (with_reducible refine Kd.C_alloc ?_ _) | (with_reducible refine Kd.C_drewN ?_ _) | (with_reducible refine Kd.C_drew ?_))); (case side2 => exact (Kd.R_reads' HO135.out).2.1); rintro e w43 ⟨v139, rfl, ho0, hb⟩; refine ⟨_, rfl, ?_⟩; have n0_ := Aside0.mk (Kd.R_below (by (with_reducible repeat (first | apply Kd.R_alloc | apply Kd.R_drewN | apply Kd.R_drew)); exact HO135.out) hb); have n1_ := Aside0.mk (Kd.V_lower (Kd.V_mono (ok' := fun k_ => some k_ ≠ (.slice Ao42 t133.length co42 : Value).ownBlock) ho0 (fun k_ hk_ => (Kd.fresh' (Kd.R_lt (by (with_reducible repeat (first | apply Kd.R_alloc | apply Kd.R_drewN | apply Kd.R_drew)); exact HO135.out)) k_ hk_))) (below_size (by repeat (first | (with_reducible first | exact HB.out | apply below_alloc | apply pw_below_drewN | apply below_drew1) | exact HB.out)))); have n2_ := Aside0.mk (below_step (by repeat (first | (with_reducible first | exact HB.out | apply below_alloc | apply pw_below_drewN | apply below_drew1) | exact HB.out)) hb); clear HO135; clear HB; have HO135 := n0_; have HO140 := n1_; have HB := n2_; clear n0_ n1_ n2_; (try clear hb); (try clear hb2); (try clear hk); (try clear hi); (try clear ho0)) | ((with_reducible refine gate_dst (N := 3) rfl ?_); (try (refine gate_guard (by rfl) ?_; dsimp only)); refine box_event ?hg (N := 3) ?hd (cs := #[.int .i64 0, .slice none 0 0]) (t := 29) ?hr ?_; (case hd => rfl); (case hg => rfl); (case hr => first | (go_simp; done) | (go_simp; rfl)); intro gb143 hg w44 hbox hb; have n0_ := Aside0.mk (Kd.R_below (by (with_reducible repeat (first | apply Kd.R_alloc | apply Kd.R_drewN | apply Kd.R_drew)); exact HO135.out) hb); have n1_ := Aside0.mk (Kd.V_below (Kd.V_elderB (by (with_reducible repeat (first | apply Kd.V_alloc | apply Kd.V_drewN | apply Kd.V_drew)); exact HO140.out) gb143 (Nat.le_of_eq hg.symm)) hb); have n2_ := Aside0.mk (below_step (by repeat (first | (with_reducible first | exact HB.out | apply below_alloc | apply pw_below_drewN | apply below_drew1) | exact HB.out)) hb); have n3_ := Aside0.mk (hbox); have n4_ := Aside0.mk ((by rw [hg]; exact (below_size (by repeat (first | (with_reducible first | exact HB.out | apply below_alloc | apply pw_below_drewN | apply below_drew1) | exact HB.out))) : w.heap.size ≤ gb143)); have n5_ := Aside0.mk ((by rw [hg]; exact (below_size (by repeat (first | (with_reducible first | exact HB.out | apply below_alloc | apply pw_below_drewN | apply below_drew1) | exact HB.out))) : w.heap.size ≤ gb143)); clear HO135; clear HO140; clear HB; have HO135 := n0_; have HO140 := n1_; have HB := n2_; have BK143 := n3_; have GW143 := n4_; have GE143 := n5_; clear n0_ n1_ n2_ n3_ n4_ n5_; clear hb hbox hg; have hcz45_0 : w44.cell? ⟨gb143, 0, none⟩ = some (.int .i64 0) := (blk_cell BK143.out 0).trans rfl; have hcz45_1 : w44.cell? ⟨gb143, 1, none⟩ = some (.slice none 0 0) := (blk_cell BK143.out 1).trans rfl; have hfz45_0 := blk_frozen BK143.out 0; have hfz45_1 := blk_frozen BK143.out 1; obtain ⟨Ao46, co46, eo46⟩ := Kd.V_slice HO140.out; subst eo46))
      go_ret
      exact ⟨by first | rfl | (simp [errW_none, errW_some] <;> rfl) | (simp [*, errW_none, errW_some] <;> rfl), by repeat (first | (with_reducible first | exact HB.out | apply below_alloc | apply pw_below_drewN | apply below_drew1 | refine below_set ?_ GE143.out) | exact HB.out)⟩
  · rw [if_neg c3] at H
    have c3b0 : ((t133.length : Int) == 12) = false := beq_eq_false_iff_ne.mpr c3
    have c3b1 : ((t133.length : Int) != 12) = true := bne_iff_ne.mpr c3
    obtain rfl := Option.some.inj H
    go_enter Try.func10, Try.ntmps10
    go_wp2_with (first | ((with_reducible refine gate_callee (f := 11) rfl ?_); refine goesL_ (some 7) rfl rfl Try.func11 (by kernel_rfl) rfl #[.slice none 0 0, .int .i64 1, .slice none 0 0] rfl (by (try simp only [List.map_toArray, List.map_cons, List.map_nil]); first | done | rfl | (simp only [List.length_drop, List.length_take]; rfl)) ?_; (refine (frame_Put.calls k (fun k_ => False) _ _ ([] : List Int) 1 _ _ ([] : List Int) t133 t136 _ ?side1 ?side2 ?side3 A1.out).mono ?_); (case side1 => exact Kd.V_nil _ _ _ _ _); (case side2 => exact Kd.C_nil _ _); (case side3 => exact Nat.le_refl _); rintro e w47 ⟨v134, rfl, ho0, hb⟩; refine ⟨_, rfl, ?_⟩; have n0_ := Aside0.mk (Kd.R_lower (Kd.R_mono (ok' := fun k_ => True) ho0 (fun _ hk_ => trivial)) (below_size (by repeat (first | (with_reducible first | exact HB.out | apply below_alloc | apply pw_below_drewN | apply below_drew1) | exact HB.out)))); have n1_ := Aside0.mk (below_step (by repeat (first | (with_reducible first | exact HB.out | apply below_alloc | apply pw_below_drewN | apply below_drew1) | exact HB.out)) hb); clear HB; have HO135 := n0_; have HB := n1_; clear n0_ n1_; (try clear hb); (try clear hb2); (try clear hk); (try clear hi); (try clear ho0); obtain ⟨Ao48, co48, eo48⟩ := Kd.R_slice HO135.out; subst eo48) | ((with_reducible refine gate_callee (f := 13) rfl ?_); refine goesL_ (some 12) rfl rfl Try.func13 (by kernel_rfl) rfl #[.slice Ao48 t133.length co48, .int .i64 0] rfl (by (try simp only [List.map_toArray, List.map_cons, List.map_nil]); first | done | rfl | (simp only [List.length_drop, List.length_take]; rfl)) ?_; (with_reducible refine (frame_Take.calls _ _ t133 0 t137 t138 t141 t142 _ ?side1 ?side2 A2.out).mono ?_); (case side1 => repeat (first | exact (Kd.R_reads' HO135.out).2.2 | (with_reducible refine Kd.C_alloc ?_ _) | (with_reducible refine Kd.C_drewN ?_ _) | (with_reducible refine Kd.C_drew ?_))); (case side2 => exact (Kd.R_reads' HO135.out).2.1); rintro e w49 ⟨v139, rfl, ho0, hb⟩; refine ⟨_, rfl, ?_⟩; have n0_ := Aside0.mk (Kd.R_below (by (with_reducible repeat (first | apply Kd.R_alloc | apply Kd.R_drewN | apply Kd.R_drew)); exact HO135.out) hb); have n1_ := Aside0.mk (Kd.V_lower (Kd.V_mono (ok' := fun k_ => some k_ ≠ (.slice Ao48 t133.length co48 : Value).ownBlock) ho0 (fun k_ hk_ => (Kd.fresh' (Kd.R_lt (by (with_reducible repeat (first | apply Kd.R_alloc | apply Kd.R_drewN | apply Kd.R_drew)); exact HO135.out)) k_ hk_))) (below_size (by repeat (first | (with_reducible first | exact HB.out | apply below_alloc | apply pw_below_drewN | apply below_drew1) | exact HB.out)))); have n2_ := Aside0.mk (below_step (by repeat (first | (with_reducible first | exact HB.out | apply below_alloc | apply pw_below_drewN | apply below_drew1) | exact HB.out)) hb); clear HO135; clear HB; have HO135 := n0_; have HO140 := n1_; have HB := n2_; clear n0_ n1_ n2_; (try clear hb); (try clear hb2); (try clear hk); (try clear hi); (try clear ho0)) | ((with_reducible refine gate_dst (N := 3) rfl ?_); (try (refine gate_guard (by rfl) ?_; dsimp only)); refine box_event ?hg (N := 3) ?hd (cs := #[.int .i64 0, .slice none 0 0]) (t := 29) ?hr ?_; (case hd => rfl); (case hg => rfl); (case hr => first | (go_simp; done) | (go_simp; rfl)); intro gb143 hg w50 hbox hb; have n0_ := Aside0.mk (Kd.R_below (by (with_reducible repeat (first | apply Kd.R_alloc | apply Kd.R_drewN | apply Kd.R_drew)); exact HO135.out) hb); have n1_ := Aside0.mk (Kd.V_below (Kd.V_elderB (by (with_reducible repeat (first | apply Kd.V_alloc | apply Kd.V_drewN | apply Kd.V_drew)); exact HO140.out) gb143 (Nat.le_of_eq hg.symm)) hb); have n2_ := Aside0.mk (below_step (by repeat (first | (with_reducible first | exact HB.out | apply below_alloc | apply pw_below_drewN | apply below_drew1) | exact HB.out)) hb); have n3_ := Aside0.mk (hbox); have n4_ := Aside0.mk ((by rw [hg]; exact (below_size (by repeat (first | (with_reducible first | exact HB.out | apply below_alloc | apply pw_below_drewN | apply below_drew1) | exact HB.out))) : w.heap.size ≤ gb143)); have n5_ := Aside0.mk ((by rw [hg]; exact (below_size (by repeat (first | (with_reducible first | exact HB.out | apply below_alloc | apply pw_below_drewN | apply below_drew1) | exact HB.out))) : w.heap.size ≤ gb143)); clear HO135; clear HO140; clear HB; have HO135 := n0_; have HO140 := n1_; have HB := n2_; have BK143 := n3_; have GW143 := n4_; have GE143 := n5_; clear n0_ n1_ n2_ n3_ n4_ n5_; clear hb hbox hg; have hcz51_0 : w50.cell? ⟨gb143, 0, none⟩ = some (.int .i64 0) := (blk_cell BK143.out 0).trans rfl; have hcz51_1 : w50.cell? ⟨gb143, 1, none⟩ = some (.slice none 0 0) := (blk_cell BK143.out 1).trans rfl; have hfz51_0 := blk_frozen BK143.out 0; have hfz51_1 := blk_frozen BK143.out 1; obtain ⟨Ao52, co52, eo52⟩ := Kd.V_slice HO140.out; subst eo52))
    go_ret
    exact ⟨by first | rfl | (simp [errW_none, errW_some] <;> rfl) | (simp [*, errW_none, errW_some] <;> rfl), by repeat (first | (with_reducible first | exact HB.out | apply below_alloc | apply pw_below_drewN | apply below_drew1 | refine below_set ?_ GE143.out) | exact HB.out)⟩

end Go.Proofs.Ytcnapbpljghfoaa.PCrc

/- What the printed functions of the document and of frame tell, in plain words: what is framed, what is taken. -/
namespace Go.Proofs.Ytcnapbpljghfoaa.Plain
open Go.RowKit Go.Proofs.YtcnapbpljghfoaaW.PrintWords Go.Proofs.YtcnapbpljghfoaaW.PrintLast Go.Proofs.YtcnapbpljghfoaaW.PrintMore
open Go.Proofs.Ytcnapbpljghfoaa.PCrc
open Go.Proofs.Ytcnapbpljghfoaa.Hand (moreF sealF ownF tailL sum_f tail_f refsumF fixF concatF takeO)
set_option linter.unusedVariables false
set_option linter.unusedSimpArgs false

theorem strOfNums_extract (l : List Int) (i j : Nat) : (strOfNums l).extract i j = strOfNums ((l.take j).drop i) := by
  apply ByteArray.ext
  rw [ByteArray.data_extract]
  apply Array.ext'
  simp [strOfNums, List.map_take, List.map_drop, List.extract_eq_take_drop]
  rw [List.drop_take]
theorem bt_strOfNums {l : List Int} (h : isB l) (i : Nat) (hi : i < l.length) : bt (strOfNums l) (i : Int) = l.getD i 0 := by
  unfold bt
  rw [dif_pos (by rw [strOfNums_size, Int.toNat_natCast]; exact hi)]
  simp only [Int.toNat_natCast]
  have hx := h l[i] (List.getElem_mem _)
  rw [List.getD_eq_getElem?_getD, List.getElem?_eq_getElem hi]
  have e : ((strOfNums l)[i]'(by rw [strOfNums_size]; exact hi)) = UInt8.ofNat (l[i]).toNat := by
    simp [strOfNums, ByteArray.getElem_eq_getElem_data]
  rw [e, UInt8.toNat_ofNat', Option.getD_some]
  omega
theorem str_eq {l r : List Int} (h : isB l) (h' : isB r) : (strOfNums l).toList = (strOfNums r).toList ↔ l = r := ⟨strOfNums_inj h h', fun e => by rw [e]⟩

theorem refseal_f {l : List Int} (hb : isB l) (hl : l.length ≤ 140737488355328) : concordanceref1_Seal.f (strOfNums l) = some (strOfNums (l ++ tailL (moreN 0 l))) := by
  unfold concordanceref1_Seal.f concordanceref1_Sum.f refsumF concordanceref1_four.f
  rw [if_pos (by rw [strOfNums_size]; exact hl), Option.bind_some, Option.bind_some, if_pos (by rw [strOfNums_size, strOfNums_size]; simp only [List.length_cons, List.length_nil]; omega), bytesOf_strOfNums hb, strOfNums_append]
  rfl
theorem refopen_f {l : List Int} (hb : isB l) (hl : l.length ≤ 140737488355328) : concordanceref1_Open.f (strOfNums l) = some (strOfNums (openL l).1, (openL l).2) := by
  unfold concordanceref1_Open.f openL
  rw [strOfNums_size, w64 (by omega) (by omega)]
  by_cases h4 : l.length < 4
  · rw [if_pos (by omega), if_pos h4]
    rfl
  · have e : ((l.length : Int) - 4).toNat = l.length - 4 := by omega
    rw [if_neg (by omega), if_pos (by omega), if_pos (by omega), if_neg h4, e, strOfNums_extract, List.drop_zero, refseal_f (isB_take hb _) (by rw [List.length_take]; omega), Option.bind_some]
    have hsp : l = l.take (l.length - 4) ++ l.drop (l.length - 4) := (List.take_append_drop _ _).symm
    have hiff : (strOfNums (l.take (l.length - 4) ++ tailL (moreN 0 (l.take (l.length - 4))))).toList = (strOfNums l).toList ↔ tailL (moreN 0 (l.take (l.length - 4))) = l.drop (l.length - 4) := by
      rw [str_eq (sealed_isB (isB_take hb _)) hb]
      constructor
      · intro h
        conv at h => rhs; rw [hsp]
        exact List.append_cancel_left h
      · intro h
        rw [h]
        exact hsp.symm
    by_cases ht : tailL (moreN 0 (l.take (l.length - 4))) = l.drop (l.length - 4)
    · rw [if_pos ht, if_pos (hiff.2 ht)]
    · rw [if_neg ht, if_neg (fun h => ht (hiff.1 h))]
      rfl
theorem reffixed_three {l : List Int} (hb : isB l) (hl : l.length = 3) (k : Nat) : concordanceref1_Fixed.f (k + 5) (strOfNums l) 3 = some ((three l : Int), 0) := by
  have hf := fixedV_three hb hl
  obtain ⟨a, b, c, rfl⟩ : ∃ a b c, l = [a, b, c] := by
    match l, hl with
    | [a, b, c], _ => exact ⟨a, b, c, rfl⟩
  have b0 := bt_strOfNums hb 0 (by simp)
  have b1 := bt_strOfNums hb 1 (by simp)
  have b2 := bt_strOfNums hb 2 (by simp)
  rw [show ((0 : Nat) : Int) = 0 from rfl] at b0
  rw [show ((1 : Nat) : Int) = 1 from rfl] at b1
  rw [show ((2 : Nat) : Int) = 2 from rfl] at b2
  have hs : ((strOfNums [a, b, c]).size : Int) = 3 := by rw [strOfNums_size]; rfl
  unfold concordanceref1_Fixed.f
  rw [if_neg (by omega), concordanceref1_Fixed.j0, if_neg (by simp), hs, if_neg (by omega)]
  rw [show k + 4 = (k + 3) + 1 from rfl, concordanceref1_Fixed.l0, if_pos (by omega), if_pos (by omega), hs, if_pos (by omega), b0, w64 (by omega) (by omega)]
  rw [show k + 3 = (k + 2) + 1 from rfl, concordanceref1_Fixed.l0, if_pos (by omega), if_pos (by omega), hs, if_pos (by omega), show (0 : Int) + 1 = 1 from rfl, b1, w64 (by omega) (by omega)]
  rw [show k + 2 = (k + 1) + 1 from rfl, concordanceref1_Fixed.l0, if_pos (by omega), if_pos (by omega), hs, if_pos (by omega), show (1 : Int) + 1 = 2 from rfl, b2, w64 (by omega) (by omega)]
  rw [concordanceref1_Fixed.l0, if_neg (by omega), ← hf]
  rfl
theorem frameok_f (k : Nat) (a n : Int) : concordanceref1_FrameOk.f (k + 1) a n = some (if a < 1 ∨ 250 < a then 1 else if 70000 < n then 2 else 0) := by
  unfold concordanceref1_FrameOk.f
  by_cases h1 : a < 1
  · rw [if_pos h1, concordanceref1_FrameOk.j0, if_pos rfl, if_pos (.inl h1)]
  · rw [if_neg h1, concordanceref1_FrameOk.j0]
    by_cases h2 : a > 250
    · rw [decide_eq_true h2, if_pos rfl, if_pos (.inr h2)]
    · rw [decide_eq_false h2, if_neg (by simp), if_neg (show ¬ (a < 1 ∨ 250 < a) from by omega)]
      by_cases h3 : 70000 < n
      · rw [if_pos (show n > 70000 from h3), if_pos h3]
      · rw [if_neg (show ¬ n > 70000 from h3), if_neg h3]
theorem take_getD {l : List Int} {m : Nat} (h : 0 < m) : (l.take m).getD 0 0 = l.getD 0 0 := by
  cases l with
  | nil => simp
  | cons x l => cases m with
    | zero => omega
    | succ m => rfl
/-- The document's Unframe tells what frame.Take tells. -/
theorem unframe_f {l : List Int} (hb : isB l) (hl : l.length ≤ 140737488355328) (a : Int) (ha : -9223372036854775808 ≤ a) (ha2 : a < 9223372036854775808) (k : Nat) : concordanceref1_Unframe.f (k + 6) (strOfNums l) a = some ((takeF l a).1, strOfNums (takeF l a).2.1, (takeF l a).2.2.1, (takeF l a).2.2.2) := by
  unfold concordanceref1_Unframe.f takeF
  by_cases h1 : a < 0
  · rw [if_pos h1, concordanceref1_Unframe.j0, if_pos rfl, if_pos (.inl h1)]
    rfl
  · rw [if_neg h1, concordanceref1_Unframe.j0, strOfNums_size]
    by_cases h2 : (l.length : Int) < a
    · rw [decide_eq_true h2, if_pos rfl, if_pos (.inr h2)]
      rfl
    · rw [decide_eq_false h2, if_neg (by simp), if_neg (show ¬ (a < 0 ∨ (l.length : Int) < a) from by omega)]
      obtain ⟨n, rfl⟩ := Int.eq_ofNat_of_zero_le (show 0 ≤ a by omega)
      rw [w64 (x := (l.length : Int) - n) (by omega) (by omega), w64 (x := (n : Int) + 8) (by omega) (by omega), w64 (x := (n : Int) + 12) (by omega) (by omega), Int.toNat_natCast, List.length_drop]
      by_cases h3 : l.length - n < 8
      · rw [if_pos (show (l.length : Int) - n < 8 from by omega), if_pos h3]
        rfl
      · rw [if_neg (show ¬ (l.length : Int) - n < 8 from by omega), if_neg h3, if_pos (by omega), if_pos (by omega), if_pos (by omega), strOfNums_extract, show ((n : Int) + 8).toNat = n + 8 from by omega]
        have e8 : (l.take (n + 8)).drop n = (l.drop n).take 8 := by rw [List.drop_take]; congr 1; omega
        have hb8 := isB_take (isB_drop hb n) 8
        have hl8 : ((l.drop n).take 8).length = 8 := by rw [List.length_take, List.length_drop]; omega
        rw [e8, refopen_f hb8 (by omega), Option.bind_some]
        have hol := openL_len (l := (l.drop n).take 8)
        have hoB := openL_isB hb8
        rw [hl8] at hol
        by_cases h4 : (openL ((l.drop n).take 8)).2 = 0
        · have hx4 : ((openL ((l.drop n).take 8)).1).length = 4 := by rw [(hol h4).1, List.length_take, hl8]; rfl
          generalize (openL ((l.drop n).take 8)).1 = x at hx4 hoB ⊢
          have hb3 := isB_drop hoB 1
          have hl3 : (x.drop 1).length = 3 := by rw [List.length_drop]; omega
          have hn3 := three_lt hb3 hl3
          have hk := bt_strOfNums hoB 0 (by omega)
          rw [show ((0 : Nat) : Int) = 0 from rfl] at hk
          have hk2 : 0 ≤ x.getD 0 0 ∧ x.getD 0 0 < 256 := by
            rw [List.getD_eq_getElem?_getD, List.getElem?_eq_getElem (show 0 < x.length by omega)]
            exact hoB _ (List.getElem_mem _)
          rw [if_pos h4, if_pos h4]
          dsimp only
          rw [strOfNums_size, if_pos (by omega), strOfNums_extract, List.take_length, reffixed_three hb3 hl3, Option.bind_some, if_pos (by omega), hk]
          dsimp only
          unfold recB
          generalize three (x.drop 1) = q at hn3 ⊢
          generalize x.getD 0 0 = c at hk2 ⊢
          rw [w64 (x := c) (by omega) (by omega), w64 (x := (q : Int)) (by omega) (by omega), frameok_f, Option.bind_some, w64 (x := (l.length : Int) - n - 8) (by omega) (by omega), w64 (x := (q : Int) + 4) (by omega) (by omega), w64 (x := (n : Int) + 12 + q) (by omega) (by omega)]
          by_cases h5 : c < 1 ∨ 250 < c
          · rw [if_pos h5, if_neg (by omega), if_pos (show c < 1 ∨ 250 < c ∨ 70000 < q from by omega)]
            rfl
          · rw [if_neg h5]
            by_cases h6 : 70000 < (q : Int)
            · rw [if_pos h6, if_neg (by omega), if_pos (show c < 1 ∨ 250 < c ∨ 70000 < q from by omega)]
              rfl
            · rw [if_neg h6, if_pos rfl, if_neg (show ¬ (c < 1 ∨ 250 < c ∨ 70000 < q) from by omega), List.length_drop]
              by_cases h7 : (l.length : Int) - n - 8 < (q : Int) + 4
              · rw [if_pos h7, if_pos (show ((l.length - n : Nat) : Int) - 8 < (q : Int) + 4 from by omega)]
                rfl
              · rw [if_neg h7, if_neg (show ¬ ((l.length - n : Nat) : Int) - 8 < (q : Int) + 4 from by omega), if_pos (by omega), if_pos (by omega), if_pos (by omega), strOfNums_extract, show ((n : Int) + 12 + q).toNat = n + (12 + q) from by omega]
                have e9 : (l.take (n + (12 + q))).drop (n + 8) = ((l.drop n).take (12 + q)).drop 8 := by
                  rw [← List.drop_drop, List.drop_take]
                  congr 2
                  omega
                rw [e9, refopen_f (isB_drop (isB_take (isB_drop hb n) _) 8) (by rw [List.length_drop, List.length_take, List.length_drop]; omega), Option.bind_some]
                by_cases h8 : (openL (((l.drop n).take (12 + q)).drop 8)).2 = 0
                · rw [if_pos h8, if_pos h8]
                · rw [if_neg h8, if_neg h8]
                  rfl
        · rw [if_neg h4, if_neg h4]
          rfl

/-- A record: its head (the kind, the length), sealed, and its body, sealed. -/
def headL (kind : Int) (n : Nat) : List Int := (kind % 256) :: fixL n 3
def recL (kind : Int) (body : List Int) : List Int := (headL kind body.length ++ tailL (moreN 0 (headL kind body.length))) ++ (body ++ tailL (moreN 0 body))
theorem headL_length (kind : Int) (n : Nat) : (headL kind n).length = 4 := rfl
theorem fixL_isB (n s : Nat) : isB (fixL n s) := by
  induction s with
  | zero => intro x hx; cases hx
  | succ s ih =>
    intro x hx
    rcases List.mem_cons.1 hx with rfl | hx
    · omega
    · exact ih x hx
theorem headL_isB (kind : Int) (n : Nat) : isB (headL kind n) := by
  intro x hx
  rcases List.mem_cons.1 hx with rfl | hx
  · omega
  · exact fixL_isB n 3 x hx
theorem recL_isB {kind : Int} {body : List Int} (hb : isB body) : isB (recL kind body) := isB_append (sealed_isB (headL_isB _ _)) (sealed_isB hb)
theorem recL_length (kind : Int) (body : List Int) : (recL kind body).length = body.length + 12 := by
  unfold recL
  rw [List.length_append, List.length_append, List.length_append, headL_length, tailL_length, tailL_length]
  omega
/-- What frame.Put tells. -/
def putF (l : List Int) (kind : Int) (body : List Int) : List Int × Int := if kind < 1 ∨ 250 < kind then ([], 1) else if 70000 < body.length then ([], 2) else (l ++ recL kind body, 0)
theorem put_f {l body : List Int} (hl : l.length ≤ 140737488200000) (hbb : isB body) (hbl : body.length ≤ 140737488200000) (kind : Int) (k : Nat) : frame_Put.f (k + 1) l kind body = some (putF l kind body) := by
  unfold frame_Put.f putF
  by_cases h1 : kind < 1
  · rw [if_pos h1, frame_Put.j0, if_pos rfl, if_pos (.inl h1)]
  · rw [if_neg h1, frame_Put.j0]
    by_cases h2 : kind > 250
    · rw [decide_eq_true h2, if_pos rfl, if_pos (.inr h2)]
    · rw [decide_eq_false h2, if_neg (by simp), if_neg (show ¬ (kind < 1 ∨ 250 < kind) from by omega)]
      by_cases h3 : 70000 < body.length
      · rw [if_pos (show (body.length : Int) > 70000 from by omega), if_pos h3]
      · have hh := headL_isB kind body.length
        have hfx : num_Fix.f [kind % 256] (IntKind.u64.wrap (body.length : Int)) 3 = some (headL kind body.length) := by
          unfold num_Fix.f fixF
          rw [wrap_u64, if_pos ⟨by simp, by omega, by omega⟩, show ((body.length : Int) % 18446744073709551616).toNat = body.length from by omega]
          rfl
        have hcc : slices_Concat_byte_byte.f [l, headL kind body.length ++ tailL (moreN 0 (headL kind body.length)), body ++ tailL (moreN 0 body)] = some (l ++ recL kind body) := by
          unfold slices_Concat_byte_byte.f concatF
          have hfl : [l, headL kind body.length ++ tailL (moreN 0 (headL kind body.length)), body ++ tailL (moreN 0 body)].flatten = l ++ recL kind body := by
            simp only [List.flatten_cons, List.flatten_nil, List.append_nil]
            rfl
          rw [hfl, if_pos ⟨by simp, by rw [List.length_append, recL_length]; omega⟩]
        rw [if_neg (show ¬ (body.length : Int) > 70000 from by omega), if_neg h3, hfx, Option.bind_some, seal_f hh (by rw [headL_length]; omega), Option.bind_some, seal_f hbb (by omega), Option.bind_some, hcc, Option.bind_some]
theorem three_fix {n : Nat} (h : n < 16777216) : three (fixL n 3) = n := by
  unfold three
  simp only [fixL, List.getD_cons_zero, List.getD_cons_succ]
  omega
/-- What was framed is taken again. -/
theorem take_rec {l r body : List Int} {kind : Int} (hb : isB body) (h1 : 1 ≤ kind) (h2 : kind ≤ 250) (h3 : body.length ≤ 70000) : takeF (l ++ recL kind body ++ r) l.length = (kind, body, (l.length : Int) + 12 + body.length, 0) := by
  have hlen : (l ++ recL kind body ++ r).length = l.length + (body.length + 12) + r.length := by rw [List.length_append, List.length_append, recL_length]
  have hdrop : (l ++ recL kind body ++ r).drop l.length = recL kind body ++ r := by rw [List.append_assoc, List.drop_left]
  have hh : (headL kind body.length ++ tailL (moreN 0 (headL kind body.length))).length = 8 := rfl
  have hrec : recL kind body ++ r = (headL kind body.length ++ tailL (moreN 0 (headL kind body.length))) ++ ((body ++ tailL (moreN 0 body)) ++ r) := by
    unfold recL
    rw [List.append_assoc]
  have ht8 : (recL kind body ++ r).take 8 = headL kind body.length ++ tailL (moreN 0 (headL kind body.length)) := by
    rw [hrec]
    exact List.take_left' hh
  have hs : (body ++ tailL (moreN 0 body)).length = body.length + 4 := by rw [List.length_append, tailL_length]
  have ht12 : ((recL kind body ++ r).take (12 + body.length)).drop 8 = body ++ tailL (moreN 0 body) := by
    rw [hrec, show 12 + body.length = 8 + (body.length + 4) from by omega, List.drop_take, show 8 + (body.length + 4) - 8 = body.length + 4 from by omega, List.drop_left' hh]
    exact List.take_left' hs
  unfold takeF
  rw [if_neg (by omega), Int.toNat_natCast, hdrop, ht8, openL_seal, if_neg (by rw [List.length_append, recL_length]; omega), if_pos rfl]
  unfold recB
  dsimp only
  have hk : (headL kind body.length).getD 0 0 = kind := by show kind % 256 = kind; omega
  have hd : (headL kind body.length).drop 1 = fixL body.length 3 := rfl
  rw [hk, hd, three_fix (by omega), if_neg (by omega), if_neg (by rw [List.length_append, recL_length]; omega), ht12, openL_seal, if_pos rfl]
/-- awake tells true. -/
theorem awake3_f (k : Nat) : concordancelaw3_awake.f (k + 1) = some true := by
  unfold concordancelaw3_awake.f
  have hn : isB [] := by intro x hx; cases hx
  rw [put_f (by simp) hn (by simp), Option.bind_some]
  have hp : putF [] 1 [] = (recL 1 [], 0) := by
    unfold putF
    rw [if_neg (by omega), if_neg (by simp), List.nil_append]
  have ht := take_rec (l := []) (r := []) (body := []) (kind := 1) hn (by omega) (by omega) (by simp)
  rw [List.nil_append, List.append_nil, List.length_nil] at ht
  have hto : frame_Take.f (recL 1 []) 0 = some (1, [], 12, 0) := by
    unfold frame_Take.f takeO
    rw [if_pos ⟨recL_isB hn, by rw [recL_length]; simp⟩]
    rw [show (((0 : Nat) : Int)) = 0 from rfl] at ht
    rw [ht]
    rfl
  rw [hp]
  dsimp only
  rw [hto, Option.bind_some, if_pos (by rw [recL_length]; simp), if_pos rfl, if_pos rfl, if_pos (by simp), if_pos rfl, if_pos rfl]
  decide +kernel
end Go.Proofs.Ytcnapbpljghfoaa.Plain

/- A range over a function whose iterator tells of the world, too: what it yields, it has laid in memory that the rounds keep. -/
namespace Go.Proofs.Ytcnapbpljghfoaa.Hand
open Go.RowKit
set_option linter.unusedVariables false
section
variable {α : Type} {F : Fence} {n : Nat} {P : Program}
/-- The iterator's word: S and Sp speak of what was yielded and of the world behind it; across a round it is kept what Kp says. -/
def SeqSeen (F : Fence) (n : Nat) (P : Program) (g : Nat) (lb : Array Value) (encs : α → Array Value) (Kp : World → World → Prop) (S Sp : List α → World → Prop) (N : Nat) (w : World) : Prop :=
  ∀ (l : Nat) (J Jx : List α → World → Prop) (W : World), Below w.heap.size w W → AbidesFrom W.heap.size J →
    (∀ pre x W1, J pre W1 → pre.length < N → YieldAt F (n - 1) P l (encs x) W1 fun e W' =>
      (e = .returned (.bool true) ∧ J (pre ++ [x]) W' ∧ Kp W1 W') ∨ (e = .returned (.bool false) ∧ Jx (pre ++ [x]) W' ∧ Kp W1 W')) →
    J [] W →
    CallsIn F n P g (#[.func (.yield l) #[] #[]] ++ lb) W fun e W' => (∃ v, e = .returned v) ∧ ((∃ xs, S xs W' ∧ J xs W') ∨ (∃ pre, Sp pre W' ∧ Jx pre W'))
/-- How a round's body may end: it goes on, or it leaves by a label. -/
def seenPost (B : Nat) (Kp : World → World → Prop) (I : List α → World → Prop) (Ix : Nat → List α → World → Prop) (xs : List α) (W : World) : Exit → Act → World → Prop
  | .normal, _, W' => KeepsFrom B W W' ∧ Kp W W' ∧ I xs W'
  | .exit id, _, W' => KeepsFrom B W W' ∧ Kp W W' ∧ Ix id xs W'
  | _, _, _ => False
/-- What the loop's own book-keeping leaves alone: objects from B on that hold no cells. -/
def Aloof (B : Nat) (S : World → Prop) : Prop := ∀ W l o o', S W → B ≤ l → W.heap[l]? = some o → o.isCells = false → S (W.putObj l o')

theorem rangeFunc_seen {g : Operand} {ps : Array Tmp} {assign body : Code} {Q : Exit → Act → World → Prop} {a : Act} {w : World}
    (hro : F.round = none) (h1 : 1 ≤ n) {gf : Nat} {lb : Array Value} (hg : a.eval g = .func (.func gf) #[] lb) (hFg : F.fn gf) (eg : ∀ args w, (callFunc gf args).run P w = .ok (.enter gf args) w)
    {encs : α → Array Value} {Kp : World → World → Prop} {S Sp : List α → World → Prop} {N : Nat} {w0 : World} (hseq : SeqSeen F (n - 1) P gf lb encs Kp S Sp N w0)
    (hKt : ∀ {A B C : World}, Kp A B → Kp B C → Kp A C) (hKb : ∀ (W : World) (l : Nat) (o o' : Obj), w.heap.size ≤ l → W.heap[l]? = some o → o.isCells = false → Kp W (W.putObj l o')) (hb0 : Below w0.heap.size w0 w) (hps : ∀ x, (encs x).size = ps.size)
    (I : List α → World → Prop) (Ix : Nat → List α → World → Prop) (hI : OwnFrom w.heap.size I) (hIx : ∀ c, OwnFrom w.heap.size (Ix c)) (hS : ∀ xs, Aloof w.heap.size (S xs)) (hSp : ∀ xs, Aloof w.heap.size (Sp xs)) (h0 : I [] w)
    (Ax : α → Act → World → Prop) (hAx : ∀ x a', OwnFrom w.heap.size (fun (_ : Unit) W => Ax x a' W))
    (hassign : ∀ (l : Nat) (pre : List α) (x : α) (W : World) (K : Act → World → Prop), I pre W → (∀ a' W', KeepsFrom w.heap.size W W' → Kp W W' → I pre W' → Ax x a' W' → K a' W') →
      assign.wpIn (F.inRound l) (n - 1 - 1) P (Exit.then K (fun _ _ _ => False)) { tmps := (ps.zip (encs x)).foldl (fun t (p, v) => t.setIfInBounds p v) a.tmps, defers := [] } W)
    (hbody : ∀ (l : Nat) (pre : List α) (x : α) (a' : Act) (W : World), I pre W → Ax x a' W → pre.length < N → body.wpIn (F.inRound l) (n - 1 - 1) P (seenPost w.heap.size Kp I Ix (pre ++ [x]) W) a' W)
    (hdone : ∀ (D : Nat) (xs : List α) (W : World), w.heap.size ≤ D → S xs W → I xs W → W.heap[D]? = some (.deferred (some [])) → Q .normal { a with defers := { target := .collected D, args := #[] } :: a.defers } W)
    (hstop : ∀ (D c : Nat) (pre : List α) (W : World), w.heap.size ≤ D → Sp pre W → Ix c pre W → W.heap[D]? = some (.deferred (some [])) → (Code.exit c).wpIn F n P Q { a with defers := { target := .collected D, args := #[] } :: a.defers } W) :
    (Code.rangeFunc g ps assign body).wpIn F n P Q a w := by
  refine wpIn_rangeFunc fun fn hfn => ?_
  rw [hro]
  -- the loop's record, in its states
  obtain ⟨R, hR⟩ : ∃ R : LoopState → Option Code → Loop, R = fun st pe => { state := st, pending := pe, fn, tmps := a.tmps, params := ps, assign, body, defers := w.heap.size } := ⟨_, rfl⟩
  obtain ⟨V, hV⟩ : ∃ V, (w.alloc (.deferred (some []))).alloc (.loop (R .ready none)) = V := ⟨_, rfl⟩
  have vL : V.heap[w.heap.size + 1]? = some (.loop (R .ready none)) := by
    have := World.alloc_heap_new (w.alloc (.deferred (some []))) (.loop (R .ready none))
    rw [World.size_alloc] at this
    rw [← hV]
    exact this
  have vD : V.heap[w.heap.size]? = some (.deferred (some [])) := by
    rw [← hV]
    exact (Below.heap_alloc _ _ _ (by simp)).trans (World.alloc_heap_new w _)
  have vI : I [] V := by
    rw [← hV]
    exact hI.alloc _ (hI.alloc _ h0)
  have vS : V.heap.size = w.heap.size + 2 := by
    rw [← hV]
    simp
  have vB : Below w0.heap.size w0 V := by
    rw [← hV]
    exact hb0.trans ((((Below.refl _ w).alloc (Nat.le_refl _) _).alloc (by simp) _).mono hb0.size)
  refine ⟨w.heap.size + 1, [{ target := .collected w.heap.size, args := #[] }], V, { target := .fn (.func gf) lb, args := #[.func (.yield (w.heap.size + 1)) #[] #[]] }, V, gf, #[.func (.yield (w.heap.size + 1)) #[] #[]] ++ lb, V, ?_, ?_, ?_, ?_, fun _ => h1, ?_⟩
  · rw [← hV, hR]
    exact run_enterLoop_outer _ _ _ _ _
  · simp only [resolve, hg]
    simp [go_sem]
  · intro f' hf'
    simp [Target.leads] at hf'
    subst hf'
    exact hFg
  · simp [invoke, go_sem, eg]
  have walks : ∀ {A : World} {row : Option Nat}, (∀ r, row = some r → V.heap.size ≤ r ∧ ∃ o : Obj, A.heap[r]? = some o ∧ o.isWalk = true) → ∀ r, row = some r → w.heap.size ≤ r ∧ ∃ o : Obj, A.heap[r]? = some o ∧ o.isCells = false := by
    intro A row hr r e
    obtain ⟨hle, o, ho, hw⟩ := hr r e
    exact ⟨by omega, o, ho, Obj.not_cells_of_walk hw⟩
  refine (hseq (w.heap.size + 1) (fun pre W => I pre W ∧ W.heap[w.heap.size + 1]? = some (.loop (R .ready none)) ∧ W.heap[w.heap.size]? = some (.deferred (some [])))
    (fun pre W => ∃ c, Ix c pre W ∧ W.heap[w.heap.size + 1]? = some (.loop (R .done (some (.exit c)))) ∧ W.heap[w.heap.size]? = some (.deferred (some []))) V vB ?abides ?round ⟨vI, vL, vD⟩).mono ?behind
  case abides =>
    rintro s A B row ⟨hi, hl, hd⟩ hgr hr
    have hr2 := fun r e => (hr r e).2
    exact ⟨hI s A B row hi hgr (walks hr), (grownBy_keeps hgr hr2 hl rfl).trans hl, (grownBy_keeps hgr hr2 hd rfl).trans hd⟩
  case round =>
    rintro pre x W ⟨hi, hl, hd⟩ hlen
    have hy := run_yield (P := P) (args := encs x) hl (by rw [hR]; exact hps x)
    rw [hR] at hy
    refine ⟨fn, _, assign, body, hy, roundIn_of_wpIn hfn (hassign _ pre x W _ hi ?_)⟩
    clear hy
    intro a' W2 hkf hkp hi2 hax
    have hl2 := hkf.same _ _ (by omega) hl rfl
    have hd2 := hkf.same _ _ (Nat.le_refl _) hd rfl
    have hlt : w.heap.size + 1 < W2.heap.size := (Array.getElem?_eq_some_iff.1 hl2).1
    refine ⟨_, run_beginRound hl2 (by rw [hR]), ?_⟩
    obtain ⟨W3, hW3⟩ : ∃ W3, W2.putObj (w.heap.size + 1) (.loop { R .ready none with state := .busy }) = W3 := ⟨_, rfl⟩
    have hl3 : W3.heap[w.heap.size + 1]? = some (.loop { R .ready none with state := .busy }) := by rw [← hW3]; exact World.putObj_heap_same hlt
    have hd3 : W3.heap[w.heap.size]? = some (.deferred (some [])) := by rw [← hW3]; exact (World.putObj_heap_other (by omega)).trans hd2
    have hk3 : Kp W2 W3 := by rw [← hW3]; exact hKb _ _ _ _ (by omega) hl2 rfl
    have hi3 : I pre W3 := by rw [← hW3]; exact hI.putObj _ hi2 (by omega) hl2 rfl
    have ha3 : Ax x a' W3 := by rw [← hW3]; exact (hAx x a').putObj (s := ()) _ hax (by omega) hl2 rfl
    rw [hW3]
    refine wpIn_mono (hbody _ pre x a' W3 hi3 ha3 hlen) ?_
    -- the round's end turns the record once more
    have fin : ∀ (jump : Option Code) (W4 : World), KeepsFrom w.heap.size W3 W4 → ∃ W5, (Instr.endRound (w.heap.size + 1) jump).run P W4 = .ok (.bool jump.isNone) W5 ∧ W5 = W4.putObj (w.heap.size + 1) (.loop (R (if jump.isNone then .ready else .done) jump)) ∧
        W4.heap[w.heap.size + 1]? = some (.loop { R .ready none with state := .busy }) ∧ W5.heap[w.heap.size + 1]? = some (.loop (R (if jump.isNone then .ready else .done) jump)) ∧ W5.heap[w.heap.size]? = some (.deferred (some [])) := by
      intro jump W4 hk4
      have hl4 := hk4.same _ _ (by omega) hl3 rfl
      have hd4 := hk4.same _ _ (Nat.le_refl _) hd3 rfl
      have hr := run_endRound (P := P) jump hl4
      rw [hR] at hr hl4 ⊢
      exact ⟨_, hr, rfl, hl4, World.putObj_heap_same (Array.getElem?_eq_some_iff.1 hl4).1, (World.putObj_heap_other (by omega)).trans hd4⟩
    rintro e a4 W4 hp
    cases e with
    | normal =>
      obtain ⟨hk4, hkp4, hi4⟩ := hp
      obtain ⟨W5, hr, rfl, hl4, hl5, hd5⟩ := fin none W4 hk4
      exact ⟨_, _, hr, .inl ⟨rfl, ⟨hI.putObj _ hi4 (by omega) hl4 rfl, hl5, hd5⟩, hKt hkp (hKt hk3 (hKt hkp4 (hKb _ _ _ _ (by omega) hl4 rfl)))⟩⟩
    | exit id =>
      obtain ⟨hk4, hkp4, hi4⟩ := hp
      obtain ⟨W5, hr, rfl, hl4, hl5, hd5⟩ := fin (some (.exit id)) W4 hk4
      exact ⟨_, _, hr, .inr ⟨rfl, ⟨id, (hIx id).putObj _ hi4 (by omega) hl4 rfl, hl5, hd5⟩, hKt hkp (hKt hk3 (hKt hkp4 (hKb _ _ _ _ (by omega) hl4 rfl)))⟩⟩
    | _ => exact hp.elim
  case behind =>
    rintro e W ⟨⟨v, rfl⟩, ⟨xs, hs, hi, hl, hd⟩ | ⟨pre, hs, c, hi, hl, hd⟩⟩
    · have hr := run_endLoop (P := P) hl (by rw [hR]; simp)
      rw [hR] at hr
      refine ⟨none, _, hr, ?_⟩
      exact hdone _ xs _ (Nat.le_refl _) (hS xs W _ _ _ hs (by omega) hl rfl) (hI.putObj _ hi (by omega) hl rfl) ((World.putObj_heap_other (by omega)).trans hd)
    · have hr := run_endLoop (P := P) hl (by rw [hR]; simp)
      rw [hR] at hr
      refine ⟨some (.exit c), _, hr, ?_⟩
      exact hstop _ c pre _ (Nat.le_refl _) (hSp pre W _ _ _ hs (by omega) hl rfl) ((hIx c).putObj _ hi (by omega) hl rfl) ((World.putObj_heap_other (by omega)).trans hd)
end
end Go.Proofs.Ytcnapbpljghfoaa.Hand

/- frame.All: the records of bytes, with their places, as an iterator; the bodies lie in memory of their own. -/
namespace Go.Proofs.Ytcnapbpljghfoaa.Plain
open Go.RowKit Go.Proofs.YtcnapbpljghfoaaW.PrintWords
set_option linter.unusedVariables false
/-- The records from a place on, with their places. -/
def fitemsF : Nat → Int → List Int → List (Int × Int × List Int)
  | 0, _, _ => []
  | k + 1, a, l => if a < l.length then (if (takeF l a).2.2.2 = 0 then (a, (takeF l a).1, (takeF l a).2.1) :: fitemsF k (takeF l a).2.2.1 l else []) else []
def fitems (l : List Int) : List (Int × Int × List Int) := fitemsF (l.length + 1) 0 l
theorem fitemsF_nil (k : Nat) (a : Int) (l : List Int) (h : ¬ a < l.length) : fitemsF k a l = [] := by
  cases k with
  | zero => rfl
  | succ k => rw [fitemsF, if_neg h]
theorem fitemsF_stop (k : Nat) (a : Int) (l : List Int) {x : Int} {b : List Int} {n e : Int} (ht : takeF l a = (x, b, n, e)) (he : e ≠ 0) : fitemsF k a l = [] := by
  cases k with
  | zero => rfl
  | succ k =>
    rw [fitemsF, ht]
    simp [he]
theorem fitemsF_step (k : Nat) (a : Int) (l : List Int) {x : Int} {b : List Int} {n : Int} (h : a < l.length) (ht : takeF l a = (x, b, n, 0)) : fitemsF (k + 1) a l = (a, x, b) :: fitemsF k n l := by
  rw [fitemsF, ht, if_pos h, if_pos rfl]
theorem fitemsF_length (k : Nat) : ∀ (a : Int) (l : List Int), (fitemsF k a l).length ≤ k := by
  induction k with
  | zero => intro a l; simp [fitemsF]
  | succ k ih =>
    intro a l
    rw [fitemsF]
    split
    · split
      · rw [List.length_cons]; have := ih (takeF l a).2.2.1 l; omega
      · simp
    · simp
/-- Behind a record that is taken. -/
theorem takeF_next {l : List Int} (hb : isB l) {a x n : Int} {b : List Int} (h : takeF l a = (x, b, n, 0)) : 0 ≤ a ∧ n = a + 12 + b.length ∧ n ≤ l.length ∧ 1 ≤ x ∧ x ≤ 250 ∧ b.length ≤ 70000 ∧ isB b := by
  unfold takeF at h
  by_cases h1 : a < 0 ∨ (l.length : Int) < a
  · rw [if_pos h1] at h
    simp at h
  · rw [if_neg h1] at h
    obtain ⟨m, rfl⟩ := Int.eq_ofNat_of_zero_le (show 0 ≤ a by omega)
    rw [Int.toNat_natCast] at h
    by_cases h2 : (l.drop m).length < 8
    · rw [if_pos h2] at h
      simp at h
    · rw [if_neg h2] at h
      by_cases h3 : (openL ((l.drop m).take 8)).2 = 0
      · rw [if_pos h3] at h
        unfold recB at h
        generalize (openL ((l.drop m).take 8)).1 = y at h
        generalize three (y.drop 1) = q at h
        generalize y.getD 0 0 = k at h
        by_cases h4 : k < 1 ∨ 250 < k ∨ 70000 < q
        · rw [if_pos h4] at h
          simp at h
        · rw [if_neg h4] at h
          by_cases h5 : ((l.drop m).length : Int) - 8 < (q : Int) + 4
          · rw [if_pos h5] at h
            simp at h
          · rw [if_neg h5] at h
            have hd := isB_drop (isB_take (isB_drop hb m) (12 + q)) 8
            have hl5 : (((l.drop m).take (12 + q)).drop 8).length = 4 + q := by rw [List.length_drop, List.length_take]; omega
            generalize ((l.drop m).take (12 + q)).drop 8 = z at h hd hl5
            by_cases h6 : (openL z).2 = 0
            · rw [if_pos h6] at h
              injection h with e1 h
              injection h with e2 h
              injection h with e3 _
              have hz := (openL_len h6).1
              have hbz := openL_isB hd
              rw [e2] at hz hbz
              have hlb : b.length = q := by rw [hz, List.length_take]; omega
              rw [List.length_drop] at h5
              exact ⟨by omega, by omega, by omega, by omega, by omega, by omega, hbz⟩
            · rw [if_neg h6] at h
              injection h with _ h
              injection h with _ h
              injection h with _ h
              exact absurd h h6
      · rw [if_neg h3] at h
        injection h with _ h
        injection h with _ h
        injection h with _ h
        exact absurd h h3
end Go.Proofs.Ytcnapbpljghfoaa.Plain
namespace Go.Proofs.Ytcnapbpljghfoaa.Hand
open Go.RowKit Go.Shelf Go.Proofs.YtcnapbpljghfoaaW.PrintWords Go.Proofs.YtcnapbpljghfoaaW.PrintLast Go.Proofs.YtcnapbpljghfoaaW.PrintMore
open Go.Proofs.Ytcnapbpljghfoaa.Plain Go.Proofs.Ytcnapbpljghfoaa.PCrc
attribute [local go_sem] Oper.semAt_some
set_option linter.unusedVariables false
set_option linter.unusedSimpArgs false

/-- frame.All: the bytes, cloned, lie in a box; the function value captures it. -/
theorem fall_calls (A0 : Option Addr) (c0 : Nat) (l0 : List Int) (w : World) (hr0 : Kd.C (Kd.int .u8) w A0 l0.length l0) (hl : l0.length ≤ 140737488355328) :
    Calls Try.prog 28 #[.slice A0 l0.length c0] w fun e w' => ∃ (g : Nat) (v : Value), e = .returned (.func (.func 37) #[] #[.pointer (some ⟨g, 0, none⟩)]) ∧ Boxed w' g 22 v ∧ Kd.R (Kd.int .u8) 5 w' w.heap.size (fun _ => True) v l0 ∧ w.heap.size ≤ g ∧ Below w.heap.size w w' := by
  have HR0 := Aside0.mk hr0
  have HL := Aside0.mk hl
  clear hr0 hl
  go_enter Try.func28, Try.ntmps28
  have b0 := Boxed.new w 22 (.slice A0 l0.length c0)
  have B0 := Aside0.mk b0
  clear b0
  go_wp2_with (go_at_call 29; refine (clone_calls _ _ l0 _ (Kd.C_alloc HR0.out _) HL.out).mono ?_; rintro e w1 ⟨v, rfl, ho, hb⟩; obtain ⟨A1, c1, rfl⟩ := Kd.R_slice ho; have HO := Aside0.mk ho; have b1 := B0.out.kept (grown_of_below hb none) (by simp); have hc1 := b1.cell; have hf1 := b1.frozen; have B1 := Aside0.mk b1; have HB := Aside0.mk hb; clear ho hb b1)
  go_ret
  have hs : w.heap.size < w1.heap.size := B1.out.lt
  refine ⟨w.heap.size, .slice A1 l0.length c1, rfl, B1.out.set _, ?_, Nat.le_refl _, ?_⟩
  · have hne : ∀ k, k < w1.heap.size → k ≠ w.heap.size → (w1.setCell ⟨w.heap.size, 0, none⟩ (.slice A1 l0.length c1)).heap[k]? = w1.heap[k]? := fun k _ hk => Below.heap_setCell _ _ _ k hk
    have h1 := Kd.R_bound HO.out
    have h2 := Kd.R_step h1 (w1 := w1.setCell ⟨w.heap.size, 0, none⟩ (.slice A1 l0.length c1)) (fun k hk hlt => hne k hlt (by have := hk.2.1; simp at this; omega))
    exact Kd.R_mono (Kd.R_lower h2 (by simp)) (fun _ _ => trivial)
  · have hb : Below w.heap.size w w1 := below_then ((Below.refl _ w).alloc (Nat.le_refl _) _) (by simp) HB.out
    exact hb.setCell (p := ⟨w.heap.size, 0, none⟩) (Nat.le_refl _) _

/-- A record that is yielded: its place, its kind, its body and where that lies. -/
structure FRec where
  pos : Int
  kind : Int
  body : List Int
  A : Option Addr
  c : Nat
abbrev encF (x : FRec) : Array Value := #[.int .i64 x.pos, .agg #[.int .i64 x.kind, .slice x.A x.body.length x.c]]
def FRec.say (x : FRec) : Int × Int × List Int := (x.pos, x.kind, x.body)
def Good (hi : Nat) (xs : List FRec) (W : World) : Prop := ∀ x ∈ xs, B5 W hi (.slice x.A x.body.length x.c) x.body
/-- What a round keeps: the blocks from lo to hi, and every block of bytes from hi on. -/
structure KpB (lo hi : Nat) (W W' : World) : Prop where
  size : W.heap.size ≤ W'.heap.size
  mid : ∀ k, lo ≤ k → k < hi → W'.heap[k]? = W.heap[k]?
  bytes : ∀ k cells, hi ≤ k → W.heap[k]? = some (.cells cells 5 (0, 0)) → W'.heap[k]? = W.heap[k]?
theorem KpB.refl (lo hi : Nat) (W : World) : KpB lo hi W W := ⟨Nat.le_refl _, fun _ _ _ => rfl, fun _ _ _ _ => rfl⟩
theorem KpB.trans {lo hi : Nat} {A B C : World} (h : KpB lo hi A B) (k : KpB lo hi B C) : KpB lo hi A C :=
  ⟨Nat.le_trans h.size k.size, fun i h1 h2 => (k.mid i h1 h2).trans (h.mid i h1 h2), fun i cells h1 h2 => (k.bytes i cells h1 ((h.bytes i cells h1 h2).trans h2)).trans (h.bytes i cells h1 h2)⟩
theorem KpB.below {lo hi : Nat} {A B : World} (h : Below A.heap.size A B) (hs : hi ≤ A.heap.size) : KpB lo hi A B :=
  ⟨h.size, fun k _ h2 => h.block k (by omega), fun k cells _ hc => h.block k (blk_lt hc)⟩
theorem Good.kept {lo hi : Nat} {xs : List FRec} {W W' : World} (h : Good hi xs W) (hk : KpB lo hi W W') : Good hi xs W' := fun x hx =>
  (h x hx).step (Nat.le_refl _) (fun k ho => by obtain ⟨h1, cells, hc⟩ := ho; exact hk.bytes k cells h1 hc)

set_option maxRecDepth 100000 in
set_option maxHeartbeats 2000000 in
theorem fall1_in (n : Nat) (hn : 1 ≤ n) (l g lo hi : Nat) (A : Option Addr) (c : Nat) (l0 : List Int) (hg : lo ≤ g ∧ g < hi) (hby : isB l0) (hlen : l0.length ≤ 140737488355328) (J Jx : List FRec → World → Prop)
    (hY : ∀ pre x W, J pre W → pre.length < l0.length + 1 → YieldAt Fence.wide (n - 1) Try.prog l (encF x) W fun e W' =>
      (e = .returned (.bool true) ∧ J (pre ++ [x]) W' ∧ KpB lo hi W W') ∨ (e = .returned (.bool false) ∧ Jx (pre ++ [x]) W' ∧ KpB lo hi W W'))
    (W : World) (hJa : AbidesFrom W.heap.size J) (hb : Boxed W g 22 (.slice A l0.length c)) (hF : Kd.F (Kd.int .u8) W (fun k => lo ≤ k ∧ k < hi) A l0.length l0) (hlc : l0.length ≤ c) (hsz : hi ≤ W.heap.size) (h0 : J [] W) :
    CallsIn Fence.wide n Try.prog 37 #[.func (.yield l) #[] #[], .pointer (some ⟨g, 0, none⟩)] W fun e W' => (∃ v, e = .returned v) ∧
      ((∃ ys, (ys.map FRec.say = fitems l0 ∧ Good hi ys W') ∧ J ys W') ∨ (∃ pre, (pre.map FRec.say <+: fitems l0 ∧ Good hi pre W') ∧ Jx pre W')) := by
  refine callsIn_of_wp Try.func37 rfl trivial ?_ rfl
  simp only [Try.ntmps37, List.size_toArray, List.length_cons, List.length_nil, Nat.reduceAdd, Nat.reduceSub, Array.replicate_succ, Array.replicate_zero, List.push_toArray, List.append_toArray, List.nil_append, List.cons_append]
  have HB := Aside0.mk hb
  have HF := Aside0.mk hF
  have HSZ := Aside0.mk hsz
  have HBY := Aside0.mk hby
  have hJa' : ∀ pre A B (_ : Unit), J pre A → Below A.heap.size A B → J pre B := fun pre A B _ h hb => hJa pre A _ none h (grown_of_below hb none) (fun r e => by cases e)
  clear hb hF hsz hby
  gi_wp2
  gi_loopw [3] (fun v3 wr => ∃ (a : Int) (kq : Nat) (pre : List FRec), v3 = .int .i64 a ∧ Aside0 (0 ≤ a ∧ a ≤ l0.length) ∧ Aside0 (fitems l0 = pre.map FRec.say ++ fitemsF kq a l0 ∧ (l0.length : Int) - a < kq ∧ pre.length + kq = l0.length + 1) ∧ Aside0 (J pre wr) ∧ Aside0 (KpB lo hi W wr) ∧ Aside0 (Good hi pre wr))
    (fun v3 _ => l0.length - (intOf v3).toNat)
  case atStart => exact ⟨0, l0.length + 1, [], rfl, ⟨by omega, by omega⟩, ⟨by simp [fitems], by omega, by simp⟩, ⟨h0⟩, ⟨KpB.refl _ _ _⟩, ⟨fun x hx => by cases hx⟩⟩
  case round =>
    obtain ⟨a, kq, pre, rfl, HA, HI, HJ, HM, HG⟩ := hrel
    have ha0 := HA.out.1
    have ha1 := HA.out.2
    have bB : Boxed wr g 22 (.slice A l0.length c) := (HM.out.mid g hg.1 hg.2).trans HB.out
    have hcB := bB.cell
    by_cases hlt : a < l0.length
    · have hCw : Kd.C (Kd.int .u8) wr A l0.length l0 := Kd.F_now (Kd.F_step HF.out (W1 := wr) (fun k hk _ => HM.out.mid k hk.1 hk.2))
      obtain ⟨r1, r2, r3, r4, ht⟩ : ∃ r1 r2 r3 r4, takeF l0 a = (r1, r2, r3, r4) := ⟨_, _, _, _, rfl⟩
      have hto : takeO l0 a = some (r1, r2, r3, r4) := by
        unfold takeO
        rw [if_pos ⟨HBY.out, hlen⟩, ht]
      have HTO := Aside0.mk hto
      have HT := Aside0.mk ht
      have HC := Aside0.mk hCw
      clear hto ht hCw
      by_cases h3 : r4 = 0
      · have h3b : (r4 == 0) = true := beq_iff_eq.mpr h3
        have h3c : (r4 != 0) = false := bne_eq_false_iff_eq.mpr h3
        subst h3
        have HNX := Aside0.mk (takeF_next HBY.out HT.out)
        gi_wp2_with fail
        refine ⟨trivial, ?_⟩
        refine (callsIn_wide.2 (take5_calls A c l0 a r1 r2 r3 _ _ HC.out hlc HTO.out)).mono ?_
        rintro e w5 ⟨v5, rfl, hv, hb5⟩
        obtain ⟨A5, c5, rfl, hle5, hF5⟩ := hv
        have hwr : hi ≤ wr.heap.size := Nat.le_trans HSZ.out HM.out.size
        obtain ⟨o5, ho5⟩ : ∃ o, o = Obj.cells #[.int .i64 r1, .slice A5 r2.length c5] 29 := ⟨_, rfl⟩
        have hb6 : Below wr.heap.size wr (w5.alloc o5) := below_alloc hb5 o5
        have hx5 : B5 w5 wr.heap.size (.slice A5 r2.length c5) r2 := ⟨A5, c5, rfl, hle5, hF5⟩
        have HX6 := Aside0.mk ((hx5.below (below_alloc (Below.refl _ _) o5)).step hwr (fun _ _ => rfl))
        have HG6 := Aside0.mk (HG.out.kept (KpB.below (lo := lo) hb6 hwr))
        have HM6 := Aside0.mk (HM.out.trans (KpB.below (lo := lo) hb6 hwr))
        have hJd : J pre (w5.alloc o5) := hJa' pre wr _ () HJ.out hb6
        obtain ⟨fn, tmps, assign, bd, hy, hR⟩ := hY pre ⟨a, r1, r2, A5, c5⟩ (w5.alloc o5) hJd (by have := HI.out.2.2; have := HI.out.2.1; omega)
        dsimp only [encF] at hy
        subst ho5
        have hp1 := HNX.out.2.2.1
        have hp2 := HNX.out.2.1
        have hp3 : 0 ≤ r3 := by omega
        have HP2 := Aside0.mk hp2
        clear hp2 hx5 hF5 hb6 hb5
        gi_wp2
        refine hR.mono ?_
        rintro e W3 (⟨rfl, hJ3, hk3⟩ | ⟨rfl, hJx3, hk3⟩)
        · have HJ3 := Aside0.mk hJ3
          have HK3 := Aside0.mk hk3
          clear hJ3 hk3 hJd hR hy
          gi_wp2
          go_roundw
          case rel =>
            have hii := HI.out
            obtain ⟨kq, rfl⟩ : ∃ m, kq = m + 1 := ⟨kq - 1, by omega⟩
            rw [fitemsF_step kq a _ hlt HT.out] at hii
            have hp2 := HP2.out
            refine ⟨r3, kq, pre ++ [⟨a, r1, r2, A5, c5⟩], rfl, ⟨by omega, by omega⟩, ⟨by rw [hii.1]; simp [FRec.say], by omega, by simp only [List.length_append, List.length_singleton]; omega⟩, ⟨HJ3.out⟩, ⟨HM6.out.trans HK3.out⟩, ⟨fun x hx => ?_⟩⟩
            rcases List.mem_append.1 hx with hx | hx
            · exact HG6.out.kept HK3.out x hx
            · rw [List.mem_singleton.1 hx]
              exact HX6.out.step (Nat.le_refl _) (fun k ho => by obtain ⟨h1, cells, hc⟩ := ho; exact HK3.out.bytes k cells h1 hc)
          case measure => have hp2 := HP2.out; simp [intOf]; omega
        · have hii := HI.out
          obtain ⟨kq, rfl⟩ : ∃ m, kq = m + 1 := ⟨kq - 1, by omega⟩
          rw [fitemsF_step kq a _ hlt HT.out] at hii
          have hpre : (pre ++ [(⟨a, r1, r2, A5, c5⟩ : FRec)]).map FRec.say <+: fitems l0 := ⟨_, by rw [hii.1, List.map_append, List.append_assoc]; rfl⟩
          have HP := Aside0.mk hpre
          have HJX := Aside0.mk hJx3
          have HK3 := Aside0.mk hk3
          clear hii hpre hJx3 hJd hR hy hk3
          gi_wp2
          refine bodyPost_ret (results_none rfl _ _ _) rfl ?_
          refine ⟨⟨_, rfl⟩, .inr ⟨pre ++ [⟨a, r1, r2, A5, c5⟩], ⟨HP.out, fun x hx => ?_⟩, HJX.out⟩⟩
          rcases List.mem_append.1 hx with hx | hx
          · exact HG6.out.kept HK3.out x hx
          · rw [List.mem_singleton.1 hx]
            exact HX6.out.step (Nat.le_refl _) (fun k ho => by obtain ⟨h1, cells, hc⟩ := ho; exact HK3.out.bytes k cells h1 hc)
      · have h3b : (r4 == 0) = false := beq_eq_false_iff_ne.mpr h3
        have h3c : (r4 != 0) = true := bne_iff_ne.mpr h3
        have H3 := Aside0.mk h3
        clear h3
        gi_wp2_with fail
        refine ⟨trivial, ?_⟩
        refine (callsIn_wide.2 (take5_calls A c l0 a r1 r2 r3 _ _ HC.out hlc HTO.out)).mono ?_
        rintro e w5 ⟨v5, rfl, hv, hb5⟩
        obtain ⟨A5, c5, rfl, hle5, hF5⟩ := hv
        have hwr : hi ≤ wr.heap.size := Nat.le_trans HSZ.out HM.out.size
        obtain ⟨o5, ho5⟩ : ∃ o, o = Obj.cells #[.int .i64 r1, .slice A5 r2.length c5] 29 := ⟨_, rfl⟩
        have hb6 : Below wr.heap.size wr (w5.alloc o5) := below_alloc hb5 o5
        have HG6 := Aside0.mk (HG.out.kept (KpB.below (lo := lo) hb6 hwr))
        have hJd : J pre (w5.alloc o5) := hJa' pre wr _ () HJ.out hb6
        have HJD := Aside0.mk hJd
        subst ho5
        clear hJd hF5 hb6 hb5
        gi_wp2
        refine ⟨fun _ h => (by cases h), ?_⟩
        gi_wp2
        refine bodyPost_ret (results_none rfl _ _ _) rfl ?_
        have hii := HI.out.1
        rw [fitemsF_stop kq a _ HT.out H3.out, List.append_nil] at hii
        exact ⟨⟨_, rfl⟩, .inl ⟨_, ⟨hii.symm, HG6.out⟩, HJD.out⟩⟩
    · gi_wp2
      go_end0
      have hii := HI.out.1
      rw [fitemsF_nil kq a _ (by omega), List.append_nil] at hii
      exact ⟨⟨_, rfl⟩, .inl ⟨_, ⟨hii.symm, HG.out⟩, HJ.out⟩⟩

theorem fall_seen (n : Nat) (hn : 1 ≤ n) (g lo hi : Nat) (A : Option Addr) (c : Nat) (l0 : List Int) (w : World) (hg : lo ≤ g ∧ g < hi) (hby : isB l0) (hlen : l0.length ≤ 140737488355328) (hb : Boxed w g 22 (.slice A l0.length c)) (hF : Kd.F (Kd.int .u8) w (fun k => lo ≤ k ∧ k < hi) A l0.length l0) (hlc : l0.length ≤ c) (hhi : hi ≤ w.heap.size) :
    SeqSeen Fence.wide n Try.prog 37 #[.pointer (some ⟨g, 0, none⟩)] encF (KpB lo hi) (fun ys W => ys.map FRec.say = fitems l0 ∧ Good hi ys W) (fun pre W => pre.map FRec.say <+: fitems l0 ∧ Good hi pre W) (l0.length + 1) w := fun l J Jx W hW hJ hY h0 =>
  fall1_in n hn l g lo hi A c l0 hg hby hlen J Jx hY W hJ ((hW.block g (by omega)).trans hb) (Kd.F_step hF (fun k hk _ => hW.block k (by omega))) hlc (Nat.le_trans hhi hW.size) h0
end Go.Proofs.Ytcnapbpljghfoaa.Hand

/- The contract, proved by hand, of told over frame.All: the places and the records that it tells, at most so many. -/
namespace Go.Proofs.Ytcnapbpljghfoaa.Hand
open Go.RowKit Go.Shelf Go.Proofs.YtcnapbpljghfoaaW.PrintWords Go.Proofs.YtcnapbpljghfoaaW.PrintLast Go.Proofs.YtcnapbpljghfoaaW.PrintMore
open Go.Proofs.Ytcnapbpljghfoaa.Plain Go.Proofs.Ytcnapbpljghfoaa.PCrc
attribute [local go_sem] Oper.semAt_some
set_option linter.unusedVariables false
set_option linter.unusedSimpArgs false

theorem finfo_int : (Try.prog.info? 3).map (fun i => (i.zero, i.size, i.bytes)) = some (some (.int .i64 0), 1, 8) := by kernel_rfl
theorem finfo_frame : (Try.prog.info? 29).map (fun i => (i.zero, i.size, i.bytes)) = some (some (.agg #[.int .i64 0, .slice none 0 0]), 2, 32) := by kernel_rfl
theorem feql_nilFunc (cs : Array Value) (W : World) : (binOp .eql 64 (.func (.func 37) #[] cs) .nilFunc).run Try.prog W = .ok (.bool false) W := by kernel_rfl
theorem fsize_set (W : World) (p : Addr) (u : Value) : (W.setCell p u).heap.size = W.heap.size := by simp [World.setCell]
theorem fcells_new (W : World) (vs : List Value) (t : TypeId) : ∀ j u', vs[j]? = some u' → (W.alloc (.cells vs.toArray t)).cell? (Addr.add ⟨W.heap.size, 0, none⟩ j) = some u' := by
  intro j u' h
  rw [add_plain, blk_cell (blk_new W _)]
  simpa using h
theorem fcells_new' (W : World) (p : Addr) (u : Value) (vs : List Value) (t : TypeId) : ∀ j u', vs[j]? = some u' → ((W.setCell p u).alloc (.cells vs.toArray t)).cell? (Addr.add ⟨W.heap.size, 0, none⟩ j) = some u' := by
  have h := fcells_new (W.setCell p u) vs t
  rwa [fsize_set] at h
theorem fgate_dst_in {F : Fence} {n : Nat} {P : Program} {ops : Array Oper} {rest : List Oper} {o : Oper} {a : Act} {W : World} {Q : Exit → Act → World → Prop} {N : Tmp} (_hN : o.dst = some N) (h : wpListIn F n P ops Q (o :: rest) a W) : wpListIn F n P ops Q (o :: rest) a W := h

/-- The cells of records in a row. -/
def fcells (xs : List FRec) : List Value := xs.flatMap fun x => [.int .i64 x.kind, .slice x.A x.body.length x.c]
def fplaces (xs : List FRec) : List Value := nums .i64 (xs.map FRec.pos)
/-- What has been gathered so far lies in the boxes. -/
def FGath (B N : Nat) (most : Int) (pre : List FRec) (W : World) : Prop :=
  Boxed W B 3 (.int .i64 most) ∧ (∃ v, Boxed W (B + 1) 40 v ∧ W.ownsRow N 3 1 v pre.length (fplaces pre)) ∧ (∃ v, Boxed W (B + 2) 41 v ∧ W.ownsRow N 29 2 v pre.length (fcells pre))
theorem FGath.own (B N : Nat) (most : Int) : Own (fun pre W => FGath B N most pre W) := by
  rintro pre X Y row ⟨h1, ⟨va, h2, h3⟩, ⟨vl, h4, h5⟩⟩ hg hr
  have k1 := boxed_own (β := Unit) B 3 (fun _ => .int .i64 most) () X Y row h1 hg hr
  obtain ⟨va', k2, k3, _⟩ := holdsRow_own (β := Unit) N (B + 1) 40 3 1 (fun _ => pre.length) (fun _ => fplaces pre) (fun _ _ => True) () X Y row ⟨va, h2, h3, trivial⟩ hg hr
  obtain ⟨vl', k4, k5, _⟩ := holdsRow_own (β := Unit) N (B + 2) 41 29 2 (fun _ => pre.length) (fun _ => fcells pre) (fun _ _ => True) () X Y row ⟨vl, h4, h5, trivial⟩ hg hr
  exact ⟨k1, ⟨va', k2, k3⟩, ⟨vl', k4, k5⟩⟩

/-- 'xs = append(xs, v)', xs a variable in a box: what is left of the world. -/
theorem fpush {W w1 : World} {N B sz : Nat} {t e : TypeId} {v v' : Value} {k m : Nat} {xs ys : List Value} {tmp : Obj} (hb : Boxed W B t v) (hte : t ≠ e) (hrow : W.ownsRow N e sz v k xs) (hown' : w1.ownsRow N e sz v' m ys) (hgrow : (W.alloc tmp).grownBy w1 v.ownBlock) :
    Boxed w1 B t v ∧ Boxed (w1.setCell ⟨B, 0, none⟩ v') B t v' ∧ (w1.setCell ⟨B, 0, none⟩ v').ownsRow N e sz v' m ys ∧ KeepsOthers W (w1.setCell ⟨B, 0, none⟩ v') ∧ W.heap.size ≤ w1.heap.size ∧
    (∀ i, i < W.heap.size → some i ≠ v.ownBlock → w1.heap[i]? = W.heap[i]?) ∧ (∀ i, i < W.heap.size → i ≠ B → some i ≠ v.ownBlock → (w1.setCell ⟨B, 0, none⟩ v').heap[i]? = W.heap[i]?) ∧
    (∀ e' u k' s' zs, W.ownsRow N e' s' u k' zs → e' ≠ e → t ≠ e' → (w1.setCell ⟨B, 0, none⟩ v').ownsRow N e' s' u k' zs) ∧ (∀ n₀, n₀ ≤ B → n₀ ≤ N → N ≤ W.heap.size → Below n₀ W (w1.setCell ⟨B, 0, none⟩ v')) := by
  obtain ⟨h1, h2, h3, h4, h5⟩ := hb.appended (n₀ := 0) hte (own_weaken hrow (Nat.zero_le _)) (Nat.zero_le _) (Nat.zero_le _) (own_weaken hown' (Nat.zero_le _)) hgrow
  have h6 : (w1.setCell ⟨B, 0, none⟩ v').ownsRow N e sz v' m ys := hown'.kept (grownBy_setCell' w1 B v') (.inr (h1.not_row hte hown').symm)
  have hsz : W.heap.size ≤ w1.heap.size := Nat.le_trans (by simp) hgrow.size
  have hbl : ∀ i, i < W.heap.size → some i ≠ v.ownBlock → w1.heap[i]? = W.heap[i]? := fun i hi hno => (hgrow.block i (by simp; omega) hno).trans (Below.heap_alloc W tmp i hi)
  refine ⟨h1, h2, h6, h4, hsz, hbl, fun i hi hne hno => (Below.heap_setCell w1 ⟨B, 0, none⟩ v' i hne).trans (hbl i hi hno), fun e' u k' s' zs hz hee htt => ?_, fun n₀ hnB hnN hnW => ⟨h5.os, h5.tape, h5.output, by have := (KeepsWalks.setCell w1 ⟨B, 0, none⟩ v').size; omega, fun i hi => (Below.heap_setCell w1 ⟨B, 0, none⟩ v' i (by show i ≠ B; omega)).trans (hbl i (by omega) (fun he => by have := own_base hrow i he.symm; omega))⟩⟩
  have hz1 : (W.alloc tmp).ownsRow N e' s' u k' zs := hz.alloc _
  have hz2 : w1.ownsRow N e' s' u k' zs := own_other hz1 hgrow (own_type_ne hz1 (hrow.alloc _) hee)
  exact hz2.kept (grownBy_setCell' w1 B v') (.inr (h1.not_row htt hz2).symm)
/-- A block of another type is not the row's. -/
theorem blk_no_row {W : World} {b N sz k : Nat} {t e : TypeId} {cs : Array Value} {v : Value} {xs : List Value} (h : W.heap[b]? = some (.cells cs t (0, 0))) (hte : t ≠ e) (hr : W.ownsRow N e sz v k xs) : some b ≠ v.ownBlock := by
  intro he
  obtain ⟨cs', hc⟩ := own_typed hr b he.symm
  rw [h] at hc
  injection hc with hc
  injection hc with _ hc
  exact hte hc

/-- told: the records, at most so many. -/
def ftold (l : List Int) (most : Int) : List (Int × Int × List Int) := (fitems l).take most.toNat
theorem rsnoc {α : Type} {motive : List α → Prop} (l : List α) (nil : motive []) (snoc : ∀ ys y, motive ys → motive (ys ++ [y])) : motive l := by
  have : ∀ n (l : List α), l.length = n → motive l := by
    intro n
    induction n with
    | zero => intro l h; rw [List.eq_nil_of_length_eq_zero h]; exact nil
    | succ n ih =>
      intro l h
      rcases List.eq_nil_or_concat l with rfl | ⟨L, b, rfl⟩
      · exact nil
      · rw [List.concat_eq_append] at h ⊢
        exact snoc L b (ih L (by simpa using h))
  exact this _ l rfl
abbrev kdFrame := Kd.pair (Kd.int .i64) (Kd.slice 5 (Kd.int .u8))
theorem frow_reads {W : World} {N hi : Nat} {vl : Value} {xs : List FRec} (h : W.ownsRow N 29 2 vl xs.length (fcells xs)) (hg : Good hi xs W) : ∃ A c, vl = .slice A xs.length c ∧ xs.length ≤ c ∧ Kd.C kdFrame W A (xs.map fun x => (x.kind, x.body)).length (xs.map fun x => (x.kind, x.body)) ∧ (0 < xs.length → ∃ g, A = some ⟨g, 0, none⟩) := by
  have hrep : ∀ ys : List FRec, Good hi ys W → Reps (kdFrame.K W) 2 (ys.map fun x => (x.kind, x.body)) (fcells ys) := by
    intro ys
    refine rsnoc (motive := fun ys => Good hi ys W → Reps (kdFrame.K W) 2 (ys.map fun x => (x.kind, x.body)) (fcells ys)) ys ?_ ?_
    · intro _; exact Reps.none _ _
    · intro ys y ih hgy
      have hy := hgy y (by simp)
      obtain ⟨A, c, e, hl, hF⟩ := hy
      injection e with e1 e2 e3
      subst e1 e3
      rw [List.map_append, fcells, List.flatMap_append]
      refine Reps.snoc (ih (fun x hx => hgy x (List.mem_append_left _ hx))) ?_ ?_
      · exact ⟨[.int .i64 y.kind], [.slice y.A y.body.length y.c], by simp, rfl, y.A, y.c, rfl, hl, Kd.F_now hF⟩
      · simp
  have ho : OwnRow (kdFrame.K W) 29 2 W N vl (xs.map fun x => (x.kind, x.body)) := ⟨fcells xs, by rw [List.length_map]; exact h, hrep xs hg⟩
  obtain ⟨A, c, e, hl, hr⟩ := OwnRow.reads ho
  rw [List.length_map] at e hl
  refine ⟨A, c, e, hl, hr, fun hp => ?_⟩
  obtain ⟨m, hm⟩ : ∃ m, xs.length = m + 1 := ⟨xs.length - 1, by omega⟩
  rw [hm] at h
  obtain ⟨g, cap, hv⟩ := ownsRow_succ h
  rw [hv] at e
  injection e with e1
  exact ⟨g, e1.symm⟩
theorem Good.put {hi D : Nat} {xs : List FRec} {W : World} {o o' : Obj} (h : Good hi xs W) (hl : W.heap[D]? = some o) (hc : o.isCells = false) : Good hi xs (W.putObj D o') := fun x hx =>
  (h x hx).step (Nat.le_refl _) (fun k hk => by obtain ⟨_, cells, hk⟩ := hk; exact (grownBy_putObj' W D o').block k (blk_lt hk) (fun e => by cases e; rw [hk] at hl; cases hl; cases hc))
/-- What was gathered, handed back: at the function's return, behind the block for the rounds' deferred calls. -/
theorem fgath_ends {w W : World} {N D hi : Nat} {va vl : Value} {ys : List FRec} {T : List (Int × Int × List Int)} (hT : ys.map FRec.say = T) (hN : w.heap.size ≤ N) (hra : W.ownsRow N 3 1 va ys.length (fplaces ys)) (hrl : W.ownsRow N 29 2 vl ys.length (fcells ys)) (hg : Good hi ys W) (hB : Below w.heap.size w W) (hK : W.heap[D]? = some (.deferred (some []))) (hD : w.heap.size ≤ D) :
    ∃ (A1 : Option Addr) (c1 : Nat), vl = .slice A1 T.length c1 ∧ Kd.R (Kd.int .i64) 3 (W.drew.putObj D (.deferred none)) w.heap.size (fun _ => True) va (T.map (·.1)) ∧ T.length ≤ c1 ∧ Kd.C kdFrame (W.drew.putObj D (.deferred none)) A1 (T.map (·.2)).length (T.map (·.2)) ∧ (0 < T.length → ∃ g, A1 = some ⟨g, 0, none⟩) ∧ Below w.heap.size w (W.drew.putObj D (.deferred none)) := by
  have hK' : W.drew.heap[D]? = some (.deferred (some [])) := hK
  have hrl2 := ownsRow_putObj (show W.drew.ownsRow N 29 2 vl ys.length _ from hrl) (.deferred none) hK' rfl
  have hg1 : Good hi ys W.drew := fun x hx => (hg x hx).step (Nat.le_refl _) (fun _ _ => rfl)
  obtain ⟨A, c, e, hle, hC, hg0⟩ := frow_reads hrl2 (hg1.put hK' rfl)
  subst hT
  refine ⟨A, c, by rw [List.length_map]; exact e, ?_, by rw [List.length_map]; exact hle, ?_, by rw [List.length_map]; exact hg0, ?_⟩
  · have h := ownsRow_putObj (show W.drew.ownsRow N 3 1 va ys.length _ from hra) (.deferred none) hK' rfl
    have h2 := own_weaken h hN
    rw [List.map_map]
    exact Kd.R_of_own (by simpa [fplaces, nums, encs, FRec.say, Function.comp_def] using h2) (fun _ _ => trivial)
  · rw [List.map_map]
    exact hC
  · exact (below_drew hB).trans (belowK_b (w := w) (Nat.le_refl _) W.drew D _ _ hD hK' rfl rfl)

set_option maxRecDepth 100000 in
set_option maxHeartbeats 4000000 in
theorem ftold2_calls (A0 : Option Addr) (c0 : Nat) (l0 : List Int) (a1 : Int) (w : World) (hr0 : Kd.C (Kd.int .u8) w A0 l0.length l0) (hc0 : l0.length ≤ c0) (hby : isB l0) (hl : l0.length ≤ 1000000) :
    Calls Try.prog 17 #[.slice A0 l0.length c0, .int .i64 a1] w fun e w' => ∃ (v0_ : Value) (A1 : Option Addr) (c1 : Nat), e = .returned (.tuple #[v0_, .slice A1 (ftold l0 a1).length c1]) ∧ Kd.R (Kd.int .i64) 3 w' w.heap.size (fun _ => True) v0_ ((ftold l0 a1).map (·.1)) ∧ (ftold l0 a1).length ≤ c1 ∧ Kd.C kdFrame w' A1 ((ftold l0 a1).map (·.2)).length ((ftold l0 a1).map (·.2)) ∧ (0 < (ftold l0 a1).length → ∃ g, A1 = some ⟨g, 0, none⟩) ∧ Below w.heap.size w w' := by
  refine (callsIn_wide (n := 4)).1 ?_
  refine callsIn_of_wp_marks Try.func17 rfl trivial ?_ rfl
  simp only [Try.ntmps17, List.size_toArray, List.length_cons, List.length_nil, Nat.reduceAdd, Nat.reduceSub, Array.replicate_succ, Array.replicate_zero, List.push_toArray, List.append_toArray, List.nil_append, List.cons_append]
  have HR0 := Aside0.mk hr0
  have HL := Aside0.mk hl
  have HBY := Aside0.mk hby
  clear hr0 hl hby
  have bM := Boxed.new w 3 (.int .i64 a1)
  have bA := Boxed.new (w.alloc (.cells #[.int .i64 a1] 3)) 40 (.slice none 0 0)
  have bL := Boxed.new ((w.alloc (.cells #[.int .i64 a1] 3)).alloc (.cells #[.slice none 0 0] 40)) 41 (.slice none 0 0)
  rw [World.size_alloc] at bA
  rw [World.size_alloc, World.size_alloc] at bL
  have bM' := (bM.alloc (.cells #[.slice none 0 0] 40)).alloc (.cells #[.slice none 0 0] 41)
  have bA' := bA.alloc (.cells #[.slice none 0 0] 41)
  have HBM := Aside0.mk bM'
  have HBA := Aside0.mk bA'
  have HBL := Aside0.mk bL
  clear bM bA bL bM' bA'
  have hbw : Below w.heap.size w (((w.alloc (.cells #[.int .i64 a1] 3)).alloc (.cells #[.slice none 0 0] 40)).alloc (.cells #[.slice none 0 0] 41)) := (((Below.refl _ w).alloc (Nat.le_refl _) _).alloc (by simp) _).alloc (by simp; omega) _
  have HBW := Aside0.mk hbw
  clear hbw
  gi_wp2_with fail
  refine ⟨trivial, ?_⟩
  refine (callsIn_wide.2 (fall_calls A0 c0 l0 _ (Kd.C_alloc (Kd.C_alloc (Kd.C_alloc HR0.out _) _) _) (by have := HL.out; omega))).mono ?_
  rintro e wL ⟨g, v, rfl, hbx, hR, hlo, hB⟩
  obtain ⟨A1, c1, rfl⟩ := Kd.R_slice hR
  have hlt : g < wL.heap.size := hbx.lt
  have hF : Kd.F (Kd.int .u8) wL (fun k => w.heap.size + 3 ≤ k ∧ k < wL.heap.size) A1 l0.length l0 := Kd.R_F (Kd.R_mono (Kd.R_bound hR) (fun k hk => ⟨by have := hk.2.1; simp at this; omega, hk.2.2.1⟩))
  have hlc : l0.length ≤ c1 := (Kd.R_reads' hR).2.1
  have hlo' : w.heap.size + 3 ≤ g := by simp at hlo; omega
  have hsz : w.heap.size + 3 ≤ wL.heap.size := by omega
  have bM := HBM.out.kept (grown_of_below hB none) (by simp)
  have bA := HBA.out.kept (grown_of_below hB none) (by simp)
  have bL := HBL.out.kept (grown_of_below hB none) (by simp)
  have hBL : Below w.heap.size w wL := below_then HBW.out (by simp; omega) hB
  have HX := Aside0.mk hbx
  have HF := Aside0.mk hF
  have HM := Aside0.mk bM
  have HA := Aside0.mk bA
  have HLL := Aside0.mk bL
  have HBB := Aside0.mk hBL
  clear hbx hR hB hF bM bA bL hBL HBM HBA HBL HBW hlo
  have hnf := feql_nilFunc #[.pointer (some ⟨g, 0, none⟩)]
  gi_wp2
  refine rangeFunc_seen (n := 4) rfl (by omega) (gf := 37) (lb := #[.pointer (some ⟨g, 0, none⟩)]) rfl trivial (enters_of Try.func37 (by kernel_rfl) rfl)
    (fall_seen 3 (by omega) g (w.heap.size + 3) wL.heap.size A1 c1 l0 wL ⟨hlo', hlt⟩ HBY.out (by have := HL.out; omega) HX.out HF.out hlc (Nat.le_refl _)) (fun h k => h.trans k) ?hKb (Below.refl _ _) (fun _ => rfl)
    (fun pre W => (FGath w.heap.size wL.heap.size a1 pre W ∧ pre.length ≤ a1.toNat) ∧ Below w.heap.size w W ∧ wL.heap.size ≤ W.heap.size)
    (fun c pre W => (c = 0 ∧ ∃ ini x, pre = ini ++ [x] ∧ FGath w.heap.size wL.heap.size a1 ini W ∧ ini.length = a1.toNat) ∧ Below w.heap.size w W)
    ?hI ?hIx ?hS ?hSp ?h0
    (fun x a' W => ∃ b, wL.heap.size ≤ b ∧ W.heap[b]? = some (.cells #[.int .i64 x.kind, .slice x.A x.body.length x.c] 29 (0, 0)) ∧ a' = { tmps := #[.slice A0 l0.length c0, .int .i64 a1, undef, .pointer (some ⟨w.heap.size, 0, none⟩), .slice none 0 0, .slice none 0 0, .pointer (some ⟨w.heap.size + 1, 0, none⟩), .pointer (some ⟨w.heap.size + 1 + 1, 0, none⟩), .func (.func 37) #[] #[.pointer (some ⟨g, 0, none⟩)], .int .i64 x.pos, .pointer (some ⟨b, 0, none⟩), .slice A0 l0.length c0, .func (.func 37) #[] #[.pointer (some ⟨g, 0, none⟩)], .func (.func 37) #[] #[.pointer (some ⟨g, 0, none⟩)], .bool false, .func (.func 37) #[] #[.pointer (some ⟨g, 0, none⟩)], .int .i64 x.pos, .agg #[.int .i64 x.kind, .slice x.A x.body.length x.c], undef, undef, undef, undef, undef, undef, undef, undef, undef, undef, undef, undef, undef, undef], defers := [] })
    ?hAx ?assign ?body ?done ?stop
  case hKb =>
    intro W l o o' hle hl hc
    have hne : ∀ k cells, W.heap[k]? = some (.cells cells 5 (0, 0)) → k ≠ l := by
      rintro k cells hk rfl
      rw [hk] at hl
      cases hl
      cases hc
    exact ⟨by simp, fun k hk1 hk2 => (grownBy_putObj' W l o').block k (by have := (Array.getElem?_eq_some_iff.1 hl).1; omega) (fun e => by cases e; omega), fun k cells hk1 hk => (grownBy_putObj' W l o').block k (blk_lt hk) (fun e => by cases e; exact hne _ _ hk rfl)⟩
  case hI =>
    refine OwnFrom.and (OwnFrom.and (Own.from (FGath.own _ _ _) _) (ownFrom_pure _ _)) (OwnFrom.and (ownFrom_below (Nat.le_refl _) (by omega)) ?_)
    intro s X Y row hs hg hr
    exact Nat.le_trans hs hg.size
  case hIx =>
    intro c
    refine OwnFrom.and ?_ (ownFrom_below (Nat.le_refl _) (by omega))
    rintro s X Y row ⟨hc, ini, x, e1, hgt, e2⟩ hg hr
    exact ⟨hc, ini, x, e1, FGath.own _ _ _ ini X Y row hgt hg (fun r e => (hr r e).2), e2⟩
  case hS =>
    rintro xs W l o o' ⟨h1, h2⟩ hle hl hc
    exact ⟨h1, fun x hx => (h2 x hx).step (Nat.le_refl _) (fun k hk => by obtain ⟨_, cells, hk⟩ := hk; exact (grownBy_putObj' W l o').block k (blk_lt hk) (fun e => by cases e; rw [hk] at hl; cases hl; cases hc))⟩
  case hSp =>
    rintro xs W l o o' ⟨h1, h2⟩ hle hl hc
    exact ⟨h1, fun x hx => (h2 x hx).step (Nat.le_refl _) (fun k hk => by obtain ⟨_, cells, hk⟩ := hk; exact (grownBy_putObj' W l o').block k (blk_lt hk) (fun e => by cases e; rw [hk] at hl; cases hl; cases hc))⟩
  case h0 =>
    exact ⟨⟨⟨HM.out, ⟨_, HA.out, World.ownsRow_nil _ _ _ _⟩, ⟨_, HLL.out, World.ownsRow_nil _ _ _ _⟩⟩, Nat.zero_le _⟩, HBB.out, Nat.le_refl _⟩
  case hAx =>
    rintro x a' _ X Y row ⟨b, h1, h2, h3⟩ hg hr
    exact ⟨b, h1, (hg.block b (blk_lt h2) (fun e => by obtain ⟨_, o, ho, hc⟩ := hr b e.symm; rw [h2] at ho; cases ho; cases hc)).trans h2, h3⟩
  case assign =>
    rintro l pre x W K ⟨⟨hG, hlen⟩, hB, hsW⟩ hK
    gi_wp2
    refine hK _ _ ?_ ?_ ?_ ⟨W.heap.size, hsW, blk_new W _, rfl⟩
    · exact ⟨by simp, fun k o _ hk ho => (Below.heap_alloc W _ k (Array.getElem?_eq_some_iff.1 hk).1).trans hk⟩
    · exact KpB.below (below_alloc (Below.refl _ _) _) hsW
    · exact ⟨⟨FGath.own _ _ _ pre W _ none hG (World.grownBy_alloc W _ none) (fun r e => by cases e), hlen⟩, below_then hB hB.size (below_alloc (Below.refl _ _) _), Nat.le_trans hsW (by simp)⟩
  case body =>
    rintro l pre x a' W ⟨⟨⟨hM, ⟨va, hva, hra⟩, ⟨vl, hvl, hrl⟩⟩, hlen⟩, hB, hsW⟩ ⟨b, hbN, hbk, rfl⟩ hN
    have hl6 := HL.out
    obtain ⟨Aa, ca, rfl⟩ := own_slice hra
    obtain ⟨Al, cl, rfl⟩ := own_slice hrl
    have hcM := hM.cell
    have hcA := hva.cell
    have hcL := hvl.cell
    by_cases hb : a1 ≤ (pre.length : Int)
    · have hbb : decide (a1 ≤ (pre.length : Int)) = true := decide_eq_true hb
      gi_wp2
      exact ⟨KeepsFrom.refl _ _, KpB.refl _ _ _, ⟨rfl, pre, x, rfl, ⟨hM, ⟨_, hva, hra⟩, ⟨_, hvl, hrl⟩⟩, by omega⟩, hB⟩
    · have hbb : decide (a1 ≤ (pre.length : Int)) = false := decide_eq_false hb
      have hp1 : pre.length + 1 ≤ 2000000 := by omega
      have HP1 := Aside0.mk hp1
      have HNB := Aside0.mk hb
      clear hb hp1 hN hlen
      obtain ⟨i3, hi3, hz30, hz31, hz32⟩ := info_parts finfo_int
      obtain ⟨i6, hi6, hz60, hz61, hz62⟩ := info_parts finfo_frame
      have hnb2 : some (w.heap.size + 2) ≠ (Value.slice Aa pre.length ca).ownBlock := fun he => by have := own_base hra _ he.symm; omega
      have hnb0 : some w.heap.size ≠ (Value.slice Aa pre.length ca).ownBlock := fun he => by have := own_base hra _ he.symm; omega
      have hbB : b ≠ w.heap.size + 1 := by omega
      have hbW : b < W.heap.size := blk_lt hbk
      gi_wp2_with (first | ((with_reducible refine fgate_dst_in (N := 25) rfl ?_); gi_at_builtin; refine wpListIn_append_own _ rfl _ _ 40 rfl wL.heap.size 3 i3 (.int .i64 0) 1 8 Try.underlying40 hi3 hz30 hz31 hz32 rfl (by decide) _ _ _ rfl (hra.alloc _) ⟨W.heap.size, 0, none⟩ 1 1 [.int .i64 x.pos] rfl rfl (fcells_new W [.int .i64 x.pos] _) (by simp [Value.oneCell']) (by have := HP1.out; unfold maxLen; omega) (by have := HP1.out; omega) (by simp; omega) ?_; intro v' w1 hown' hgrow _; obtain ⟨g', cap', rfl⟩ := ownsRow_succ hown'; obtain ⟨p1, p2, p3, p4, p5, p6, p7, p8, p9⟩ := fpush hva (by decide) hra hown' hgrow; have hcA1 := p1.cell; have hfA1 := p1.frozen; have hvl2 : Boxed _ (w.heap.size + 2) _ _ := (p7 (w.heap.size + 2) (by omega) (by omega) hnb2).trans hvl; have hcL2 := hvl2.cell; have hrl2 := p8 _ _ _ _ _ hrl (by decide) (by decide); have hM2 : Boxed _ w.heap.size _ _ := (p7 w.heap.size (by omega) (by omega) hnb0).trans hM; have hbk2 := (p7 b hbW hbB (blk_no_row hbk (by decide) hra)).trans hbk; have hx0 := blk_cell hbk2 0; have hx1 := blk_cell hbk2 1; have hsW2 : wL.heap.size ≤ w1.heap.size := Nat.le_trans hsW p5) | ((with_reducible refine fgate_dst_in (N := 29) rfl ?_); gi_at_builtin; refine wpListIn_append_own _ rfl _ _ 41 rfl wL.heap.size 29 i6 (.agg #[.int .i64 0, .slice none 0 0]) 2 32 Try.underlying41 hi6 hz60 hz61 hz62 rfl (by decide) _ _ _ rfl (hrl2.alloc _) ⟨w1.heap.size, 0, none⟩ 1 1 [.int .i64 x.kind, .slice x.A x.body.length x.c] rfl rfl (fcells_new' w1 _ _ [.int .i64 x.kind, .slice x.A x.body.length x.c] _) (by simp [Value.oneCell']) (by have := HP1.out; unfold maxLen; omega) (by have := HP1.out; omega) (by simp; omega) ?_; intro v'' w2 hown'' hgrow2 _; obtain ⟨g'', cap'', rfl⟩ := ownsRow_succ hown''; obtain ⟨q1, q2, q3, q4, q5, q6, q7, q8, q9⟩ := fpush hvl2 (by decide) hrl2 hown'' hgrow2; have hcL3 := q1.cell; have hfL3 := q1.frozen))
      have hln : (pre ++ [x]).length = pre.length + 1 := by simp
      have hs2 : wL.heap.size ≤ (w1.setCell ⟨w.heap.size + 1, 0, none⟩ (.slice (some ⟨g', 0, none⟩) (pre.length + 1) cap')).heap.size := by rw [fsize_set]; exact hsW2
      have hle1 : W.heap.size ≤ (w1.setCell ⟨w.heap.size + 1, 0, none⟩ (.slice (some ⟨g', 0, none⟩) (pre.length + 1) cap')).heap.size := by rw [fsize_set]; exact p5
      have hne2 : ∀ k, k < wL.heap.size → some k ≠ (Value.slice Al pre.length cl).ownBlock := fun k hk he => by have := own_base hrl2 k he.symm; omega
      have hne1 : ∀ k, k < wL.heap.size → some k ≠ (Value.slice Aa pre.length ca).ownBlock := fun k hk he => by have := own_base hra k he.symm; omega
      refine ⟨(p4.trans q4).from _, ⟨?_, ?_, ?_⟩, ⟨⟨?_, ⟨.slice (some ⟨g', 0, none⟩) (pre.length + 1) cap', ?_, ?_⟩, ⟨_, q2, ?_⟩⟩, ?_⟩, ?_, ?_⟩
      · exact Nat.le_trans hle1 (Nat.le_trans q5 (Nat.le_of_eq (fsize_set _ _ _).symm))
      · intro k hk1 hk2
        exact (q7 k (by omega) (by omega) (hne2 k hk2)).trans (p7 k (by omega) (by omega) (hne1 k hk2))
      · intro k cells hk1 hk
        have hkW := blk_lt hk
        have h1 := p7 k hkW (by omega) (blk_no_row hk (by decide) hra)
        have hk' := h1.trans hk
        exact (q7 k (by omega) (by omega) (blk_no_row hk' (by decide) hrl2)).trans h1
      · exact (q7 w.heap.size (by omega) (by omega) (hne2 _ (by omega))).trans hM2
      · exact (q7 (w.heap.size + 1) (by omega) (by omega) (hne2 _ (by omega))).trans p2
      · rw [hln]
        have h := q8 _ _ _ _ _ p3 (by decide) (by decide)
        simpa [fplaces, nums] using h
      · rw [hln]
        simpa [fcells] using q3
      · rw [hln]; have := HNB.out; omega
      · exact (hB.trans (p9 _ (by omega) (by omega) hsW)).trans (q9 _ (by omega) (by omega) hs2)
      · exact Nat.le_trans hs2 (Nat.le_trans q5 (Nat.le_of_eq (fsize_set _ _ _).symm))
  case done =>
    rintro D ys W hD ⟨hys, hgood⟩ ⟨⟨⟨hM, ⟨va, hva, hra⟩, ⟨vl, hvl, hrl⟩⟩, hlen⟩, hB, hsW⟩ hK
    have hcA := hva.cell
    have hcL := hvl.cell
    have hT : ys.map FRec.say = ftold l0 a1 := by
      unfold ftold
      rw [← hys, List.take_of_length_le (by rw [List.length_map]; exact hlen)]
    obtain ⟨A2, c2, hv, h1, h2, h3, h5, h4⟩ := fgath_ends hT (by omega) hra hrl hgood hB hK (by omega)
    subst hv
    have H1 := Aside0.mk h1
    have H2 := Aside0.mk h2
    have H3 := Aside0.mk h3
    have H4 := Aside0.mk h4
    have H5 := Aside0.mk h5
    clear h1 h2 h3 h4 h5 hT hys
    gi_wp2
    gi_region
    all_goals
      try gi_wp2
      refine ⟨by simp, .inl ⟨_, _, rfl, run_takeDeferred (w := W.drew) hK, ?_⟩⟩
      exact ⟨_, results_tmp2 rfl _ _ _, va, A2, c2, rfl, H1.out, H2.out, H3.out, H5.out, H4.out⟩
  case stop =>
    rintro D c pre W hD ⟨hpre, hgood⟩ ⟨⟨rfl, ini, x, rfl, ⟨hM, ⟨va, hva, hra⟩, ⟨vl, hvl, hrl⟩⟩, hlen⟩, hB⟩ hK
    have hcA := hva.cell
    have hcL := hvl.cell
    obtain ⟨rest, hrest⟩ := hpre
    have hT : ini.map FRec.say = ftold l0 a1 := by
      unfold ftold
      rw [← hrest, List.map_append, List.append_assoc, ← hlen, List.take_left' (by rw [List.length_map])]
    obtain ⟨A2, c2, hv, h1, h2, h3, h5, h4⟩ := fgath_ends hT (by omega) hra hrl (fun y hy => hgood y (List.mem_append_left _ hy)) hB hK (by omega)
    subst hv
    have H1 := Aside0.mk h1
    have H2 := Aside0.mk h2
    have H3 := Aside0.mk h3
    have H4 := Aside0.mk h4
    have H5 := Aside0.mk h5
    clear h1 h2 h3 h4 h5 hT hrest hlen
    gi_wp2
    gi_region
    all_goals
      try gi_wp2
      refine ⟨by simp, .inl ⟨_, _, rfl, run_takeDeferred (w := W.drew) hK, ?_⟩⟩
      exact ⟨_, results_tmp2 rfl _ _ _, va, A2, c2, rfl, H1.out, H2.out, H3.out, H5.out, H4.out⟩
theorem ftold_calls (A0 : Option Addr) (c0 : Nat) (l0 : List Int) (a1 : Int) (w : World) (hr0 : Kd.C (Kd.int .u8) w A0 l0.length l0) (hc0 : l0.length ≤ c0) (hby : isB l0) (hl : l0.length ≤ 1000000) :
    Calls Try.prog 17 #[.slice A0 l0.length c0, .int .i64 a1] w fun e w' => ∃ (v0_ : Value) (A1 : Option Addr) (c1 : Nat), e = .returned (.tuple #[v0_, .slice A1 (ftold l0 a1).length c1]) ∧ Kd.R (Kd.int .i64) 3 w' w.heap.size (fun _ => True) v0_ ((ftold l0 a1).map (·.1)) ∧ (ftold l0 a1).length ≤ c1 ∧ Kd.C kdFrame w' A1 ((ftold l0 a1).map (·.2)).length ((ftold l0 a1).map (·.2)) ∧ Below w.heap.size w w' :=
  (ftold2_calls A0 c0 l0 a1 w hr0 hc0 hby hl).mono fun e w' ⟨v, A, c, h1, h2, h3, h4, _, h5⟩ => ⟨v, A, c, h1, h2, h3, h4, h5⟩
end Go.Proofs.Ytcnapbpljghfoaa.Hand

/- The contract, proved by hand, of frame.End: the place behind the last record, and what is wrong there. -/
namespace Go.Proofs.Ytcnapbpljghfoaa.Hand
open Go.RowKit Go.Shelf Go.Proofs.YtcnapbpljghfoaaW.PrintWords Go.Proofs.YtcnapbpljghfoaaW.PrintLast Go.Proofs.YtcnapbpljghfoaaW.PrintMore
open Go.Proofs.Ytcnapbpljghfoaa.Plain Go.Proofs.Ytcnapbpljghfoaa.PCrc
attribute [local go_sem] Oper.semAt_some
set_option linter.unusedVariables false
set_option linter.unusedSimpArgs false

/-- Where a record ends, as the code reckons it. -/
def endW (p : Int) (n : Int) : Int := wrap64 (p + wrap64 (12 + mx n 0))
def endP (xs : List FRec) : Int := (xs.getLast?).elim 0 fun x => endW x.pos x.body.length
def endT (xs : List (Int × Int × List Int)) : Int := (xs.getLast?).elim 0 fun x => endW x.1 x.2.2.length
theorem endP_say (xs : List FRec) : endP xs = endT (xs.map FRec.say) := by
  unfold endP endT
  rw [List.getLast?_map]
  cases xs.getLast? <;> rfl
theorem endP_snoc (xs : List FRec) (x : FRec) : endP (xs ++ [x]) = endW x.pos x.body.length := by
  unfold endP
  simp
/-- What frame.End tells. -/
def fend (l : List Int) : Int × Int := if endT (fitems l) = l.length then (endT (fitems l), 0) else (endT (fitems l), (takeF l (endT (fitems l))).2.2.2)

set_option maxRecDepth 100000 in
set_option maxHeartbeats 4000000 in
theorem fend_calls (A0 : Option Addr) (c0 : Nat) (l0 : List Int) (w : World) (hr0 : Kd.C (Kd.int .u8) w A0 l0.length l0) (hc0 : l0.length ≤ c0) (hby : isB l0) (hl : l0.length ≤ 1000000) :
    Calls Try.prog 18 #[.slice A0 l0.length c0] w fun e w' => e = .returned (.tuple #[.int .i64 (fend l0).1, .int .i64 (fend l0).2]) ∧ Below w.heap.size w w' := by
  obtain ⟨fe, fr, hfe⟩ : ∃ fe fr, fend l0 = (fe, fr) := ⟨_, _, rfl⟩
  rw [hfe]
  have HFE := Aside0.mk hfe
  clear hfe
  dsimp only
  refine (callsIn_wide (n := 4)).1 ?_
  refine callsIn_of_wp_marks Try.func18 rfl trivial ?_ rfl
  simp only [Try.ntmps18, List.size_toArray, List.length_cons, List.length_nil, Nat.reduceAdd, Nat.reduceSub, Array.replicate_succ, Array.replicate_zero, List.push_toArray, List.append_toArray, List.nil_append, List.cons_append]
  have HR0 := Aside0.mk hr0
  have HL := Aside0.mk hl
  have HBY := Aside0.mk hby
  clear hr0 hl hby
  have bE := Boxed.new w 3 (.int .i64 0)
  have HBE := Aside0.mk bE
  have HBW := Aside0.mk (show Below w.heap.size w (w.alloc (.cells #[.int .i64 0] 3)) from (Below.refl _ w).alloc (Nat.le_refl _) _)
  clear bE
  gi_wp2_with fail
  refine ⟨trivial, ?_⟩
  refine (callsIn_wide.2 (fall_calls A0 c0 l0 _ (Kd.C_alloc HR0.out _) (by have := HL.out; omega))).mono ?_
  rintro e wL ⟨g, v, rfl, hbx, hR, hlo, hB⟩
  obtain ⟨A1, c1, rfl⟩ := Kd.R_slice hR
  have hlt : g < wL.heap.size := hbx.lt
  have hF : Kd.F (Kd.int .u8) wL (fun k => w.heap.size + 1 ≤ k ∧ k < wL.heap.size) A1 l0.length l0 := Kd.R_F (Kd.R_mono (Kd.R_bound hR) (fun k hk => ⟨by have := hk.2.1; simp at this; omega, hk.2.2.1⟩))
  have hlc : l0.length ≤ c1 := (Kd.R_reads' hR).2.1
  have hlo' : w.heap.size + 1 ≤ g := by simp at hlo; omega
  have hsz : w.heap.size + 1 ≤ wL.heap.size := by omega
  have bE := HBE.out.kept (grown_of_below hB none) (by simp)
  have hBL : Below w.heap.size w wL := below_then HBW.out (by simp) hB
  have HX := Aside0.mk hbx
  have HF := Aside0.mk hF
  have HE := Aside0.mk bE
  have HBB := Aside0.mk hBL
  clear hbx hR hB hF bE hBL HBE HBW hlo
  gi_wp2
  refine rangeFunc_seen (n := 4) rfl (by omega) (gf := 37) (lb := #[.pointer (some ⟨g, 0, none⟩)]) rfl trivial (enters_of Try.func37 (by kernel_rfl) rfl)
    (fall_seen 3 (by omega) g (w.heap.size + 1) wL.heap.size A1 c1 l0 wL ⟨hlo', hlt⟩ HBY.out (by have := HL.out; omega) HX.out HF.out hlc (Nat.le_refl _)) (fun h k => h.trans k) ?hKb (Below.refl _ _) (fun _ => rfl)
    (fun pre W => Boxed W w.heap.size 3 (.int .i64 (endP pre)) ∧ Below w.heap.size w W ∧ wL.heap.size ≤ W.heap.size)
    (fun c pre W => False)
    ?hI ?hIx ?hS ?hSp ?h0
    (fun x a' W => ∃ b, wL.heap.size ≤ b ∧ W.heap[b]? = some (.cells #[.int .i64 x.kind, .slice x.A x.body.length x.c] 29 (0, 0)) ∧ a' = { tmps := #[.slice A0 l0.length c0, undef, .int .i64 0, .int .i64 0, .pointer (some ⟨w.heap.size, 0, none⟩), .int .i64 x.pos, .pointer (some ⟨b, 0, none⟩), undef, undef, undef, .slice A0 l0.length c0, .func (.func 37) #[] #[.pointer (some ⟨g, 0, none⟩)], .int .i64 x.pos, .agg #[.int .i64 x.kind, .slice x.A x.body.length x.c], undef, undef, undef, undef, undef, undef, undef, undef, undef, undef, undef, undef, undef, undef, undef, undef, undef, undef, undef, undef], defers := [] })
    ?hAx ?assign ?body ?done ?stop
  case hKb =>
    intro W l o o' hle hl hc
    have hne : ∀ k cells, W.heap[k]? = some (.cells cells 5 (0, 0)) → k ≠ l := by
      rintro k cells hk rfl
      rw [hk] at hl
      cases hl
      cases hc
    exact ⟨by simp, fun k hk1 hk2 => (grownBy_putObj' W l o').block k (by have := (Array.getElem?_eq_some_iff.1 hl).1; omega) (fun e => by cases e; omega), fun k cells hk1 hk => (grownBy_putObj' W l o').block k (blk_lt hk) (fun e => by cases e; exact hne _ _ hk rfl)⟩
  case hI =>
    refine OwnFrom.and (Own.from (boxed_own _ _ (fun pre => .int .i64 (endP pre))) _) (OwnFrom.and (ownFrom_below (Nat.le_refl _) (by omega)) ?_)
    intro s X Y row hs hg hr
    exact Nat.le_trans hs hg.size
  case hIx => exact fun c s X Y row hs _ _ => hs.elim
  case hS => exact fun xs W l o o' h hle hl hc => ⟨h.1, h.2.put hl hc⟩
  case hSp => exact fun xs W l o o' h hle hl hc => ⟨h.1, h.2.put hl hc⟩
  case h0 => exact ⟨HE.out, HBB.out, Nat.le_refl _⟩
  case hAx =>
    rintro x a' _ X Y row ⟨b, h1, h2, h3⟩ hg hr
    exact ⟨b, h1, (hg.block b (blk_lt h2) (fun e => by obtain ⟨_, o, ho, hc⟩ := hr b e.symm; rw [h2] at ho; cases ho; cases hc)).trans h2, h3⟩
  case assign =>
    rintro l pre x W K ⟨hG, hB, hsW⟩ hK
    gi_wp2
    refine hK _ _ ?_ ?_ ?_ ⟨W.heap.size, hsW, blk_new W _, rfl⟩
    · exact ⟨by simp, fun k o _ hk ho => (Below.heap_alloc W _ k (Array.getElem?_eq_some_iff.1 hk).1).trans hk⟩
    · exact KpB.below (below_alloc (Below.refl _ _) _) hsW
    · exact ⟨hG.alloc _, below_then hB hB.size (below_alloc (Below.refl _ _) _), Nat.le_trans hsW (by simp)⟩
  case body =>
    rintro l pre x a' W ⟨hG, hB, hsW⟩ ⟨b, hbN, hbk, rfl⟩ hN
    have hx0 := blk_cell hbk 0
    have hx1 := blk_cell hbk 1
    have HG := Aside0.mk hG
    have HBk := Aside0.mk hB
    clear hG hB
    gi_wp2_with fail
    refine ⟨trivial, ?_⟩
    have hcall : CallsIn (Fence.wide.inRound l) 1 Try.prog 15 #[.int .i64 (x.body.length : Int)] W _ := (callsIn_wide (n := 1)).2 (frame_Size.calls (x.body.length : Int) _ W rfl)
    refine hcall.mono ?_
    rintro e W2 ⟨rfl, hb⟩
    have g2 := HG.out.kept (grown_of_below hb none) (by simp)
    have hc2 := g2.cell
    have hf2 := g2.frozen
    have HG2 := Aside0.mk g2
    have HB2 := Aside0.mk hb
    clear hb g2 hcall
    gi_wp2
    have hS2 : W.heap.size ≤ W2.heap.size := HB2.out.size
    refine ⟨⟨?_, ?_⟩, ⟨?_, ?_, ?_⟩, ?_, ?_, ?_⟩
    · rw [fsize_set]; exact hS2
    · intro k o hk h ho
      exact (Below.heap_setCell W2 ⟨w.heap.size, 0, none⟩ _ k (by show k ≠ w.heap.size; omega)).trans ((HB2.out.block k (Array.getElem?_eq_some_iff.1 h).1).trans h)
    · rw [fsize_set]; exact hS2
    · intro k hk1 hk2
      exact (Below.heap_setCell W2 ⟨w.heap.size, 0, none⟩ _ k (by show k ≠ w.heap.size; omega)).trans (HB2.out.block k (by omega))
    · intro k cells hk1 hk
      exact (Below.heap_setCell W2 ⟨w.heap.size, 0, none⟩ _ k (by show k ≠ w.heap.size; omega)).trans (HB2.out.block k (blk_lt hk))
    · rw [endP_snoc]
      exact HG2.out.set _
    · exact (below_then HBk.out HBk.out.size HB2.out).setCell (p := ⟨w.heap.size, 0, none⟩) (Nat.le_refl _) _
    · rw [fsize_set]; omega
  case done =>
    rintro D ys W hD ⟨hys, hgood⟩ ⟨hG, hB, hsW⟩ hK
    have hcE := hG.cell
    have he : endP ys = endT (fitems l0) := by rw [endP_say, hys]
    rw [he] at hcE
    have HB2 := Aside0.mk hB
    have HG2 := Aside0.mk hG
    have hfe := HFE.out
    unfold fend at hfe
    obtain ⟨E, hE⟩ : ∃ E, endT (fitems l0) = E := ⟨_, rfl⟩
    rw [hE] at hfe hcE
    rw [endP_say, hys, hE] at HG2
    clear hE he hys hgood hB hG
    by_cases hq : E = (l0.length : Int)
    · rw [if_pos hq] at hfe
      injection hfe with e1 e2
      subst e1 e2
      have hqb : (E == (l0.length : Int)) = true := beq_iff_eq.mpr hq
      clear hq
      gi_wp2
      refine ⟨by simp, .inl ⟨_, _, rfl, run_takeDeferred (w := W) hK, ?_⟩⟩
      refine ⟨_, results_tmp2 rfl _ _ _, rfl, ?_⟩
      exact HB2.out.trans (belowK_b (w := w) (Nat.le_refl _) W D _ _ (by omega) hK rfl rfl)
    · rw [if_neg hq] at hfe
      have hqb : (E == (l0.length : Int)) = false := beq_eq_false_iff_ne.mpr hq
      clear hq
      obtain ⟨r1, r2, r3, r4, ht⟩ : ∃ r1 r2 r3 r4, takeF l0 E = (r1, r2, r3, r4) := ⟨_, _, _, _, rfl⟩
      rw [ht] at hfe
      injection hfe with e1 e2
      dsimp only at e2
      subst e1 e2
      have hto : takeO l0 E = some (r1, r2, r3, r4) := by
        unfold takeO
        rw [if_pos ⟨HBY.out, by have := HL.out; omega⟩, ht]
      have HTO := Aside0.mk hto
      clear ht hto
      gi_wp2_with fail
      refine ⟨trivial, ?_⟩
      refine (callsIn_wide.2 (take5_calls A0 c0 l0 E r1 r2 r3 r4 _ (Kd.C_below HR0.out HB2.out) hc0 HTO.out)).mono ?_
      rintro e w5 ⟨v5, rfl, hv, hb5⟩
      obtain ⟨A5, c5, rfl, hle5, hF5⟩ := hv
      obtain ⟨o5, ho5⟩ : ∃ o, o = Obj.cells #[.int .i64 r1, .slice A5 r2.length c5] 29 := ⟨_, rfl⟩
      have hK5 := blk_alloc (blk_below hK hb5) o5
      have hE5 := ((HG2.out.kept (grown_of_below hb5 none) (by simp)).alloc o5).cell
      have HB5 := Aside0.mk (below_alloc (below_then HB2.out HB2.out.size hb5) o5)
      subst ho5
      clear hF5 hb5 hcE
      gi_wp2
      refine ⟨by simp, .inl ⟨_, _, rfl, run_takeDeferred hK5, ?_⟩⟩
      refine ⟨_, results_tmp2 rfl _ _ _, rfl, ?_⟩
      exact HB5.out.trans (belowK_b (w := w) (Nat.le_refl _) _ D _ _ (by omega) hK5 rfl rfl)
  case stop => exact fun D c pre W hD hp h hK => h.elim
end Go.Proofs.Ytcnapbpljghfoaa.Hand

/- Records one behind the other, in plain words: what is told of them, where it ends, and what of a cut. -/
namespace Go.Proofs.Ytcnapbpljghfoaa.Plain
open Go.RowKit Go.Proofs.YtcnapbpljghfoaaW.PrintWords
open Go.Proofs.Ytcnapbpljghfoaa.Hand (tailL endW endT fend ftold)
set_option linter.unusedVariables false
set_option linter.unusedSimpArgs false

def catL (bs : List (Int × List Int)) : List Int := bs.flatMap fun x => recL x.1 x.2
def OkR (bs : List (Int × List Int)) : Prop := ∀ x ∈ bs, 1 ≤ x.1 ∧ x.1 ≤ 250 ∧ isB x.2 ∧ x.2.length ≤ 70000
def placesL : Int → List (Int × List Int) → List (Int × Int × List Int)
  | _, [] => []
  | a, x :: r => (a, x.1, x.2) :: placesL (a + 12 + x.2.length) r
theorem catL_nil : catL [] = [] := rfl
theorem catL_cons (x : Int × List Int) (r : List (Int × List Int)) : catL (x :: r) = recL x.1 x.2 ++ catL r := rfl
theorem catL_append (a b : List (Int × List Int)) : catL (a ++ b) = catL a ++ catL b := List.flatMap_append
theorem catL_isB {bs : List (Int × List Int)} (h : OkR bs) : isB (catL bs) := by
  intro x hx
  obtain ⟨y, hy, hx⟩ := List.mem_flatMap.1 hx
  exact recL_isB (h y hy).2.2.1 x hx
theorem OkR.cons {x : Int × List Int} {r : List (Int × List Int)} (h : OkR (x :: r)) : OkR r := fun y hy => h y (List.mem_cons_of_mem _ hy)
theorem OkR.take {bs : List (Int × List Int)} (h : OkR bs) (n : Nat) : OkR (bs.take n) := fun y hy => h y (List.mem_of_mem_take hy)
theorem OkR.drop {bs : List (Int × List Int)} (h : OkR bs) (n : Nat) : OkR (bs.drop n) := fun y hy => h y (List.mem_of_mem_drop hy)
theorem catL_length_cons (x : Int × List Int) (r : List (Int × List Int)) : (catL (x :: r)).length = 12 + x.2.length + (catL r).length := by
  rw [catL_cons, List.length_append, recL_length]
  omega
theorem catL_len_ge (bs : List (Int × List Int)) : 12 * bs.length ≤ (catL bs).length := by
  induction bs with
  | nil => simp [catL]
  | cons x r ih => rw [catL_length_cons, List.length_cons]; omega
theorem placesL_length (a : Int) (bs : List (Int × List Int)) : (placesL a bs).length = bs.length := by
  induction bs generalizing a with
  | nil => rfl
  | cons x r ih => rw [placesL, List.length_cons, List.length_cons, ih]
theorem placesL_say (a : Int) (bs : List (Int × List Int)) : (placesL a bs).map (·.2) = bs := by
  induction bs generalizing a with
  | nil => rfl
  | cons x r ih => rw [placesL, List.map_cons, ih]
theorem placesL_getD (bs : List (Int × List Int)) : ∀ (a : Int) (i : Nat), i < bs.length → ((placesL a bs).map (·.1)).getD i 0 = a + ((catL (bs.take i)).length : Int) := by
  induction bs with
  | nil => intro a i h; simp at h
  | cons x r ih =>
    intro a i h
    cases i with
    | zero => simp [placesL, catL]
    | succ i =>
      rw [placesL, List.map_cons, List.getD_cons_succ, ih _ i (by simpa using h), List.take_succ_cons, catL_length_cons]
      omega
/-- The records that lie in a row are told one by one. -/
theorem fit_cat (bs : List (Int × List Int)) : OkR bs → ∀ (p r : List Int) (k : Nat), fitemsF (k + bs.length) (p.length : Int) (p ++ catL bs ++ r) = placesL p.length bs ++ fitemsF k ((p ++ catL bs).length : Int) (p ++ catL bs ++ r) := by
  induction bs with
  | nil => intro _ p r k; simp [catL, placesL]
  | cons x bs ih =>
    intro h p r k
    have hx := h x List.mem_cons_self
    have ht := take_rec (l := p) (r := catL bs ++ r) (kind := x.1) hx.2.2.1 hx.1 hx.2.1 hx.2.2.2
    have e : p ++ catL (x :: bs) ++ r = p ++ recL x.1 x.2 ++ (catL bs ++ r) := by rw [catL_cons]; simp only [List.append_assoc]
    have e2 : p ++ recL x.1 x.2 ++ (catL bs ++ r) = (p ++ recL x.1 x.2) ++ catL bs ++ r := by simp only [List.append_assoc]
    have hl : ((p ++ recL x.1 x.2).length : Int) = p.length + 12 + x.2.length := by rw [List.length_append, recL_length]; omega
    have hih := ih h.cons (p ++ recL x.1 x.2) r k
    rw [hl] at hih
    rw [List.length_cons, show k + (bs.length + 1) = (k + bs.length) + 1 from by omega, e, fitemsF_step _ _ _ (by rw [List.length_append, List.length_append, recL_length]; omega) ht, placesL, List.cons_append, e2, hih, catL_cons]
    simp only [List.append_assoc]
theorem fit_all {bs : List (Int × List Int)} (h : OkR bs) (r : List Int) (hr : r = [] ∨ (takeF (catL bs ++ r) ((catL bs).length : Int)).2.2.2 ≠ 0) : fitems (catL bs ++ r) = placesL 0 bs := by
  unfold fitems
  have hge := catL_len_ge bs
  obtain ⟨k, hk⟩ : ∃ k, (catL bs ++ r).length + 1 = k + bs.length := ⟨(catL bs ++ r).length + 1 - bs.length, by rw [List.length_append]; omega⟩
  have hf := fit_cat bs h [] r k
  rw [List.nil_append, List.length_nil, show ((0 : Nat) : Int) = 0 from rfl] at hf
  rw [hk, hf]
  rcases hr with rfl | hr
  · rw [fitemsF_nil _ _ _ (by rw [List.append_nil]; omega), List.append_nil]
  · rw [fitemsF_stop (x := (takeF (catL bs ++ r) ((catL bs).length : Int)).1) (b := (takeF (catL bs ++ r) ((catL bs).length : Int)).2.1) (n := (takeF (catL bs ++ r) ((catL bs).length : Int)).2.2.1) (e := (takeF (catL bs ++ r) ((catL bs).length : Int)).2.2.2) _ _ _ rfl hr, List.append_nil]
theorem endW_of {p : Int} {n : Nat} (h0 : 0 ≤ p) (h1 : p ≤ 1000000000) (h2 : n ≤ 1000000000) : endW p n = p + 12 + n := by
  unfold endW mx
  have e : (if (n : Int) < 0 then (0 : Int) else n) = n := by rw [if_neg (by omega)]
  first
    | (rw [e, w64 (x := 12 + (n : Int)) (by omega) (by omega), w64 (by omega) (by omega)]; omega)
    | (have e2 : (if (0 : Int) < n then (n : Int) else 0) = n := by split <;> omega
       first
         | (rw [e2, w64 (x := 12 + (n : Int)) (by omega) (by omega), w64 (by omega) (by omega)]; omega)
         | (have e3 : (if (n : Int) < 0 then (0 : Int) else (n : Int)) = n := by split <;> omega
            simp only [e3, e2, e]
            rw [w64 (x := 12 + (n : Int)) (by omega) (by omega), w64 (by omega) (by omega)]; omega))
theorem endT_places (bs : List (Int × List Int)) : ∀ a : Int, 0 ≤ a → a + (catL bs).length ≤ 1000000000 → bs ≠ [] → endT (placesL a bs) = a + (catL bs).length := by
  induction bs with
  | nil => intro a _ _ h; exact absurd rfl h
  | cons x r ih =>
    intro a h0 h1 _
    rw [catL_length_cons] at h1 ⊢
    cases r with
    | nil =>
      unfold endT
      simp only [placesL, List.getLast?_singleton, Option.elim, catL, List.flatMap_nil, List.length_nil]
      rw [endW_of h0 (by omega) (by omega)]
      omega
    | cons y r =>
      have := ih (a + 12 + x.2.length) (by omega) (by omega) (by simp)
      have hne : placesL (a + 12 + x.2.length) (y :: r) ≠ [] := by simp [placesL]
      rw [placesL]
      unfold endT at this ⊢
      rw [List.getLast?_cons]
      cases hq : (placesL (a + 12 + x.2.length) (y :: r)).getLast? with
      | none => exact absurd (List.getLast?_eq_none_iff.1 hq) hne
      | some z =>
        rw [hq] at this
        simp only [Option.elim, Option.getD_some] at this ⊢
        rw [this]
        omega
theorem endT_all {bs : List (Int × List Int)} (h : (catL bs).length ≤ 1000000000) : endT (placesL 0 bs) = (catL bs).length := by
  by_cases hb : bs = []
  · subst hb; rfl
  · rw [endT_places bs 0 (by omega) (by omega) hb]
    omega
/-- A strict part of a record, at its front, is torn. -/
theorem take_part {p q t : List Int} {k : Int} {b : List Int} (hb : isB b) (h1 : 1 ≤ k) (h2 : k ≤ 250) (h3 : b.length ≤ 70000) (hq : q ++ t = recL k b) (ht : t ≠ []) : takeF (p ++ q) (p.length : Int) = (0, [], 0, 4) := by
  have htl : 0 < t.length := List.length_pos_iff.2 ht
  have hlen : q.length + t.length = b.length + 12 := by rw [← List.length_append, hq, recL_length]
  unfold takeF
  rw [if_neg (by rw [List.length_append]; omega), Int.toNat_natCast, List.drop_left]
  by_cases h8 : q.length < 8
  · rw [if_pos h8]
  · have hh : (headL k b.length ++ tailL (moreN 0 (headL k b.length))).length = 8 := rfl
    have ht8 : q.take 8 = headL k b.length ++ tailL (moreN 0 (headL k b.length)) := by
      have e1 : (q ++ t).take 8 = q.take 8 := List.take_append_of_le_length (by omega)
      rw [← e1, hq]
      unfold recL
      exact List.take_left' hh
    rw [if_neg h8, ht8, openL_seal, if_pos rfl]
    unfold recB
    have hk : (headL k b.length).getD 0 0 = k := by show k % 256 = k; omega
    have hd : (headL k b.length).drop 1 = fixL b.length 3 := rfl
    dsimp only
    rw [hk, hd, three_fix (by omega), if_neg (by omega), if_pos (by omega)]
/-- A row of records that is cut at m: so many stand whole, and what is behind them. -/
theorem cut_cat (bs : List (Int × List Int)) (m : Nat) (n : Nat) (hn : n ≤ bs.length) (h1 : (catL (bs.take n)).length ≤ m) (h2 : n < bs.length → m < (catL (bs.take (n + 1))).length) (hm : m ≤ (catL bs).length) :
    ∃ q, (catL bs).take m = catL (bs.take n) ++ q ∧ q.length = m - (catL (bs.take n)).length ∧ (q = [] ∨ ∃ k b t, (k, b) ∈ bs ∧ q ++ t = recL k b ∧ t ≠ []) := by
  have hsp : catL bs = catL (bs.take n) ++ catL (bs.drop n) := by rw [← catL_append, List.take_append_drop]
  refine ⟨(catL (bs.drop n)).take (m - (catL (bs.take n)).length), ?_, ?_, ?_⟩
  · conv => lhs; rw [hsp]
    rw [List.take_append, List.take_of_length_le h1]
  · rw [List.length_take]
    have : (catL bs).length = (catL (bs.take n)).length + (catL (bs.drop n)).length := by conv => lhs; rw [hsp]; rw [List.length_append]
    omega
  · by_cases hlt : n < bs.length
    · right
      have hd : bs.drop n = bs[n] :: bs.drop (n + 1) := List.drop_eq_getElem_cons hlt
      have h3 := h2 hlt
      rw [List.take_succ_eq_append_getElem hlt, catL_append, List.length_append] at h3
      have h4 : (catL [bs[n]]).length = (recL bs[n].1 bs[n].2).length := by simp [catL]
      rw [h4] at h3
      refine ⟨bs[n].1, bs[n].2, (recL bs[n].1 bs[n].2).drop (m - (catL (bs.take n)).length), List.getElem_mem _, ?_, ?_⟩
      · rw [hd, catL_cons, List.take_append_of_le_length (by omega), List.take_append_drop]
      · intro h0
        have := congrArg List.length h0
        rw [List.length_drop] at this
        simp at this
        omega
    · left
      have : n = bs.length := by omega
      subst this
      rw [List.drop_length, catL_nil, List.take_nil]
theorem fit_cut {bs : List (Int × List Int)} (h : OkR bs) {m n : Nat} (hn : n ≤ bs.length) (h1 : (catL (bs.take n)).length ≤ m) (h2 : n < bs.length → m < (catL (bs.take (n + 1))).length) (hm : m ≤ (catL bs).length) (hlen : (catL bs).length ≤ 1000000000) :
    fitems ((catL bs).take m) = placesL 0 (bs.take n) ∧ fend ((catL bs).take m) = (((catL (bs.take n)).length : Int), if (catL (bs.take n)).length = m then 0 else 4) := by
  obtain ⟨q, e, hql, hq⟩ := cut_cat bs m n hn h1 h2 hm
  have hml : ((catL bs).take m).length = m := by rw [List.length_take]; omega
  have hqt : q = [] ∨ takeF (catL (bs.take n) ++ q) ((catL (bs.take n)).length : Int) = (0, [], 0, 4) := by
    rcases hq with hq | ⟨k, b, t, hmem, hqt, ht⟩
    · exact .inl hq
    · have hx := h _ hmem
      exact .inr (take_part hx.2.2.1 hx.1 hx.2.1 hx.2.2.2 hqt ht)
  have hfit : fitems ((catL bs).take m) = placesL 0 (bs.take n) := by
    rw [e]
    refine fit_all (h.take n) q ?_
    rcases hqt with hq | hq
    · exact .inl hq
    · exact .inr (by rw [hq]; decide)
  refine ⟨hfit, ?_⟩
  unfold fend
  rw [hfit, endT_all (by omega), hml]
  by_cases hc : (catL (bs.take n)).length = m
  · rw [if_pos (by omega), if_pos hc]
  · rw [if_neg (by omega), if_neg hc, e]
    rcases hqt with hq | hq
    · subst hq
      rw [List.length_nil] at hql
      omega
    · rw [hq]
end Go.Proofs.Ytcnapbpljghfoaa.Plain

/- concordancelaw3.FrameCuts, walked by hand: records that are cut anywhere are told up to the cut, and the one that was cut is torn. -/
namespace Go.Proofs.Ytcnapbpljghfoaa.Hand
open Go.RowKit Go.Proofs.YtcnapbpljghfoaaW.PrintWords Go.Proofs.YtcnapbpljghfoaaW.PrintLast Go.Proofs.YtcnapbpljghfoaaW.PrintMore
open Go.Proofs.Ytcnapbpljghfoaa.Plain Go.Proofs.Ytcnapbpljghfoaa.PCrc
attribute [local go_sem] max2_int min2_int max_two min_two
set_option linter.unusedVariables false
set_option linter.unusedSimpArgs false
/-- The records of the first rows; K tells a row's kind. -/
def recsOf (K : Nat → Int) (L : List (List Int)) (i : Nat) : List (Int × List Int) := (List.range i).map fun j => (K j, rd_L1 L (j : Int))
theorem recsOf_succ (K : Nat → Int) (L : List (List Int)) (i : Nat) : recsOf K L (i + 1) = recsOf K L i ++ [(K i, rd_L1 L (i : Int))] := by
  unfold recsOf
  rw [List.range_succ, List.map_append]
  rfl
theorem recsOf_length (K : Nat → Int) (L : List (List Int)) (i : Nat) : (recsOf K L i).length = i := by simp [recsOf]
theorem recsOf_take (K : Nat → Int) (L : List (List Int)) {i j : Nat} (h : j ≤ i) : (recsOf K L i).take j = recsOf K L j := by
  unfold recsOf
  rw [← List.map_take, List.take_range, Nat.min_eq_left h]
/-- The places where they begin, and where the last one ends. -/
def endsOf (K : Nat → Int) (L : List (List Int)) (i : Nat) : List Int := (List.range i).map fun j => ((catL (recsOf K L j)).length : Int)
theorem endsOf_succ (K : Nat → Int) (L : List (List Int)) (i : Nat) : endsOf K L (i + 1) = endsOf K L i ++ [((catL (recsOf K L i)).length : Int)] := by
  unfold endsOf
  rw [List.range_succ, List.map_append]
  rfl
theorem endsOf_length (K : Nat → Int) (L : List (List Int)) (i : Nat) : (endsOf K L i).length = i := by simp [endsOf]
theorem endsOf_at (K : Nat → Int) (L : List (List Int)) {i j : Nat} (h : j < i) : rd (endsOf K L i) (j : Int) = ((catL (recsOf K L j)).length : Int) := by
  rw [rd_at _ _ (by rw [endsOf_length]; exact h)]
  simp [endsOf]
theorem recsOf_ok {K : Nat → Int} {L : List (List Int)} {i : Nat} (hK : ∀ j, j < i → 1 ≤ K j ∧ K j ≤ 250) (hL : ∀ x ∈ L, isB x) (hl : ∀ j, j < i → (rd_L1 L (j : Int)).length ≤ 70000) : OkR (recsOf K L i) := by
  intro x hx
  obtain ⟨j, hj, rfl⟩ := List.mem_map.1 hx
  have hji := List.mem_range.1 hj
  refine ⟨(hK j hji).1, (hK j hji).2, ?_, hl j hji⟩
  unfold rd_L1
  rw [Int.toNat_natCast, List.getD_eq_getElem?_getD]
  by_cases h : j < L.length
  · rw [List.getElem?_eq_getElem h]
    exact hL _ (List.getElem_mem _)
  · rw [List.getElem?_eq_none (by omega)]
    intro y hy
    cases hy
theorem catL_recs_le {K : Nat → Int} {L : List (List Int)} {m : Nat} (i : Nat) (hl : ∀ j, j < i → (rd_L1 L (j : Int)).length ≤ m) : (catL (recsOf K L i)).length ≤ (12 + m) * i := by
  induction i with
  | zero => simp [recsOf, catL]
  | succ i ih =>
    rw [recsOf_succ, catL_append, List.length_append]
    have h1 := ih (fun j hj => hl j (by omega))
    have h2 := hl i (by omega)
    have h3 : (catL [(K i, rd_L1 L (i : Int))]).length = 12 + (rd_L1 L (i : Int)).length := by rw [catL_length_cons]; simp [catL]
    rw [h3, Nat.mul_succ]
    omega
/-- A cell of a row at a block's head. -/
theorem head_cell {k : IntKind} {w : World} {g : Nat} {E : List Int} (h : Kd.C (Kd.int k) w (some ⟨g, 0, none⟩) E.length E) (j : Nat) (hj : j < E.length) : w.cell? ⟨g, j, none⟩ = some (.int k (rd E (j : Int))) := by
  obtain ⟨ad, ha, hc⟩ := Kd.at_int h (j : Int) (by omega) (by omega)
  injection ha with ha
  subst ha
  rw [add_plain, Int.toNat_natCast] at hc
  exact hc
set_option maxHeartbeats 8000000 in
set_option maxRecDepth 100000 in
theorem cuts_walk (A0 : Option Addr) (c0 : Nat) (L : List (List Int)) (a1 : Int) (w : World) (hr0 : Kd.C (Kd.slice 5 (Kd.int .u8)) w A0 L.length L) (hc0 : L.length ≤ c0) (hw0 : ∀ x ∈ L, ∀ n ∈ x, (Lit.int .u8 n).wf = true) (hw1 : (Lit.int .i64 a1).wf = true) :
    Calls Try.prog 9 #[.slice A0 L.length c0, .int .i64 a1] w fun e w' => e = .returned (.bool true) ∧ Below w.heap.size w w' := by
  have HBL := Aside0.mk (show ∀ x ∈ L, isB x from fun x hx n hn => Plain.wf_u8 (hw0 x hx n hn))
  have HAW := Aside0.mk (awake3_f 0)
  have HR0 := Aside0.mk hr0
  have HLM := Aside0.mk (Kd.C_max hr0)
  have HB := Aside0.mk (Below.refl w.heap.size w)
  clear hw0 hr0
  go_enter Try.func9, Try.ntmps9
  go_wp2_with (first | ((with_reducible refine gate_dst (N := 17) rfl ?_); refine Kd.R_lit (Kd.int .i64) _ 3 ?hg (N := 17) ?hd (xs := ([0] : List Int)) (inner := [.int .i64 0]) (ok := fun _ => True) (okp := fun _ => True) ?hr ?hp (fun _ hk => hk) trivial (Below.refl w.heap.size _) (Nat.le_refl _) (by simp) ?_; (case hd => rfl); (case hg => rfl); (case hr => first | (go_simp; done) | (go_simp; rfl)); (case hp => exact (Reps.one (show Kd.M (Kd.int .i64) _ _ _ (0 : Int) [.int .i64 0] from rfl) (Reps.none _ _))); intro ve w1 ho hb hg_ hnew_; clear hg_ hnew_; have HE := Aside0.mk ho; clear HB; have HB := Aside0.mk hb; clear ho hb))
  go_loopg [5, 6, 7] 7 (fun kq v5 v6 v7 w' => ∃ (i : Nat), v7 = .int .i64 (i : Int) ∧ Aside0 (i ≤ 6 ∧ i ≤ L.length ∧ 6 - i ≤ kq) ∧ Aside0 (∀ j, j < i → (rd_L1 L (j : Int)).length ≤ 300) ∧ Aside0 (Kd.R (Kd.int .u8) 5 w' w.heap.size (fun _ => True) v5 (catL (recsOf (fun j => 250 - (j : Int)) L i))) ∧ Aside0 (Kd.R (Kd.int .i64) 3 w' w.heap.size (fun _ => True) v6 (endsOf (fun j => 250 - (j : Int)) L (i + 1))) ∧ Aside0 (Below w.heap.size w w'))
  case atStart => exact ⟨0, rfl, ⟨by omega, by omega, by omega⟩, ⟨fun j hj => by omega⟩, ⟨Kd.R_nil _ _ _ _ _⟩, ⟨HE.out⟩, ⟨HB.out⟩⟩
  case round =>
    clear HE HB
    obtain ⟨i, rfl, HI, HLE, HV, HE, HB⟩ := hrel
    have hb1 := HI.out.2.1
    by_cases k1 : i < L.length ∧ i < 6
    · obtain ⟨hlt, h6⟩ := k1
      have d1 : decide ((i : Int) < (L.length : Int)) = true := decide_eq_true (by omega)
      have d2 : decide ((i : Int) < 6) = true := decide_eq_true (by omega)
      obtain ⟨ad, A2, c2, rfl, hcell, hle2, hC2⟩ := at_L1 (Kd.C_below HR0.out HB.out) (i : Int) (by omega) (by omega)
      rw [Int.toNat_natCast] at hcell
      obtain ⟨Ab, cb, rfl⟩ := Kd.R_slice HV.out
      obtain ⟨Ae, ce, rfl⟩ := Kd.R_slice HE.out
      have hcl := catL_recs_le (K := (fun j => 250 - (j : Int))) i HLE.out
      have hcs := recsOf_succ (fun j => 250 - (j : Int)) L i
      have hes := endsOf_succ (fun j => 250 - (j : Int)) L (i + 1)
      have hel := endsOf_length (fun j => 250 - (j : Int)) L (i + 1)
      have hby : isB (rd_L1 L (i : Int)) := by
        unfold rd_L1
        rw [Int.toNat_natCast, List.getD_eq_getElem?_getD, List.getElem?_eq_getElem hlt]
        exact HBL.out _ (List.getElem_mem _)
      obtain ⟨y, ey⟩ : ∃ y, rd_L1 L (i : Int) = y := ⟨_, rfl⟩
      rw [ey] at hcell hle2 hC2 hcs hby
      by_cases k2 : 300 < y.length
      · have d3 : decide (300 < (y.length : Int)) = true := decide_eq_true (by omega)
        clear hcl hcs hes hel hby ey
        go_wp2_with (first | (go_at_call 10; refine (concordancelaw3_awake.calls _ _ _ HAW.out).mono ?_; rintro e w9 ⟨rfl, hb⟩; have n1_ := Aside0.mk (below_step HB.out hb); clear HB hb; have HB := n1_; clear n1_))
        go_ret
        exact ⟨rfl, HB.out⟩
      · have d3 : decide (300 < (y.length : Int)) = false := decide_eq_false (by omega)
        have HI2 := Aside0.mk (And.intro hlt h6)
        have hput := put_f (l := catL (recsOf (fun j => 250 - (j : Int)) L i)) (by omega) hby (by omega) (250 - (i : Int)) 0
        unfold putF at hput
        rw [if_neg (by omega), if_neg (by omega)] at hput
        have hcat : catL (recsOf (fun j => 250 - (j : Int)) L i) ++ recL (250 - (i : Int)) y = catL (recsOf (fun j => 250 - (j : Int)) L (i + 1)) := by
          rw [hcs, catL_append, catL_cons, catL_nil, List.append_nil]
        rw [hcat] at hput
        have HPUT := Aside0.mk hput
        have HY := Aside0.mk (show y.length ≤ 300 by omega)
        have HEY := Aside0.mk ey
        have HES := Aside0.mk hes
        have HEL := Aside0.mk hel
        have HC2 := Aside0.mk hC2
        clear hput hcat hcs hcl hes hel hby ey k2 hC2
        go_wp2_with (first | (go_at_call 11; refine (frame_Put.calls 1 (fun _ => True) Ab cb _ _ A2 c2 y _ _ _ ⟨Ab, cb, rfl, (Kd.R_reads' HV.out).2.1, Kd.R_F HV.out⟩ HC2.out hle2 HPUT.out).mono ?_; rintro e w2 ⟨v2, rfl, ho, hb⟩; obtain ⟨A3, c3, rfl⟩ := Kd.R_slice ho; have n0_ := Aside0.mk (Kd.R_mono (Kd.R_lower ho HB.out.size) (ok' := fun _ => True) (fun _ _ => trivial)); have n2_ := Aside0.mk (Kd.R_below HE.out hb); clear HV HE ho; have HV := n0_; have HE := n2_; clear n0_ n2_; have n1_ := Aside0.mk (below_step HB.out hb); clear HB hb; have HB := n1_; clear n1_) | ((with_reducible refine gate_builtin (b := .append) (xs := #[.tmp 49, .tmp 52]) rfl ?_); at_builtin; refine Kd.R_append (Kd.int .i64) (w0 := w) w.heap.size rfl (.tmp 49) (.tmp 52) 40 3 (.int .i64 0) 8 rfl Try.underlying40 finfo_int rfl (by decide) (by omega) (.slice Ae (endsOf (fun j => 250 - (j : Int)) L (i + 1)).length ce) (endsOf (fun j => 250 - (j : Int)) L (i + 1)) ((catL (recsOf (fun j => 250 - (j : Int)) L (i + 1))).length : Int) [.int .i64 ((catL (recsOf (fun j => 250 - (j : Int)) L (i + 1))).length : Int)] (fun _ => True) (fun _ => False) rfl rfl rfl (fun _ h => h.elim) (fun _ _ => trivial) HE.out HB.out HB.out.size (by have := HEL.out; have := HI2.out.2; omega) ?_; intro v3 w3 ho hb hg hat; have n0_ := Aside0.mk (Kd.R_over HV.out HE.out (by decide) hg); rw [← HES.out] at ho; clear HV HE HB; have HV := n0_; have HE := Aside0.mk ho; have HB := Aside0.mk hb; clear n0_ ho hb hg hat))
        go_roundg (5 - i)
        case measure => have := HI.out; have := HI2.out; omega
        case rel =>
          refine ⟨i + 1, by go_num, ⟨by have := HI2.out; omega, by have := HI2.out; omega, by omega⟩, ⟨fun j hj => ?_⟩, ⟨HV.out⟩, ⟨HE.out⟩, ⟨HB.out⟩⟩
          rcases Nat.lt_or_ge j i with h | h
          · exact HLE.out j h
          · have : j = i := by omega
            subst this
            rw [HEY.out]
            exact HY.out
    · have hlen := catL_recs_le (K := (fun j => 250 - (j : Int))) i HLE.out
      have HOK := Aside0.mk (recsOf_ok (K := (fun j => 250 - (j : Int))) (L := L) (i := i) (fun j hj => by have := HI.out.1; show 1 ≤ 250 - (j : Int) ∧ 250 - (j : Int) ≤ 250; omega) HBL.out (fun j hj => by have := HLE.out j hj; omega))
      obtain ⟨Ab, cb, rfl⟩ := Kd.R_slice HV.out
      obtain ⟨ge, ce, rfl, _, _, _, _⟩ := Kd.R_form HE.out (by rw [endsOf_length]; omega)
      have hVb := Kd.R_reads' HV.out
      have hEb := Kd.R_reads' HE.out
      have hel := endsOf_length (fun j => 250 - (j : Int)) L (i + 1)
      obtain ⟨B, eB⟩ : ∃ B, recsOf (fun j => 250 - (j : Int)) L i = B := ⟨_, rfl⟩
      obtain ⟨E, eE⟩ : ∃ E, endsOf (fun j => 250 - (j : Int)) L (i + 1) = E := ⟨_, rfl⟩
      have hat : ∀ j : Nat, j < i + 1 → rd E (j : Int) = ((catL (B.take j)).length : Int) := by
        intro j hj
        rw [← eE, endsOf_at _ _ hj, ← eB, recsOf_take _ _ (by omega)]
      have hBl : B.length = i := by rw [← eB, recsOf_length]
      rw [eB] at hVb hlen HOK HV ⊢
      rw [eE] at hEb hel HE ⊢
      obtain ⟨C, eC⟩ : ∃ C, catL B = C := ⟨_, rfl⟩
      have hCB := catL_isB HOK.out
      rw [eC] at hVb hlen HV hCB ⊢
      have hi6 : i ≤ 6 := HI.out.1
      have HCL := Aside0.mk (show C.length ≤ 1872 by omega)
      obtain ⟨k, hk, hkl⟩ : ∃ k : Nat, Int.tmod (Go.bits .and .i64 a1 65535) ((C.length : Int) + 1) = (k : Int) ∧ k ≤ C.length := by
        have e := and_low a1 16 (by omega)
        rw [show ((2 ^ 16 - 1 : Nat) : Int) = 65535 from rfl, show ((2 ^ 16 : Nat) : Int) = 65536 from rfl] at e
        rw [e, Int.tmod_eq_emod_of_nonneg (by omega)]
        have h1 := Int.emod_nonneg (a1 % 65536) (b := (C.length : Int) + 1) (by omega)
        have h2 := Int.emod_lt_of_pos (a1 % 65536) (b := (C.length : Int) + 1) (by omega)
        exact ⟨((a1 % 65536) % ((C.length : Int) + 1)).toNat, by omega, by omega⟩
      have hcm : (C.length : Int) ≤ 1872 := by have := HCL.out; omega
      have HVC := Aside0.mk hVb.2
      have HEC := Aside0.mk hEb.2
      have HAT := Aside0.mk hat
      have HBN := Aside0.mk hBl
      have HEL := Aside0.mk hel
      have HCB := Aside0.mk hCB
      have HEQ := Aside0.mk eC
      have HKL := Aside0.mk hkl
      clear hVb hEb hel hat hBl hCB eC eB eE hlen hkl HV HE HLE
      have dec : (decide ((i : Int) < (L.length : Int)) = false ∧ ¬ i < L.length) ∨ (decide ((i : Int) < (L.length : Int)) = true ∧ i < L.length ∧ decide ((i : Int) < 6) = false ∧ ¬ i < 6) := by
        by_cases h : i < L.length
        · exact .inr ⟨decide_eq_true (by omega), h, decide_eq_false (by omega), by omega⟩
        · exact .inl ⟨decide_eq_false (by omega), h⟩
      have HI6 := Aside0.mk hi6
      clear k1 HI
      rcases dec with ⟨d1, g1⟩ | ⟨d1, g1, d2, g2⟩
      all_goals
        go_wp2
        obtain ⟨wo, hwo⟩ : ∃ wo, wo = wr := ⟨_, rfl⟩
        subst hwo
        go_loopg [11] (i + 1) (fun kq v11 w' => ∃ (n : Nat), v11 = .int .i64 (n : Int) ∧ Aside0 (n ≤ i ∧ i - n ≤ kq ∧ (catL (B.take n)).length ≤ k) ∧ w' = wo)
        case atStart => exact ⟨0, rfl, ⟨by omega, by omega, by simp [catL]⟩, rfl⟩
        case round =>
          obtain ⟨n, rfl, HN, rfl⟩ := hrel
          have hn6 : n ≤ 6 := by have := HN.out; have := HI6.out; omega
          have hEm : (E.length : Int) ≤ 7 := by have := HEL.out; have := HI6.out; omega
          have hEn : n < E.length := by have := HEL.out; have := HN.out; omega
          have hcn := head_cell HEC.out.2 n hEn
          rw [HAT.out n (by have := HN.out; omega)] at hcn
          by_cases k2 : n < i ∧ (catL (B.take (n + 1))).length ≤ k
          · obtain ⟨k3, k4⟩ := k2
            have hE1 : n + 1 < E.length := by have := HEL.out; omega
            have d3 : decide ((n : Int) + 1 < (E.length : Int)) = true := decide_eq_true (by omega)
            have hcn1 := head_cell HEC.out.2 (n + 1) hE1
            rw [HAT.out (n + 1) (by have := HN.out; omega)] at hcn1
            have d4 : decide (((catL (B.take (n + 1))).length : Int) ≤ (k : Int)) = true := decide_eq_true (by omega)
            have HK := Aside0.mk (And.intro k3 k4)
            clear hcn
            go_wp2
            go_roundg (i - 1 - n)
            case measure => have := HN.out; have := HK.out; omega
            case rel => exact ⟨n + 1, by go_num, ⟨by have := HK.out; omega, by omega, HK.out.2⟩, rfl⟩
          · have hxl : (C.take k).length = k := by rw [List.length_take]; have := HKL.out; omega
            have hcut := fit_cut HOK.out (m := k) (n := n) (by rw [HBN.out]; exact HN.out.1) HN.out.2.2 (fun h => by rw [HBN.out] at h; rcases Nat.lt_or_ge k (catL (B.take (n + 1))).length with h2 | h2; exact h2; exact absurd ⟨h, h2⟩ k2) (by rw [HEQ.out]; exact HKL.out) (by rw [HEQ.out]; have := HCL.out; omega)
            rw [HEQ.out] at hcut
            have hxB := isB_take HCB.out k
            obtain ⟨i0, hi0, _, hsz0, _⟩ := info_parts hinfo_u8
            obtain ⟨hsl, hsA, hsC⟩ := print_take_of (P := Try.prog) (Value.int .u8) 0 22 5 .i64 Try.underlying22 hi0 hsz0 Ab cb C (k : Int) (by omega) (by have := HKL.out; omega) HVC.out.1
            have hRx := Kd.C_of_reads (h1 := fun _ => rfl) (hsA _ (Kd.reads_of_C HVC.out.2))
            rw [Int.toNat_natCast] at hsl hRx hsC
            obtain ⟨x, ex⟩ : ∃ x, C.take k = x := ⟨_, rfl⟩
            rw [ex] at hxl hcut hxB hsl hRx hsC
            have HRX : Aside0 (Kd.C (Kd.int .u8) wr Ab x.length x) := ⟨hRx⟩
            have hend := fun (w' : World) (hw : Kd.C (Kd.int .u8) w' Ab x.length x) => fend_calls Ab cb x w' hw hsC hxB (by have := HCL.out; have := HKL.out; omega)
            have htold := fun (w' : World) (hw : Kd.C (Kd.int .u8) w' Ab x.length x) => ftold_calls Ab cb x 100 w' hw hsC hxB (by have := HCL.out; have := HKL.out; omega)
            have hft : ftold x 100 = placesL 0 (B.take n) := by
              unfold ftold
              rw [hcut.1, List.take_of_length_le]
              rw [placesL_length, List.length_take]
              have : (100 : Int).toNat = 100 := rfl
              omega
            rw [hcut.2] at hend
            rw [hft] at htold
            have hln : ((placesL 0 (B.take n)).map (·.1)).length = n := by
              rw [List.length_map, placesL_length, List.length_take]
              have := HBN.out
              have := HN.out
              omega
            have hln2 := hln
            rw [List.length_map] at hln2
            obtain ⟨T, eT⟩ : ∃ T, placesL 0 (B.take n) = T := ⟨_, rfl⟩
            rw [eT] at htold hln hln2
            rw [hln2] at htold
            obtain ⟨q, eq⟩ : ∃ q, (catL (B.take n)).length = q := ⟨_, rfl⟩
            rw [eq] at hend hcn
            rw [hxl] at hsl hend htold
            have HEND := Aside0.mk hend
            have HTOLD := Aside0.mk htold
            have HLN := Aside0.mk hln
            have HECN := Aside0.mk HEC.out.2
            have HNN := Aside0.mk hEn
            have HRX' := HRX
            rw [hxl] at HRX'
            clear HRX
            have HRX := HRX'
            clear HRX'
            have hway : decide ((n : Int) + 1 < (E.length : Int)) = false ∧ ¬ n + 1 < E.length ∨ (decide ((n : Int) + 1 < (E.length : Int)) = true ∧ n + 1 < E.length ∧ k < (catL (B.take (n + 1))).length) := by
              by_cases h : n < i
              · refine .inr ⟨decide_eq_true (by have := HEL.out; omega), by have := HEL.out; omega, ?_⟩
                rcases Nat.lt_or_ge k (catL (B.take (n + 1))).length with h2 | h2
                · exact h2
                · exact absurd ⟨h, h2⟩ k2
              · exact .inl ⟨decide_eq_false (by have := HEL.out; have := HN.out; omega), by have := HEL.out; have := HN.out; omega⟩
            clear hend htold hln hln2 eT hcut hxB hRx hsA hsC hi0 hsz0 ex hft k2 hcn
            have hq : q = k ∨ q ≠ k := by omega
            rcases hway with ⟨d3, g3⟩ | ⟨d3, g3, k4⟩
            · rcases hq with rfl | hq
              · rw [if_pos rfl] at HEND
                go_wp2_with (first | (go_at_call 18; refine (HEND.out _ (Kd.C_below HRX.out (Below.refl _ _))).mono ?_; rintro e w6 ⟨rfl, hb⟩; have n0_ := Aside0.mk (Kd.C_below HECN.out hb); have n2_ := Aside0.mk (Kd.C_below HRX.out hb); clear HECN HRX; have HECN := n0_; have HRX := n2_; clear n0_ n2_; have n1_ := Aside0.mk (below_step HB.out hb); clear HB hb; have HB := n1_; clear n1_) | (go_at_call 17; refine (HTOLD.out _ HRX.out).mono ?_; rintro e w7 ⟨v7, A7, c7, rfl, ho, _, _, hb⟩; obtain ⟨A8, c8, rfl⟩ := Kd.R_slice ho; clear ho; have n0_ := Aside0.mk (Kd.C_below HECN.out hb); clear HECN; have HECN := n0_; clear n0_; have n1_ := Aside0.mk (below_step HB.out hb); clear HB hb; have HB := n1_; clear n1_; have hce := head_cell HECN.out n HNN.out; rw [HAT.out n (by have := HN.out; omega), eq] at hce; have hl8 := HLN.out) | (go_at_call 10; refine (concordancelaw3_awake.calls _ _ _ HAW.out).mono ?_; rintro e w9 ⟨rfl, hb⟩; have n1_ := Aside0.mk (below_step HB.out hb); clear HB hb; have HB := n1_; clear n1_))
                go_ret
                exact ⟨rfl, HB.out⟩
              · rw [if_neg hq] at HEND
                have hqb : ((k : Int) == (q : Int)) = false := beq_eq_false_iff_ne.mpr (by omega)
                go_wp2_with (first | (go_at_call 18; refine (HEND.out _ (Kd.C_below HRX.out (Below.refl _ _))).mono ?_; rintro e w6 ⟨rfl, hb⟩; have n0_ := Aside0.mk (Kd.C_below HECN.out hb); have n2_ := Aside0.mk (Kd.C_below HRX.out hb); clear HECN HRX; have HECN := n0_; have HRX := n2_; clear n0_ n2_; have n1_ := Aside0.mk (below_step HB.out hb); clear HB hb; have HB := n1_; clear n1_) | (go_at_call 17; refine (HTOLD.out _ HRX.out).mono ?_; rintro e w7 ⟨v7, A7, c7, rfl, ho, _, _, hb⟩; obtain ⟨A8, c8, rfl⟩ := Kd.R_slice ho; clear ho; have n0_ := Aside0.mk (Kd.C_below HECN.out hb); clear HECN; have HECN := n0_; clear n0_; have n1_ := Aside0.mk (below_step HB.out hb); clear HB hb; have HB := n1_; clear n1_; have hce := head_cell HECN.out n HNN.out; rw [HAT.out n (by have := HN.out; omega), eq] at hce; have hl8 := HLN.out) | (go_at_call 10; refine (concordancelaw3_awake.calls _ _ _ HAW.out).mono ?_; rintro e w9 ⟨rfl, hb⟩; have n1_ := Aside0.mk (below_step HB.out hb); clear HB hb; have HB := n1_; clear n1_))
                go_ret
                exact ⟨rfl, HB.out⟩
            · have hcn1 := head_cell HECN.out (n + 1) g3
              rw [HAT.out (n + 1) (by have := HEL.out; omega)] at hcn1
              have d4 : decide (((catL (B.take (n + 1))).length : Int) ≤ (k : Int)) = false := decide_eq_false (by omega)
              have g4 : ¬ (catL (B.take (n + 1))).length ≤ k := by omega
              clear k4
              rcases hq with rfl | hq
              · rw [if_pos rfl] at HEND
                go_wp2_with (first | (go_at_call 18; refine (HEND.out _ (Kd.C_below HRX.out (Below.refl _ _))).mono ?_; rintro e w6 ⟨rfl, hb⟩; have n0_ := Aside0.mk (Kd.C_below HECN.out hb); have n2_ := Aside0.mk (Kd.C_below HRX.out hb); clear HECN HRX; have HECN := n0_; have HRX := n2_; clear n0_ n2_; have n1_ := Aside0.mk (below_step HB.out hb); clear HB hb; have HB := n1_; clear n1_) | (go_at_call 17; refine (HTOLD.out _ HRX.out).mono ?_; rintro e w7 ⟨v7, A7, c7, rfl, ho, _, _, hb⟩; obtain ⟨A8, c8, rfl⟩ := Kd.R_slice ho; clear ho; have n0_ := Aside0.mk (Kd.C_below HECN.out hb); clear HECN; have HECN := n0_; clear n0_; have n1_ := Aside0.mk (below_step HB.out hb); clear HB hb; have HB := n1_; clear n1_; have hce := head_cell HECN.out n HNN.out; rw [HAT.out n (by have := HN.out; omega), eq] at hce; have hl8 := HLN.out) | (go_at_call 10; refine (concordancelaw3_awake.calls _ _ _ HAW.out).mono ?_; rintro e w9 ⟨rfl, hb⟩; have n1_ := Aside0.mk (below_step HB.out hb); clear HB hb; have HB := n1_; clear n1_))
                go_ret
                exact ⟨rfl, HB.out⟩
              · rw [if_neg hq] at HEND
                have hqb : ((k : Int) == (q : Int)) = false := beq_eq_false_iff_ne.mpr (by omega)
                go_wp2_with (first | (go_at_call 18; refine (HEND.out _ (Kd.C_below HRX.out (Below.refl _ _))).mono ?_; rintro e w6 ⟨rfl, hb⟩; have n0_ := Aside0.mk (Kd.C_below HECN.out hb); have n2_ := Aside0.mk (Kd.C_below HRX.out hb); clear HECN HRX; have HECN := n0_; have HRX := n2_; clear n0_ n2_; have n1_ := Aside0.mk (below_step HB.out hb); clear HB hb; have HB := n1_; clear n1_) | (go_at_call 17; refine (HTOLD.out _ HRX.out).mono ?_; rintro e w7 ⟨v7, A7, c7, rfl, ho, _, _, hb⟩; obtain ⟨A8, c8, rfl⟩ := Kd.R_slice ho; clear ho; have n0_ := Aside0.mk (Kd.C_below HECN.out hb); clear HECN; have HECN := n0_; clear n0_; have n1_ := Aside0.mk (below_step HB.out hb); clear HB hb; have HB := n1_; clear n1_; have hce := head_cell HECN.out n HNN.out; rw [HAT.out n (by have := HN.out; omega), eq] at hce; have hl8 := HLN.out) | (go_at_call 10; refine (concordancelaw3_awake.calls _ _ _ HAW.out).mono ?_; rintro e w9 ⟨rfl, hb⟩; have n1_ := Aside0.mk (below_step HB.out hb); clear HB hb; have HB := n1_; clear n1_))
                go_ret
                exact ⟨rfl, HB.out⟩
end Go.Proofs.Ytcnapbpljghfoaa.Hand
