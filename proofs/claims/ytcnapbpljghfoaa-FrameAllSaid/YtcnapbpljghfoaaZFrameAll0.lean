/- Texts of this seat, one behind the other: what concordance's FrameAll reaches. -/
import Derived.Test.YtcnapbpljghfoaaProg
import Derived.Below
import Derived.Deep.Draws
import Derived.Deep.AppendLies
import Derived.Maps.AppendAt
import Derived.OwnWalk
import Derived.Laws.BytesArg
import Derived.Laws.MakeOwn
import Derived.Laws.OwnMore
import Derived.Deep.OwnRows
import Derived.Tactics
import Derived.Lib.ConvBytes
import Derived.Laws.Slices
import Derived.WalkKit
import Derived.KernelRfl
import Derived.RowKit3
import Derived.Deep.LoopGhost
import Derived.Deep.QuietTactic
import Derived.BigQuiet
import Derived.WideLaws
import Derived.Deep.DeepCutAuto
import Derived.Deep.CutBlock
import Derived.Deep.RegionHeld3
import Derived.Laws.Rows
import Derived.Lib.AppendStr
import Derived.ArgAppend
import Derived.Laws.IdiomCopy
import Derived.OrdersHeld
import Derived.Laws.BitsLemmas
import Derived.RowKit
import Derived.Test.YtcnapbpljghfoaaWWords
import Derived.Test.YtcnapbpljghfoaaWLast
import Derived.Test.YtcnapbpljghfoaaWTab
import Derived.Test.YtcnapbpljghfoaaWFour
import Derived.Test.YtcnapbpljghfoaaWQPut
import Derived.Test.YtcnapbpljghfoaaWApart
import Derived.Test.YtcnapbpljghfoaaWArr
import Derived.Test.YtcnapbpljghfoaaWZeros
import Derived.Test.YtcnapbpljghfoaaWFoot
import Derived.Test.YtcnapbpljghfoaaWKept
import Derived.Test.YtcnapbpljghfoaaWShare
import Derived.Test.YtcnapbpljghfoaaWN
import Derived.Test.YtcnapbpljghfoaaWFootNe
import Derived.Test.YtcnapbpljghfoaaWAt
import Derived.Test.YtcnapbpljghfoaaWEqStruct
import Derived.Test.YtcnapbpljghfoaaWRepsOne
import Derived.Test.YtcnapbpljghfoaaWInv
import Derived.Test.YtcnapbpljghfoaaWInvWords
import Derived.Test.YtcnapbpljghfoaaWGuard
import Derived.Test.YtcnapbpljghfoaaWNEv
import Derived.Test.YtcnapbpljghfoaaWMore
import Derived.WalkSpells
import Derived.Laws.BitsAllLaws
import Derived.Lib.AppendZeros
/- Printed by a program of this session (drv.py) from the translation of this seat: functions, their contracts, rows. -/
namespace Go.Proofs.Ytcnapbpljghfoaa.PCrc
open Go.RowKit Go.Proofs.YtcnapbpljghfoaaW.PrintWords Go.Proofs.YtcnapbpljghfoaaW.PrintLast Go.Proofs.YtcnapbpljghfoaaW.PrintMore
attribute [local go_sem] max2_int min2_int max_two min_two max_three min_three max_four min_four   -- for this text's walks alone
set_option linter.unusedVariables false
set_option linter.unusedSimpArgs false



def errW : Option Int → Value
  | none => .nilIface
  | some c => .iface 0 (.int .i64 c)
theorem errW_none : errW none = .nilIface := rfl
theorem errW_some (c : Int) : errW (some c) = .iface 0 (.int .i64 c) := rfl

theorem info5 : (Try.prog.info? 5).map (fun i => (i.zero, i.size, i.bytes)) = some (some (.int .u8 0), 1, 1) := by kernel_rfl
theorem info22 : (Try.prog.info? 22).map (fun i => (i.zero, i.size, i.bytes)) = some (some (.slice none 0 0), 1, 24) := by kernel_rfl
-- the values' own types
def rd_L1 (xs : List (List Int)) (i : Int) : (List Int) := xs.getD i.toNat ([] : List Int)
theorem at_L1 {w : World} {A : Option Addr} {n : Nat} {xs : List (List Int)} (h : Kd.C (Kd.slice 5 (Kd.int .u8)) w A n xs) (i : Int) (h0 : 0 ≤ i) (h1 : i < n) : ∃ ad A0 c0, A = some ad ∧ w.cell? (ad.add i.toNat) = some (.slice A0 (rd_L1 xs i).length c0) ∧ (rd_L1 xs i).length ≤ c0 ∧ (Kd.int .u8).C w A0 (rd_L1 xs i).length (rd_L1 xs i) := by
  obtain ⟨ad, c, e, _, hK, hc0⟩ := Kd.C_get h ([] : List Int) i h0 h1
  have hc : ∀ j u, c[j]? = some u → w.cell? (ad.add (i.toNat * 1 + j)) = some u := hc0
  obtain ⟨A0, c0, rfl, l0, g0⟩ := hK
  exact ⟨ad, A0, c0, e, by have hq := hc 0 _ rfl; rwa [Nat.mul_one, Nat.add_zero] at hq, l0, g0⟩

end Go.Proofs.Ytcnapbpljghfoaa.PCrc

/- Printed by a program of this session (drv.py) from the translation of this seat: functions, their contracts, rows. -/
namespace Go.Proofs.Ytcnapbpljghfoaa.PCrc
open Go.RowKit Go.Proofs.YtcnapbpljghfoaaW.PrintWords Go.Proofs.YtcnapbpljghfoaaW.PrintLast Go.Proofs.YtcnapbpljghfoaaW.PrintMore
attribute [local go_sem] max2_int min2_int max_two min_two max_three min_three max_four min_four   -- for this text's walks alone
set_option linter.unusedVariables false
set_option linter.unusedSimpArgs false

/-! ### concordanceref1_FrameOk: function 12 -/
def concordanceref1_FrameOk.j0 : Nat → Int → Bool → Option (Int)
  | 0, _, _ => none
  | k + 1, x1, x5 => if x5 = true then (some 1) else (if x1 > 70000 then (some 2) else (some 0))
def concordanceref1_FrameOk.f (k : Nat) (a0 : Int) (a1 : Int) : Option (Int) := if a0 < 1 then (concordanceref1_FrameOk.j0 k a1 true) else (concordanceref1_FrameOk.j0 k a1 (decide (a0 > 250)))
theorem concordanceref1_FrameOk.mono_l : ∀ k, (∀ y0 y1, LeO (concordanceref1_FrameOk.j0 k y0 y1) (concordanceref1_FrameOk.j0 (k + 1) y0 y1))
  | 0 => fun _ _ r h => by simp [concordanceref1_FrameOk.j0] at h
  | k + 1 => by
    have ih0 := concordanceref1_FrameOk.mono_l k
    · intro y0 y1
      unfold concordanceref1_FrameOk.j0
      repeat' first
      | (with_reducible exact ih0 _ _)
      | (with_reducible exact LeO.refl _)
      | (with_reducible exact LeO.none _)
      | (with_reducible refine LeO.ite ?_ ?_)
      | (with_reducible refine LeO.bind ?_ (fun _ => ?_))
      | exact ih0 _ _
      | exact LeO.none _
      | refine LeO.ite ?_ ?_
      | refine LeO.bind ?_ (fun _ => ?_)
theorem concordanceref1_FrameOk.mono : ∀ a0 a1 k, LeO (concordanceref1_FrameOk.f k a0 a1) (concordanceref1_FrameOk.f (k + 1) a0 a1) := by
  intro a0 a1 k
  have ih0 := concordanceref1_FrameOk.mono_l k
  unfold concordanceref1_FrameOk.f
  repeat' first
      | (with_reducible exact ih0 _ _)
      | (with_reducible exact LeO.refl _)
      | (with_reducible exact LeO.none _)
      | (with_reducible refine LeO.ite ?_ ?_)
      | (with_reducible refine LeO.bind ?_ (fun _ => ?_))
      | exact ih0 _ _
      | exact LeO.none _
      | refine LeO.ite ?_ ?_
      | refine LeO.bind ?_ (fun _ => ?_)
set_option maxHeartbeats 8000000 in
set_option maxRecDepth 100000 in
theorem concordanceref1_FrameOk.calls (k : Nat) (a0 : Int) (a1 : Int) (r : Int) (w : World) (h : concordanceref1_FrameOk.f k a0 a1 = some r) :
    Calls Try.prog 12 #[.int .i64 a0, .int .i64 a1] w fun e w' => e = .returned (.int .i64 r) ∧ Drawn0 w w' := by
  have H : (if a0 < 1 then (concordanceref1_FrameOk.j0 k a1 true) else (concordanceref1_FrameOk.j0 k a1 (decide (a0 > 250)))) = some r := h
  clear h
  have HC3 := Aside0.mk H
  clear H
  go_enter Try.func12, Try.ntmps12
  go_upto_region 1 with (fail)
  go_cut [5] (fun v5 wc => ∃ (kq : Nat) (x5_2 : Bool), v5 = .bool x5_2 ∧ Aside0 (concordanceref1_FrameOk.j0 kq a1 x5_2 = some r) ∧ Aside0 (kq ≤ k) ∧ Drawn0 w wc)
  case first =>
    have H := HC3.out
    clear HC3
    by_cases c4 : a0 < 1
    · rw [if_pos c4] at H
      have c4b0 : decide (a0 < 1) = true := decide_eq_true c4
      clear c4
      (first | rw [c4b0] | (simp only [i64_w, i32_w]; rw [c4b0]) | skip)
      have H' := Aside0.mk H
      clear H
      go_wp2
      go_meet
      case rel => exact ⟨_, (true), (by first | rfl | (simp; done) | (simp [*]; done)), H', ⟨by first | omega | exact Nat.le_refl _⟩, by repeat (first | exact Drawn0.refl _ | apply Drawn0.step)⟩
    · rw [if_neg c4] at H
      have c4b0 : decide (a0 < 1) = false := decide_eq_false c4
      clear c4
      (first | rw [c4b0] | (simp only [i64_w, i32_w]; rw [c4b0]) | skip)
      have H' := Aside0.mk H
      clear H
      go_wp2
      go_meet
      case rel => exact ⟨_, (decide (a0 > 250)), (by first | rfl | (simp; done) | (simp [*]; done)), H', ⟨by first | omega | exact Nat.le_refl _⟩, by repeat (first | exact Drawn0.refl _ | apply Drawn0.step)⟩
  case rest =>
    clear HC3
    try clear c1
    try clear p2
    try clear c4
    try clear c4b0
    obtain ⟨kq, x5_2, rfl, HA, HJ2, ⟨mc2, rfl⟩⟩ := hcut
    cases kq with
    | zero => exact absurd HA.out (by simp [concordanceref1_FrameOk.j0])
    | succ kj2 =>
      have H := HA.out
      clear HA
      simp only [concordanceref1_FrameOk.j0] at H
      by_cases c5 : x5_2 = true
      · subst c5
        have H1 : (some 1) = some r := by rw [if_pos rfl] at H; exact H
        clear H
        have H := H1
        clear H1
        obtain rfl := Option.some.inj H
        go_wp2
        go_ret
        exact ⟨by first | rfl | (simp; done) | (simp [*]; done), by repeat (first | exact Drawn0.refl _ | apply Drawn0.step)⟩
      · replace c5 := Bool.eq_false_iff.mpr c5
        subst c5
        have H1 : (if a1 > 70000 then (some 2) else (some 0)) = some r := by rw [if_neg (show ¬ (false = true) by decide)] at H; exact H
        clear H
        have H := H1
        clear H1
        by_cases c6 : a1 > 70000
        · rw [if_pos c6] at H
          have c6b0 : decide (70000 < a1) = true := decide_eq_true c6
          clear c6
          obtain rfl := Option.some.inj H
          go_wp2
          go_ret
          exact ⟨by first | rfl | (simp; done) | (simp [*]; done), by repeat (first | exact Drawn0.refl _ | apply Drawn0.step)⟩
        · rw [if_neg c6] at H
          have c6b0 : decide (70000 < a1) = false := decide_eq_false c6
          clear c6
          obtain rfl := Option.some.inj H
          go_wp2
          go_ret
          exact ⟨by first | rfl | (simp; done) | (simp [*]; done), by repeat (first | exact Drawn0.refl _ | apply Drawn0.step)⟩

end Go.Proofs.Ytcnapbpljghfoaa.PCrc

/- Printed by a program of this session (drv.py) from the translation of this seat: functions, their contracts, rows. -/
namespace Go.Proofs.Ytcnapbpljghfoaa.PCrc
open Go.RowKit Go.Proofs.YtcnapbpljghfoaaW.PrintWords Go.Proofs.YtcnapbpljghfoaaW.PrintLast Go.Proofs.YtcnapbpljghfoaaW.PrintMore
attribute [local go_sem] max2_int min2_int max_two min_two max_three min_three max_four min_four   -- for this text's walks alone
set_option linter.unusedVariables false
set_option linter.unusedSimpArgs false

/-! ### concordanceref1_four: function 35 -/
def concordanceref1_four.f (a0 : Int) : Option (ByteArray) := some (strOfNums (([(a0) % 256, (a0 / 256) % 256, (a0 / 65536) % 256, (a0 / 16777216) % 256] : List Int)))
set_option maxHeartbeats 8000000 in
set_option maxRecDepth 100000 in
theorem concordanceref1_four.calls (a0 : Int) (r : ByteArray) (w : World) (h : concordanceref1_four.f a0 = some r) :
    Calls Try.prog 35 #[.int .u32 a0] w fun e w' => e = .returned (.string r) ∧ Below w.heap.size w w' := by
  have HB := Aside0.mk (Below.refl w.heap.size w)
  have H : (some (strOfNums (([(a0) % 256, (a0 / 256) % 256, (a0 / 65536) % 256, (a0 / 16777216) % 256] : List Int)))) = some r := h
  clear h
  obtain ⟨y145, hy145⟩ : ∃ y_ : List Int, y_ = (([(a0) % 256, (a0 / 256) % 256, (a0 / 65536) % 256, (a0 / 16777216) % 256] : List Int)) := ⟨_, rfl⟩
  replace H : (some (strOfNums y145)) = some r := by first | (rw [hy145]; with_reducible exact H) | (have H2_ := (Option.bind_some _ _).symm.trans H; rw [hy145]; with_reducible exact H2_) | (have H2_ := (Option.bind_some _ _).symm.trans H; with_reducible exact H2_) | with_reducible exact H | (rw [hy145]; exact H) | exact H
  have Ny145 := Aside0.mk hy145
  clear hy145
  obtain rfl := Option.some.inj H
  go_enter Try.func35, Try.ntmps35
  go_wp2_with (first | ((with_reducible refine gate_dst (N := 14) rfl ?_); refine Kd.R_lit (Kd.int .u8) _ 5 ?hg (N := 14) ?hd (xs := ([(a0) % 256, (a0 / 256) % 256, (a0 / 65536) % 256, (a0 / 16777216) % 256] : List Int)) (inner := [.int .u8 ((a0) % 256), .int .u8 ((a0 / 256) % 256), .int .u8 ((a0 / 65536) % 256), .int .u8 ((a0 / 16777216) % 256)]) (ok := fun _ => True) (okp := fun _ => True) ?hr ?hp (fun _ hk => hk) trivial (Below.refl _ _) (Nat.le_refl _) (by simp) ?_; (case hd => rfl); (case hg => rfl); (case hr => first | (go_simp; done) | (go_simp; rfl)); (case hp => exact (Reps.one (show Kd.M (Kd.int .u8) _ _ _ ((a0) % 256) [.int .u8 ((a0) % 256)] from rfl) (Reps.one (show Kd.M (Kd.int .u8) _ _ _ ((a0 / 256) % 256) [.int .u8 ((a0 / 256) % 256)] from rfl) (Reps.one (show Kd.M (Kd.int .u8) _ _ _ ((a0 / 65536) % 256) [.int .u8 ((a0 / 65536) % 256)] from rfl) (Reps.one (show Kd.M (Kd.int .u8) _ _ _ ((a0 / 16777216) % 256) [.int .u8 ((a0 / 16777216) % 256)] from rfl) (Reps.none _ _)))))); intro v146 w2 ho3 hb hg_ hnew_; clear hg_ hnew_; (first | rw [← Ny145.out] at ho3 | (simp only [Int.reduceToNat] at ho3; rw [← Ny145.out] at ho3)); have n0_ := Aside0.mk (Kd.R_lower ho3 (below_size (by repeat (first | (with_reducible first | exact HB.out | apply below_alloc | apply pw_below_drewN | apply below_drew1) | exact HB.out)))); have n1_ := Aside0.mk (below_step (by repeat (first | (with_reducible first | exact HB.out | apply below_alloc | apply pw_below_drewN | apply below_drew1) | exact HB.out)) hb); clear HB; have HO147 := n0_; have HB := n1_; clear n0_ n1_; clear hb ho3; have hcv4 := own_string (P := Try.prog) Try.underlying22 Try.underlying5 Try.underlying9 (Kd.own_of_R HO147.out); have hcvd4 := fun nd_ : Nat => own_string (P := Try.prog) Try.underlying22 Try.underlying5 Try.underlying9 (Kd.own_of_R (Kd.R_drewN HO147.out nd_))))
  go_ret
  exact ⟨by first | rfl | (simp [errW_none, errW_some] <;> rfl) | (simp [*, errW_none, errW_some] <;> rfl), by repeat (first | (with_reducible first | exact HB.out | apply below_alloc | apply pw_below_drewN | apply below_drew1) | exact HB.out)⟩

end Go.Proofs.Ytcnapbpljghfoaa.PCrc

/- Contracts, proved by hand, of slices.Clone and slices.Clip at bytes: Clone hands back a row of the call's own with the same bytes (no more than 2^47 of them); Clip hands back what it is given, its capacity cut to its length. -/
namespace Go.Proofs.Ytcnapbpljghfoaa.Hand
open Go.RowKit Go.Proofs.YtcnapbpljghfoaaW.PrintWords Go.Proofs.YtcnapbpljghfoaaW.PrintLast Go.Proofs.YtcnapbpljghfoaaW.PrintMore
set_option linter.unusedVariables false
set_option linter.unusedSimpArgs false

theorem hinfo_u8 : (Try.prog.info? 5).map (fun i => (i.zero, i.size, i.bytes)) = some (some (.int .u8 0), 1, 1) := by kernel_rfl

theorem C_none {α : Type} {d : Kd α} {w : World} {n : Nat} {xs : List α} (h : d.C w none n xs) : n = 0 := by
  rcases Nat.eq_zero_or_pos n with h0 | h0
  · exact h0
  · obtain ⟨ad, e, _⟩ := h.2.2 h0
    cases e

set_option maxHeartbeats 800000 in
set_option maxRecDepth 100000 in
theorem clone_calls (A0 : Option Addr) (c0 : Nat) (l0 : List Int) (w : World) (hr0 : Kd.C (Kd.int .u8) w A0 l0.length l0) (hl : l0.length ≤ 140737488355328) :
    Calls Try.prog 29 #[.slice A0 l0.length c0] w fun e w' => ∃ v0_ : Value, e = .returned v0_ ∧ Kd.R (Kd.int .u8) 5 w' w.heap.size (fun _ => True) v0_ l0 ∧ Below w.heap.size w w' := by
  cases A0 with
  | none =>
    have h0 := C_none hr0
    obtain rfl : l0 = [] := List.eq_nil_of_length_eq_zero h0
    clear h0
    have hnil := fun W => Lib.run_eql_slice_nil (P := Try.prog) W 22 5 none 0 c0 0 0 Try.underlying22
    go_enter Try.func29, Try.ntmps29
    go_wp2
    go_ret
    exact ⟨_, rfl, Kd.R_nil _ _ _ _ _, Below.refl _ _⟩
  | some ad =>
    have hnil := fun W => Lib.run_eql_slice_nil (P := Try.prog) W 22 5 (some ad) l0.length c0 0 0 Try.underlying22
    have HR0 := Aside0.mk hr0
    have HL := Aside0.mk hl
    have HB := Aside0.mk (Below.refl w.heap.size w)
    clear hr0 hl
    go_enter Try.func29, Try.ntmps29
    go_wp2_with (first | ((with_reducible refine gate_dst (N := 5) rfl ?_); refine Kd.R_lit (Kd.int .u8) _ 5 ?hg (N := 5) ?hd (xs := ([] : List Int)) (inner := []) (ok := fun _ => True) (okp := fun _ => True) ?hr ?hp (fun _ hk => hk) trivial (Below.refl _ _) (Nat.le_refl _) (by simp) ?_; (case hd => rfl); (case hg => rfl); (case hr => first | (go_simp; done) | (go_simp; rfl)); (case hp => exact Reps.none _ _); intro v1 w1 ho hb hg_ hnew_; clear hg_ hnew_; have HO := Aside0.mk ho; clear HB; have HB := Aside0.mk hb; clear ho hb) | ((with_reducible refine gate_builtin (b := .append) (xs := #[.tmp 5, .tmp 6]) rfl ?_); at_builtin; refine Kd.R_append_rows (Kd.int .u8) (w0 := w) w.heap.size rfl (.tmp 5) (.tmp 6) 22 5 (.int .u8 0) 1 rfl Try.underlying22 hinfo_u8 rfl (by decide) (by omega) v1 [] l0 _ _ _ (fun _ => True) (fun _ => False) rfl rfl ?aO ?aR (fun _ _ h => h) (fun _ h => h.elim) ?aF ?aB ?aS ?aL ?_; (case aR => exact (Kd.C_below HR0.out HB.out)); (case aB => exact HB.out); (case aF => exact (fun _ _ => trivial)); (case aO => exact HO.out); (case aS => exact (below_size HB.out)); (case aL => have := HL.out; simp only [List.length_nil]; omega); intro v2 w2 ho hb hg hat; clear HB HO; have HO := Aside0.mk ho; have HB := Aside0.mk hb; clear ho hb hg hat))
    go_ret
    exact ⟨_, rfl, HO.out, HB.out⟩

/-- What a row of one's own becomes by Clip: the same cells, the capacity cut to the length. -/
def Clipped (e : Nat) (w : World) (base : Nat) (v : Value) (xs : List Int) : Prop :=
  ∃ A c, v = .slice A xs.length xs.length ∧ Kd.R (Kd.int .u8) e w base (fun _ => True) (.slice A xs.length c) xs

theorem Clipped.V {e : Nat} {w : World} {base base' : Nat} {v : Value} {xs : List Int} (h : Clipped e w base v xs) : Kd.V (Kd.int .u8) e w base' (fun k_ => base ≤ k_) v xs := by
  obtain ⟨A, c, rfl, h⟩ := h
  have h2 := Kd.R_mono (Kd.R_bound h) (ok' := fun k_ => base ≤ k_) (fun k hk => hk.2.1)
  exact ⟨A, xs.length, rfl, Nat.le_refl _, Kd.R_F h2⟩

/-- A string made of a row that is only read. -/
theorem V_string {P : Program} {w : World} {src dst e : TypeId} {ok : Nat → Prop} {v : Value} {xs : List Int} (hs : P.underlying src = some (.slice e)) (he : P.underlying e = some (.int .u8)) (hd : P.underlying dst = some .string)
    (h : Kd.V (Kd.int .u8) 0 w 0 ok v xs) : (convert src dst v).run P w = .ok (.string (strOfNums xs)) w := by
  obtain ⟨A, c, rfl, _, hf⟩ := h
  exact Kd.C_string hs he hd (Kd.F_now hf)

set_option maxHeartbeats 800000 in
set_option maxRecDepth 100000 in
theorem clip_calls (v : Value) (xs : List Int) (w : World) (base : Nat) (ho : Kd.R (Kd.int .u8) 5 w base (fun _ => True) v xs) :
    Calls Try.prog 30 #[v] w fun e w' => (∃ v0_ : Value, e = .returned v0_ ∧ Clipped 5 w' base v0_ xs) ∧ w = w' := by
  obtain ⟨A, c, rfl⟩ := Kd.R_slice ho
  have hrd := Kd.R_reads' ho
  have hle : xs.length ≤ c := hrd.2.1
  have hmax : xs.length ≤ 9223372036854775807 := Kd.C_max hrd.2.2
  have HO := Aside0.mk ho
  clear ho hrd
  go_enter Try.func30, Try.ntmps30
  go_wp2
  go_ret
  exact ⟨⟨_, rfl, A, c, rfl, HO.out⟩, rfl⟩

end Go.Proofs.Ytcnapbpljghfoaa.Hand

/- Plain facts on the sums of layer 2, without any program: one bit, four bits, eight bits of a sum; a sum of bytes. -/
namespace Go.Proofs.Ytcnapbpljghfoaa.Plain

def polyN : Nat := 2197175160
/-- One bit of a sum. -/
def bitN (n : Nat) : Nat := n / 2 ^^^ (if n % 2 = 1 then polyN else 0)
def bitsN : Nat → Nat → Nat
  | 0, n => n
  | k + 1, n => bitsN k (bitN n)
theorem bitsN_add (j k n : Nat) : bitsN (j + k) n = bitsN k (bitsN j n) := by
  induction j generalizing n with
  | zero => rw [Nat.zero_add]; rfl
  | succ j ih => rw [Nat.succ_add]; exact ih _
theorem bitsN_snoc (k n : Nat) : bitsN (k + 1) n = bitN (bitsN k n) := bitsN_add k 1 n
theorem lt32 {n : Nat} (h : n < 4294967296) : n < 2 ^ 32 := h
theorem bitN_lt {n : Nat} (h : n < 4294967296) : bitN n < 4294967296 := by
  unfold bitN
  refine Nat.xor_lt_two_pow (n := 32) (by omega) ?_
  split <;> decide
theorem bitsN_lt (k : Nat) : ∀ {n : Nat}, n < 4294967296 → bitsN k n < 4294967296 := by
  induction k with
  | zero => intro n h; exact h
  | succ k ih => intro n h; exact ih (bitN_lt h)
theorem xor_mod2 (a b : Nat) : (a ^^^ b) % 2 = (a % 2 + b % 2) % 2 := by
  have h := Nat.testBit_xor (x := a) (y := b) (i := 0)
  simp only [Nat.testBit_zero] at h
  rcases Nat.mod_two_eq_zero_or_one a with ha | ha <;> rcases Nat.mod_two_eq_zero_or_one b with hb | hb <;> rcases Nat.mod_two_eq_zero_or_one (a ^^^ b) with hc | hc <;> rw [ha, hb, hc] at h <;> rw [ha, hb, hc] <;> first | rfl | (exact absurd h (by decide))
theorem xor_div2 (a b : Nat) : (a ^^^ b) / 2 = a / 2 ^^^ b / 2 := by
  have := Nat.shiftRight_xor_distrib (a := a) (b := b) (i := 1)
  simpa [Nat.shiftRight_eq_div_pow] using this
theorem bitN_xor (a b : Nat) : bitN (a ^^^ b) = bitN a ^^^ bitN b := by
  unfold bitN
  rw [xor_div2, xor_mod2]
  have ac : ∀ p q r s : Nat, (p ^^^ q) ^^^ (r ^^^ s) = (p ^^^ r) ^^^ (q ^^^ s) := fun p q r s => by
    rw [Nat.xor_assoc, ← Nat.xor_assoc q r s, Nat.xor_comm q r, Nat.xor_assoc r q s, ← Nat.xor_assoc]
  rcases Nat.mod_two_eq_zero_or_one a with ha | ha <;> rcases Nat.mod_two_eq_zero_or_one b with hb | hb <;> rw [ha, hb, ac] <;> simp
theorem bitsN_xor (k : Nat) : ∀ a b : Nat, bitsN k (a ^^^ b) = bitsN k a ^^^ bitsN k b := by
  induction k with
  | zero => intro a b; rfl
  | succ k ih => intro a b; simp only [bitsN]; rw [bitN_xor, ih]
theorem bitN_two (n : Nat) : bitN (2 * n) = n := by
  unfold bitN
  rw [if_neg (by omega), Nat.xor_zero]
  omega
theorem bitsN_shl (k : Nat) : ∀ n : Nat, bitsN k (n * 2 ^ k) = n := by
  induction k with
  | zero => intro n; simp [bitsN]
  | succ k ih =>
    intro n
    simp only [bitsN]
    rw [Nat.pow_succ, show n * (2 ^ k * 2) = 2 * (n * 2 ^ k) from by rw [← Nat.mul_assoc, Nat.mul_comm], bitN_two, ih]
/-- So many bits at once: what lies above, and what the low bits make. -/
theorem bitsN_low (k n : Nat) : bitsN k n = n / 2 ^ k ^^^ bitsN k (n % 2 ^ k) := by
  have e : n = (n / 2 ^ k * 2 ^ k) ^^^ (n % 2 ^ k) := by
    have h1 : n / 2 ^ k * 2 ^ k + n % 2 ^ k = n / 2 ^ k * 2 ^ k ||| n % 2 ^ k := (Go.nat_join k _ _ (Nat.mul_mod_left _ _) (Nat.mod_lt _ (Nat.pow_pos (by omega)))).symm
    have h2 : (n / 2 ^ k * 2 ^ k) &&& (n % 2 ^ k) = 0 := by
      apply Nat.eq_of_testBit_eq
      intro i
      rw [Nat.testBit_and, Nat.testBit_mul_two_pow, Nat.testBit_mod_two_pow]
      by_cases hi : k ≤ i
      · simp [show ¬ i < k from by omega]
      · simp [hi]
    have h3 : (n / 2 ^ k * 2 ^ k) ||| (n % 2 ^ k) = (n / 2 ^ k * 2 ^ k) ^^^ (n % 2 ^ k) := by
      apply Nat.eq_of_testBit_eq
      intro i
      have := congrArg (fun x => x.testBit i) h2
      simp only [Nat.testBit_and, Nat.zero_testBit] at this
      rw [Nat.testBit_or, Nat.testBit_xor]
      cases h4 : (n / 2 ^ k * 2 ^ k).testBit i <;> cases h5 : (n % 2 ^ k).testBit i <;> rw [h4, h5] at this <;> simp_all
    rw [← h3, ← h1]
    exact (Nat.div_add_mod' n (2 ^ k)).symm
  conv => lhs; rw [e, bitsN_xor, bitsN_shl]
def stepN (n c : Nat) : Nat := bitsN 8 (n ^^^ c)
def sumN (n : Nat) (l : List Int) : Nat := l.foldl (fun n c => stepN n c.toNat) n
def ones : Nat := 4294967295
/-- The sum of what a sum is of, and more. -/
def moreN (s : Nat) (l : List Int) : Nat := sumN (s ^^^ ones) l ^^^ ones
theorem stepN_lt {n c : Nat} (h : n < 4294967296) (hc : c < 4294967296) : stepN n c < 4294967296 := bitsN_lt 8 (Nat.xor_lt_two_pow (n := 32) h hc)
theorem sumN_lt (l : List Int) : ∀ {n : Nat}, n < 4294967296 → (∀ x ∈ l, 0 ≤ x ∧ x < 256) → sumN n l < 4294967296 := by
  induction l with
  | nil => intro n h _; exact h
  | cons c l ih =>
    intro n h hl
    have := hl c (.head _)
    exact ih (stepN_lt h (by omega)) (fun x hx => hl x (.tail _ hx))
theorem moreN_lt {s : Nat} {l : List Int} (h : s < 4294967296) (hl : ∀ x ∈ l, 0 ≤ x ∧ x < 256) : moreN s l < 4294967296 :=
  Nat.xor_lt_two_pow (n := 32) (sumN_lt l (Nat.xor_lt_two_pow (n := 32) h (by decide)) hl) (by decide)
theorem sumN_append (l r : List Int) (n : Nat) : sumN n (l ++ r) = sumN (sumN n l) r := List.foldl_append
theorem moreN_append (s : Nat) (l r : List Int) : moreN (moreN s l) r = moreN s (l ++ r) := by
  unfold moreN
  rw [Nat.xor_assoc, Nat.xor_self, Nat.xor_zero, sumN_append]
end Go.Proofs.Ytcnapbpljghfoaa.Plain

/- Contracts, proved by hand, of crc.table and crc.More: the table of what four bits make of a sum; the sum of what a sum is of, and more (moreN). -/
namespace Go.Proofs.Ytcnapbpljghfoaa.Hand
open Go.RowKit Go.Proofs.YtcnapbpljghfoaaW.PrintWords Go.Proofs.YtcnapbpljghfoaaW.PrintLast Go.Proofs.YtcnapbpljghfoaaW.PrintMore
open Go.Proofs.Ytcnapbpljghfoaa.Plain
set_option linter.unusedVariables false
set_option linter.unusedSimpArgs false

/-- What cells that are stored in a row leave in their block. -/
theorem heap_setCells_go (b : Nat) (t : TypeId) : ∀ (vs : List Value) (pre old post : List Value) (W : World), old.length = vs.length → W.heap[b]? = some (.cells (pre ++ old ++ post).toArray t (0, 0)) →
    (W.setCells b pre.length vs).heap[b]? = some (.cells (pre ++ vs ++ post).toArray t (0, 0))
  | [], pre, old, post, W, hl, h => by
    obtain rfl : old = [] := List.length_eq_zero_iff.1 hl
    exact h
  | v :: vs, pre, old, post, W, hl, h => by
    obtain ⟨u, old, rfl⟩ : ∃ u r, old = u :: r := by
      cases old with
      | nil => simp at hl
      | cons u r => exact ⟨u, r, rfl⟩
    rw [World.setCells]
    have h2 : (W.setCell ⟨b, pre.length, none⟩ v).heap[b]? = some (.cells ((pre ++ [v]) ++ old ++ post).toArray t (0, 0)) := by
      rw [blk_set h]
      congr 2
      apply Array.ext'
      simp
    have := heap_setCells_go b t vs (pre ++ [v]) old post _ (by simpa using hl) h2
    rw [List.length_append, List.length_singleton] at this
    rw [this]
    simp
theorem heap_setCells (b : Nat) (t : TypeId) (vs : List Value) (cs : Array Value) (W : World) (hl : cs.size = vs.length) (h : W.heap[b]? = some (.cells cs t (0, 0))) : (W.setCells b 0 vs).heap[b]? = some (.cells vs.toArray t (0, 0)) := by
  have := heap_setCells_go b t vs [] cs.toList [] W (by simpa using hl) (by simpa using h)
  simpa using this
theorem heap_setCells_other (b : Nat) : ∀ (vs : List Value) (o : Nat) (W : World) (g : Nat), g ≠ b → (W.setCells b o vs).heap[g]? = W.heap[g]?
  | [], _, _, _, _ => rfl
  | v :: vs, o, W, g, hg => by
    rw [World.setCells, heap_setCells_other b vs _ _ g hg]
    exact Below.heap_setCell W ⟨b, o, none⟩ v g hg
theorem below_setCells {B : Nat} {w : World} (b : Nat) (hb : B ≤ b) : ∀ (vs : List Value) (o : Nat) (W : World), Below B w W → Below B w (W.setCells b o vs)
  | [], _, _, h => h
  | v :: vs, o, W, h => by
    rw [World.setCells]
    exact below_setCells b hb vs _ _ (h.setCell (p := ⟨b, o, none⟩) hb v)
theorem blk_cell16 {W : World} {b : Nat} {t : TypeId} {xs : List Int} (h : W.heap[b]? = some (.cells (nums .u32 xs).toArray t (0, 0))) (j : Nat) (hj : j < xs.length) : W.cell? ⟨b, j, none⟩ = some (.int .u32 xs[j]) := by
  rw [blk_cell h j]
  simp [nums, hj]

theorem alloc_size (w : World) (o : Obj) : (w.alloc o).heap.size = w.heap.size + 1 := by simp
/-- The table, filled as far as i. -/
def tabL (i : Nat) : List Int := (List.range 16).map fun j => if j < i then ((bitsN 4 j : Nat) : Int) else 0
theorem tabL_length (i : Nat) : (tabL i).length = 16 := by simp [tabL]
def tabO (i : Nat) : Obj := .cells (nums .u32 (tabL i)).toArray 74 (0, 0)

theorem tabO_zero : tabO 0 = .cells #[.int .u32 0, .int .u32 0, .int .u32 0, .int .u32 0, .int .u32 0, .int .u32 0, .int .u32 0, .int .u32 0, .int .u32 0, .int .u32 0, .int .u32 0, .int .u32 0, .int .u32 0, .int .u32 0, .int .u32 0, .int .u32 0] 74 (0, 0) := by kernel_rfl

theorem load_tab (W : World) (b i : Nat) (h : W.heap[b]? = some (tabO i)) : (Instr.loadAt 74 (.pointer (some ⟨b, 0, none⟩))).run Try.prog W = .ok (.agg (nums .u32 (tabL i)).toArray) W := by
  have hc : (loadCells ⟨b, 0, none⟩ 16).run Try.prog W = .ok (nums .u32 (tabL i)).toArray W := by
    have := run_loadCells_list (P := Try.prog) W ⟨b, 0, none⟩ (nums .u32 (tabL i)) (fun j v hv => by
      obtain ⟨hj, rfl⟩ := List.getElem?_eq_some_iff.1 hv
      rw [add_plain, blk_cell h j]
      simp [hj])
    rwa [nums_length, tabL_length] at this
  simp [Instr.loadAt, Instr.sureAddr, loadVar, isAgg, run_underlying Try.underlying74, sizeOf, typeInfo, show Try.prog.info? 74 = some Try.t74 from rfl, show (Try.t74).size = 16 from rfl, hc]
theorem cells_tab {i : Nat} (W : World) (b : Nat) (cs : Array Value) (hn : cs.size = 16) (h : W.heap[b]? = some (.cells cs 74 (0, 0))) :
    (storeCells ⟨b, 0, none⟩ (nums .u32 (tabL i))).run Try.prog W = .ok () (W.setCells b 0 (nums .u32 (tabL i))) := by
  have hl : (nums .u32 (tabL i)).length = 16 := by rw [nums_length, tabL_length]
  have hs := run_storeCells_cells (P := Try.prog) b 0 (nums .u32 (tabL i)) 0 W (fun j hj => by rw [blk_cell h, Array.getElem?_eq_getElem (by omega)]; rfl) (fun j _ => blk_frozen h _) (fun v hv => by
    obtain ⟨q, _, rfl⟩ := List.mem_map.1 hv
    rfl)
  simpa using hs
theorem store_tab (W : World) (b i : Nat) (cs : Array Value) (hn : cs.size = 16) (h : W.heap[b]? = some (.cells cs 74 (0, 0))) :
    (Instr.storeAt 74 (.pointer (some ⟨b, 0, none⟩)) (.agg (nums .u32 (tabL i)).toArray)).run Try.prog W = .ok () (W.setCells b 0 (nums .u32 (tabL i))) := by
  have hl : (nums .u32 (tabL i)).length = 16 := by rw [nums_length, tabL_length]
  have hs := run_storeCells_cells (P := Try.prog) b 0 (nums .u32 (tabL i)) 0 W (fun j hj => by rw [blk_cell h, Array.getElem?_eq_getElem (by omega)]; rfl) (fun j _ => blk_frozen h _) (fun v hv => by
    obtain ⟨q, _, rfl⟩ := List.mem_map.1 hv
    rfl)
  simp [Instr.storeAt, Instr.sureAddr, storeVar, Value.cells, sizeOf, typeInfo, show Try.prog.info? 74 = some Try.t74 from rfl, show (Try.t74).size = 16 from rfl, hl, hs]
theorem exec_load_tab {W : World} {b i : Nat} {ρ : Operand → Value} {o : Oper} {p : Tmp} (h : W.heap[b]? = some (tabO i)) (ho : o.op = .load 74 (.tmp p)) (hp : ρ (.tmp p) = .pointer (some ⟨b, 0, none⟩)) : (execOp ρ o).run Try.prog W = .ok (.value (.agg (nums .u32 (tabL i)).toArray)) W := by
  simp [execOp, ho, hp, load_tab W b i h]
theorem exec_store_tab {W : World} {b i : Nat} {cs : Array Value} {ρ : Operand → Value} {o : Oper} {p : Tmp} {v : Operand} (hn : cs.size = 16) (h : W.heap[b]? = some (.cells cs 74 (0, 0))) (ho : o.op = .store 74 (.tmp p) v) (hp : ρ (.tmp p) = .pointer (some ⟨b, 0, none⟩)) (hv : ρ v = .agg (nums .u32 (tabL i)).toArray) :
    (execOp ρ o).run Try.prog W = .ok .skip (W.setCells b 0 (nums .u32 (tabL i))) := by
  simp [execOp, ho, hp, hv, store_tab W b i cs hn h]

theorem tab_set (i : Nat) (hi : i < 16) : ((nums .u32 (tabL i)).toArray.setIfInBounds i (.int .u32 ((bitsN 4 i : Nat) : Int))) = (nums .u32 (tabL (i + 1))).toArray := by
  apply Array.ext'
  simp only [Array.toList_setIfInBounds]
  apply List.ext_getElem?
  intro j
  rw [List.getElem?_set]
  simp only [nums, tabL, List.getElem?_map, List.length_map, List.length_range]
  by_cases h : i = j
  · subst h
    simp [hi]
  · rw [if_neg h]
    by_cases hj : j < 16
    · simp [hj, show (j < i + 1) ↔ (j < i) from by omega]
    · simp [hj]
theorem bit_int (n : Nat) (h : n < 4294967296) : Go.bits .xor .u32 ((n : Int) / 2) (Go.bits .and .u32 2197175160 (-(Go.bits .and .u32 (n : Int) 1) % 4294967296)) = ((bitN n : Nat) : Int) := by
  have e1 : Go.bits .and .u32 (n : Int) 1 = ((n % 2 : Nat) : Int) := by
    rw [show (1 : Int) = ((1 : Nat) : Int) from rfl, Go.u32_and_nat n 1 h (by omega), Go.nat_mask1]
  have e2 : (n : Int) / 2 = ((n / 2 : Nat) : Int) := by omega
  rw [e1, e2]
  unfold bitN
  rcases Nat.mod_two_eq_zero_or_one n with h2 | h2
  · rw [h2, show Go.bits .and .u32 2197175160 (-((0 : Nat) : Int) % 4294967296) = ((0 : Nat) : Int) from by decide +kernel, Go.u32_xor_nat _ 0 (by omega) (by omega)]
    simp
  · rw [h2, show Go.bits .and .u32 2197175160 (-((1 : Nat) : Int) % 4294967296) = ((polyN : Nat) : Int) from by decide +kernel, Go.u32_xor_nat _ polyN (by omega) (by decide)]
    simp

theorem table_results {W : World} {g : Nat} (h : W.heap[g]? = some (.cells (nums .u32 (tabL 16)).toArray 74 (0, 0))) (tmps : Array Value) (hp : tmps.getD 0 undef = .pointer (some ⟨g, 0, none⟩)) :
    (results Try.f39 tmps).run Try.prog W = .ok (.agg (nums .u32 (tabL 16)).toArray) W := by
  have hi : (Try.prog.info? 74).map (·.size) = some (nums .u32 (tabL 16)).toArray.size := by
    rw [List.size_toArray, nums_length, tabL_length]
    rfl
  generalize (nums .u32 (tabL 16)).toArray = cs at h hi
  exact results_cell_row rfl tmps W g 74 cs (0, 0) _ hp h Try.underlying74 rfl hi
set_option maxHeartbeats 400000 in
set_option maxRecDepth 100000 in
theorem table_calls (w : World) : Calls Try.prog 39 #[] w fun e w' => e = .returned (.agg (nums .u32 (tabL 16)).toArray) ∧ Below w.heap.size w w' := by
  go_enter Try.func39, Try.ntmps39
  go_wp2
  go_loopg [4] 16 (fun kq v4 w' => ∃ (i : Nat), v4 = .int .i64 (i : Int) ∧ Aside0 (i ≤ 16 ∧ 16 - i ≤ kq) ∧ Aside0 (w'.heap[w.heap.size]? = some (tabO 0)) ∧ Aside0 (w'.heap[w.heap.size + 1]? = some (tabO i)) ∧ Aside0 (Below w.heap.size w w'))
  case atStart =>
    refine ⟨0, rfl, ⟨by omega, by omega⟩, ⟨?_⟩, ⟨?_⟩, ⟨?_⟩⟩
    · rw [tabO_zero]; exact blk_alloc (blk_new _ _) _
    · have h2 := fun X Y => blk_new (w.alloc X) Y
      simp only [alloc_size] at h2
      rw [tabO_zero]; exact h2 _ _
    · exact below_alloc (below_alloc (Below.refl _ _) _) _
  case round =>
    obtain ⟨i, rfl, HI, HC, HT, HB⟩ := hrel
    by_cases c1 : (i : Int) < 16
    · have d1 : decide ((i : Int) < 16) = true := decide_eq_true c1
      have hi16 : i < 16 := by omega
      go_wp2
      go_loopg [3, 9] 4 (fun kq v3 v9 w' => ∃ (j : Nat), v9 = .int .i64 (j : Int) ∧ v3 = .int .u32 ((bitsN j i : Nat) : Int) ∧ Aside0 (j ≤ 4 ∧ 4 - j ≤ kq) ∧ w' = wr)
      case atStart => exact ⟨0, rfl, rfl, ⟨by omega, by omega⟩, rfl⟩
      case round =>
        obtain ⟨j, rfl, rfl, HJ, rfl⟩ := hrel
        by_cases c2 : (j : Int) < 4
        · have d2 : decide ((j : Int) < 4) = true := decide_eq_true c2
          go_wp2
          have hlt : bitsN j i < 4294967296 := bitsN_lt j (by omega)
          rw [bit_int _ hlt, ← bitsN_snoc]
          go_roundg (3 - j)
          case measure => have := HJ.out; omega
          case rel => exact ⟨j + 1, by simp, rfl, ⟨by omega, by omega⟩, rfl⟩
        · have d2 : decide ((j : Int) < 4) = false := decide_eq_false c2
          have hj4 : j = 4 := by have := HJ.out; omega
          subst hj4
          have hcl := blk_cell16 HT.out i (by rw [tabL_length]; exact hi16)
          have hfr := blk_frozen HT.out i
          go_wp2
          go_roundg (15 - i)
          case measure => have := HI.out; omega
          case rel =>
            refine ⟨i + 1, by simp, ⟨by omega, by omega⟩, ⟨?_⟩, ⟨?_⟩, ⟨?_⟩⟩
            · exact (Below.heap_setCell _ ⟨w.heap.size + 1, i, none⟩ _ _ (by simp)).trans HC.out
            · have := blk_set HT.out i (.int .u32 ((bitsN 4 i : Nat) : Int))
              rw [tab_set i hi16] at this
              exact this
            · exact HB.out.setCell (p := ⟨w.heap.size + 1, i, none⟩) (by simp) _
    · have d1 : decide ((i : Int) < 16) = false := decide_eq_false c1
      have hi16 : i = 16 := by have := HI.out; omega
      subst hi16
      go_wp2_with (first | ((with_reducible refine gate_dst (N := 23) rfl ?_); refine Kd.event_run (v := .agg (nums .u32 (tabL 16)).toArray) (w1 := wr) ?hg ?hr ?_; (case hg => rfl); (case hr => exact exec_load_tab HT.out rfl rfl)) | ((with_reducible refine gate_store (t := 74) (p := 0) rfl ?_); refine store_event (t := 74) (p := 0) (v := ?vo_) (w1 := wr.setCells w.heap.size 0 (nums .u32 (tabL 16))) ?hg ?ho ?hn ?hr ?_; (case ho => rfl); (case hg => rfl); (case hn => rfl); (case hr => exact exec_store_tab (by simp [nums, tabL]) HC.out rfl rfl rfl); intro w48 hw; subst hw))
      have hfin : (wr.setCells w.heap.size 0 (nums .u32 (tabL 16))).heap[w.heap.size]? = some (.cells (nums .u32 (tabL 16)).toArray 74 (0, 0)) := heap_setCells _ _ _ _ _ (by simp [nums, tabL]) HC.out
      have hbel : Below w.heap.size w (wr.setCells w.heap.size 0 (nums .u32 (tabL 16))) := below_setCells _ (Nat.le_refl _) _ _ _ HB.out
      refine bodyPost_ret (v := .agg (nums .u32 (tabL 16)).toArray) ?_ ?_ ?_
      · exact table_results hfin _ (by simp)
      · rfl
      · exact ⟨rfl, hbel⟩

theorem tab_get (j : Nat) (hj : j < (tabL 16).length) : (tabL 16)[j] = ((bitsN 4 j : Nat) : Int) := by
  have : j < 16 := by rw [tabL_length] at hj; exact hj
  simp [tabL, this]
/-- Four bits at once, by the table. -/
theorem nibble {W : World} {g : Nat} (h : W.heap[g]? = some (tabO 16)) (X : Nat) (hX : X < 4294967296) :
    ∃ y t m : Nat, Go.bits .and .u32 (X : Int) 15 = (y : Int) ∧ y < 16 ∧ W.cell? ⟨g, y, none⟩ = some (.int .u32 (t : Int)) ∧ Go.bits .xor .u32 ((X : Int) / 16) (t : Int) = (m : Int) ∧ m = bitsN 4 X := by
  refine ⟨X % 16, bitsN 4 (X % 16), bitsN 4 X, ?_, by omega, ?_, ?_, rfl⟩
  · rw [show (15 : Int) = ((15 : Nat) : Int) from rfl, Go.u32_and_nat X 15 hX (by omega), Go.nat_mask4]
  · rw [blk_cell16 h (X % 16) (by rw [tabL_length]; omega), tab_get]
  · rw [show (X : Int) / 16 = ((X / 16 : Nat) : Int) from by omega, Go.u32_xor_nat _ _ (by omega) (bitsN_lt 4 (by omega)), bitsN_low 4 X]
/-- crc.More. -/
def moreF (s : Int) (l : List Int) : Option Int := if (0 ≤ s ∧ s < 4294967296) ∧ (∀ x ∈ l, 0 ≤ x ∧ x < 256) ∧ l.length ≤ 140737488355328 then some ((moreN s.toNat l : Nat) : Int) else none

set_option maxHeartbeats 800000 in
set_option maxRecDepth 100000 in
theorem more_calls (a0 : Int) (A1 : Option Addr) (c1 : Nat) (l1 : List Int) (r : Int) (w : World) (hr1 : Kd.C (Kd.int .u8) w A1 l1.length l1) (hc1 : l1.length ≤ c1) (h : moreF a0 l1 = some r) :
    Calls Try.prog 38 #[.int .u32 a0, .slice A1 l1.length c1] w fun e w' => e = .returned (.int .u32 r) ∧ Below w.heap.size w w' := by
  unfold moreF at h
  by_cases hc : (0 ≤ a0 ∧ a0 < 4294967296) ∧ (∀ x ∈ l1, 0 ≤ x ∧ x < 256) ∧ l1.length ≤ 140737488355328
  · rw [if_pos hc] at h
    obtain ⟨⟨h0, h1⟩, hl, hm⟩ := hc
    obtain rfl := Option.some.inj h
    clear h
    obtain ⟨s, rfl⟩ := Int.eq_ofNat_of_zero_le h0
    have HS := Aside0.mk h1
    have HL := Aside0.mk hl
    have HM := Aside0.mk hm
    clear h0 h1 hl hm
    rw [Int.toNat_natCast]
    go_enter Try.func38, Try.ntmps38
    go_wp2_with (first | (go_at_call 39; refine (table_calls _).mono ?_; rintro e w1 ⟨rfl, hb⟩; have HB1 := Aside0.mk hb; clear hb; have hst1 := cells_tab (i := 16) (w1.alloc (.cells #[.int .u32 0, .int .u32 0, .int .u32 0, .int .u32 0, .int .u32 0, .int .u32 0, .int .u32 0, .int .u32 0, .int .u32 0, .int .u32 0, .int .u32 0, .int .u32 0, .int .u32 0, .int .u32 0, .int .u32 0, .int .u32 0] 74 (0, 0))) w1.heap.size #[.int .u32 0, .int .u32 0, .int .u32 0, .int .u32 0, .int .u32 0, .int .u32 0, .int .u32 0, .int .u32 0, .int .u32 0, .int .u32 0, .int .u32 0, .int .u32 0, .int .u32 0, .int .u32 0, .int .u32 0, .int .u32 0] rfl (blk_new w1 _)))
    clear hst1
    have hT : ((w1.alloc (.cells #[.int .u32 0, .int .u32 0, .int .u32 0, .int .u32 0, .int .u32 0, .int .u32 0, .int .u32 0, .int .u32 0, .int .u32 0, .int .u32 0, .int .u32 0, .int .u32 0, .int .u32 0, .int .u32 0, .int .u32 0, .int .u32 0] 74 (0, 0))).setCells w1.heap.size 0 (nums .u32 (tabL 16))).heap[w1.heap.size]? = some (tabO 16) := heap_setCells _ _ _ #[.int .u32 0, .int .u32 0, .int .u32 0, .int .u32 0, .int .u32 0, .int .u32 0, .int .u32 0, .int .u32 0, .int .u32 0, .int .u32 0, .int .u32 0, .int .u32 0, .int .u32 0, .int .u32 0, .int .u32 0, .int .u32 0] _ (by rw [nums_length, tabL_length]; rfl) (blk_new w1 _)
    have hB : Below w.heap.size w ((w1.alloc (.cells #[.int .u32 0, .int .u32 0, .int .u32 0, .int .u32 0, .int .u32 0, .int .u32 0, .int .u32 0, .int .u32 0, .int .u32 0, .int .u32 0, .int .u32 0, .int .u32 0, .int .u32 0, .int .u32 0, .int .u32 0, .int .u32 0] 74 (0, 0))).setCells w1.heap.size 0 (nums .u32 (tabL 16))) := below_setCells _ HB1.out.size _ _ _ (HB1.out.alloc HB1.out.size _)
    generalize (w1.alloc (.cells #[.int .u32 0, .int .u32 0, .int .u32 0, .int .u32 0, .int .u32 0, .int .u32 0, .int .u32 0, .int .u32 0, .int .u32 0, .int .u32 0, .int .u32 0, .int .u32 0, .int .u32 0, .int .u32 0, .int .u32 0, .int .u32 0] 74 (0, 0))).setCells w1.heap.size 0 (nums .u32 (tabL 16)) = W2 at hT hB ⊢
    have HR := Aside0.mk (Kd.C_below hr1 hB)
    have HT := Aside0.mk hT
    have HB := Aside0.mk hB
    clear hT hB hr1
    go_loopg [6, 14] l1.length (fun kq v6 v14 w' => ∃ (i n : Nat), v14 = .int .i64 (i : Int) ∧ v6 = .int .u32 (n : Int) ∧ Aside0 (i ≤ l1.length ∧ l1.length - i ≤ kq ∧ n < 4294967296 ∧ sumN n (l1.drop i) = sumN (s ^^^ ones) l1) ∧ w' = W2)
    case atStart =>
      refine ⟨0, s ^^^ ones, rfl, ?_, ⟨by omega, by omega, Nat.xor_lt_two_pow (n := 32) (by have := HS.out; omega) (by decide), by rw [List.drop_zero]⟩, rfl⟩
      rw [show IntKind.u32.max = ((ones : Nat) : Int) from by decide, Go.u32_xor_nat ones s (by decide) (by have := HS.out; omega), Nat.xor_comm]
    case round =>
      obtain ⟨i, n, rfl, rfl, HI, rfl⟩ := hrel
      by_cases c2 : (i : Int) < (l1.length : Int)
      · have d2 : decide ((i : Int) < (l1.length : Int)) = true := decide_eq_true c2
        have hlt : i < l1.length := by omega
        obtain ⟨ad, rfl, hcell⟩ := Kd.at_int HR.out (i : Int) (by omega) c2
        obtain ⟨c, hce⟩ := Int.eq_ofNat_of_zero_le (HL.out l1[i] (List.getElem_mem hlt)).1
        have hc2 := (HL.out l1[i] (List.getElem_mem hlt)).2
        rw [hce] at hc2
        have hrd : rd l1 (i : Int) = (c : Int) := by
          unfold rd
          rw [Int.toNat_natCast, List.getD_eq_getElem?_getD, List.getElem?_eq_getElem hlt, hce]
          rfl
        rw [hrd, Int.toNat_natCast] at hcell
        have hdr := List.drop_eq_getElem_cons hlt
        rw [hce] at hdr
        have HD := Aside0.mk hdr
        have HC2 := Aside0.mk hc2
        have hn := HI.out.2.2.1
        have e1 : Go.bits .xor .u32 (n : Int) ((c : Int) % 4294967296) = ((n ^^^ c : Nat) : Int) := by
          rw [show (c : Int) % 4294967296 = (c : Int) from by omega, Go.u32_xor_nat n c hn (by omega)]
        have hX : n ^^^ c < 4294967296 := Nat.xor_lt_two_pow (n := 32) hn (by omega)
        obtain ⟨X, hXe⟩ : ∃ X, n ^^^ c = X := ⟨_, rfl⟩
        rw [hXe] at e1 hX
        obtain ⟨y, t, m, f1, f2, f3, f4, f5⟩ := nibble HT.out X hX
        have hm : m < 4294967296 := by rw [f5]; exact bitsN_lt 4 hX
        obtain ⟨y2, t2, m2, k1, k2, k3, k4, k5⟩ := nibble HT.out m hm
        have HM2 := Aside0.mk (show m2 = stepN n c from by rw [k5, f5, ← bitsN_add, ← hXe]; rfl)
        have HM3 := Aside0.mk (show m2 < 4294967296 from by rw [k5]; exact bitsN_lt 4 hm)
        have f2' : decide ((y : Int) < 16) = true := decide_eq_true (by omega)
        have k2' : decide ((y2 : Int) < 16) = true := decide_eq_true (by omega)
        clear hce hc2 hrd hdr hn hX hXe hm f5 k5 hlt
        go_wp2
        have hM := HM.out
        have hlt2 : i < l1.length := by omega
        rw [show wrap64 ((i : Int) + 1) = ((i + 1 : Nat) : Int) from by unfold wrap64; omega]
        go_roundg (l1.length - 1 - i)
        case measure => have := HI.out; omega
        case rel =>
          refine ⟨i + 1, m2, rfl, rfl, ⟨by omega, by omega, HM3.out, ?_⟩, rfl⟩
          have h9 := HI.out.2.2.2
          rw [HD.out] at h9
          rw [← h9, HM2.out]
          rfl
      · have d2 : decide ((i : Int) < (l1.length : Int)) = false := decide_eq_false c2
        go_wp2
        go_ret
        refine ⟨?_, HB.out⟩
        have h9 := HI.out.2.2.2
        have hn := HI.out.2.2.1
        rw [List.drop_of_length_le (by omega)] at h9
        rw [show IntKind.u32.max = ((ones : Nat) : Int) from by decide, Go.u32_xor_nat ones n (by decide) hn, Nat.xor_comm]
        unfold moreN
        rw [← h9]
        rfl
  · rw [if_neg hc] at h
    cases h
end Go.Proofs.Ytcnapbpljghfoaa.Hand

/- Plain facts on rows of bytes and on whole numbers of a kind, without any program. -/
namespace Go.Proofs.Ytcnapbpljghfoaa.Plain
open Go.RowKit Go.Proofs.YtcnapbpljghfoaaW.PrintWords Go.Proofs.YtcnapbpljghfoaaW.PrintLast Go.Proofs.YtcnapbpljghfoaaW.PrintMore
set_option linter.unusedVariables false
set_option linter.unusedSimpArgs false

def isB (l : List Int) : Prop := ∀ x ∈ l, 0 ≤ x ∧ x < 256
theorem w64 {x : Int} (h0 : -9223372036854775808 ≤ x) (h1 : x < 9223372036854775808) : wrap64 x = x := by unfold wrap64; omega
theorem wrap_u64 (n : Int) : IntKind.u64.wrap n = n % 18446744073709551616 := by simp [IntKind.wrap, IntKind.bits, IntKind.signed]
theorem rd_at (l : List Int) (i : Nat) (h : i < l.length) : rd l (i : Int) = l[i] := by
  unfold rd
  rw [Int.toNat_natCast, List.getD_eq_getElem?_getD, List.getElem?_eq_getElem h]
  rfl

theorem isB_drop {l : List Int} (h : isB l) (i : Nat) : isB (l.drop i) := fun x hx => h x (List.mem_of_mem_drop hx)
theorem isB_take {l : List Int} (h : isB l) (i : Nat) : isB (l.take i) := fun x hx => h x (List.mem_of_mem_take hx)
theorem isB_append {l r : List Int} (h : isB l) (h' : isB r) : isB (l ++ r) := fun x hx => (List.mem_append.1 hx).elim (h x) (h' x)
theorem isB_bytesOf (s : ByteArray) : isB (bytesOf s) := by
  intro x hx
  obtain ⟨b, _, rfl⟩ := List.mem_map.1 hx
  have := b.toNat_lt
  omega
theorem bytesOf_strOfNums {l : List Int} (h : isB l) : bytesOf (strOfNums l) = l := by
  unfold bytesOf
  rw [strOfNums_data, List.map_map]
  conv => rhs; rw [← List.map_id l]
  refine List.map_congr_left fun x hx => ?_
  have := h x hx
  show (((UInt8.ofNat x.toNat).toNat : Nat) : Int) = x
  rw [UInt8.toNat_ofNat']
  omega
theorem strOfNums_inj {l r : List Int} (h : isB l) (h' : isB r) (e : (strOfNums l).toList = (strOfNums r).toList) : l = r := by
  have := congrArg (fun s : List UInt8 => s.map fun b => (b.toNat : Int)) e
  rw [ByteArray.toList_eq, ByteArray.toList_eq] at this
  have e2 : bytesOf (strOfNums l) = bytesOf (strOfNums r) := this
  rwa [bytesOf_strOfNums h, bytesOf_strOfNums h'] at e2
theorem strOfNums_append (l r : List Int) : strOfNums l ++ strOfNums r = strOfNums (l ++ r) := by
  apply ByteArray.ext
  rw [ByteArray.data_append]
  apply Array.ext'
  simp [strOfNums]

theorem wf_i64 {a : Int} (h : (Lit.int .i64 a).wf = true) : -9223372036854775808 ≤ a ∧ a < 9223372036854775808 := by
  have h : IntKind.i64.min ≤ a ∧ a ≤ IntKind.i64.max := by simpa [Lit.wf] using h
  rw [show IntKind.i64.min = -9223372036854775808 from by decide, show IntKind.i64.max = 9223372036854775807 from by decide] at h
  omega
theorem wf_u64 {a : Int} (h : (Lit.int .u64 a).wf = true) : 0 ≤ a ∧ a < 18446744073709551616 := by
  have h : IntKind.u64.min ≤ a ∧ a ≤ IntKind.u64.max := by simpa [Lit.wf] using h
  rw [show IntKind.u64.min = 0 from by decide, show IntKind.u64.max = 18446744073709551615 from by decide] at h
  omega
theorem wf_u8 {a : Int} (h : (Lit.int .u8 a).wf = true) : 0 ≤ a ∧ a < 256 := by
  have h : IntKind.u8.min ≤ a ∧ a ≤ IntKind.u8.max := by simpa [Lit.wf] using h
  rw [show IntKind.u8.min = 0 from by decide, show IntKind.u8.max = 255 from by decide] at h
  omega

theorem wf_u32 {a : Int} (h : (Lit.int .u32 a).wf = true) : 0 ≤ a ∧ a < 4294967296 := by
  have h : IntKind.u32.min ≤ a ∧ a ≤ IntKind.u32.max := by simpa [Lit.wf] using h
  rw [show IntKind.u32.min = 0 from by decide, show IntKind.u32.max = 4294967295 from by decide] at h
  omega
/-- A row of low bits, taken out of a whole number. -/
theorem and_low (a : Int) (j : Nat) (hj : j < 63) : Go.bits .and .i64 a ((2 ^ j - 1 : Nat) : Int) = a % ((2 ^ j : Nat) : Int) := by
  show IntKind.i64.wrap ((BitVec.ofInt 64 a &&& BitVec.ofInt 64 ((2 ^ j - 1 : Nat) : Int)).toNat : Int) = _
  have hp : 2 ^ j ≤ 2 ^ 62 := Nat.pow_le_pow_right (by omega) (by omega)
  have hp0 : 0 < 2 ^ j := Nat.pow_pos (by omega)
  have e : (BitVec.ofInt 64 a &&& BitVec.ofInt 64 ((2 ^ j - 1 : Nat) : Int)).toNat = (a % 18446744073709551616).toNat % 2 ^ j := by
    rw [BitVec.toNat_and, BitVec.toNat_ofInt, Go.ofInt_u64 _ (by omega)]
    exact Nat.and_two_pow_sub_one_eq_mod _ j
  have hd : (2 : Int) ^ 64 = ((2 ^ j : Nat) : Int) * ((2 ^ (64 - j) : Nat) : Int) := by
    rw [← Int.natCast_mul, ← Nat.pow_add, show j + (64 - j) = 64 from by omega]
    rfl
  have hm : a % 18446744073709551616 % ((2 ^ j : Nat) : Int) = a % ((2 ^ j : Nat) : Int) := by
    refine Int.emod_emod_of_dvd a ⟨((2 ^ (64 - j) : Nat) : Int), ?_⟩
    rw [← hd]
    rfl
  have h0 : 0 ≤ a % ((2 ^ j : Nat) : Int) := Int.emod_nonneg _ (by omega)
  have h1 : a % ((2 ^ j : Nat) : Int) < ((2 ^ j : Nat) : Int) := Int.emod_lt_of_pos _ (by omega)
  rw [e]
  have e2 : (((a % 18446744073709551616).toNat % 2 ^ j : Nat) : Int) = a % ((2 ^ j : Nat) : Int) := by
    rw [Int.natCast_emod, Int.toNat_of_nonneg (by omega), hm]
  rw [e2, Go.IntKind.wrap_i64]
  generalize a % ((2 ^ j : Nat) : Int) = q at h0 h1
  generalize 2 ^ j = p at hp h1
  omega
end Go.Proofs.Ytcnapbpljghfoaa.Plain

/- The contract, proved by hand, of concordanceref1.Sum: the document's sum of a string's bytes, bit by bit: moreN 0. -/
namespace Go.Proofs.Ytcnapbpljghfoaa.Hand
open Go.RowKit Go.Proofs.YtcnapbpljghfoaaW.PrintWords Go.Proofs.YtcnapbpljghfoaaW.PrintLast Go.Proofs.YtcnapbpljghfoaaW.PrintMore
open Go.Proofs.Ytcnapbpljghfoaa.Plain
set_option linter.unusedVariables false
set_option linter.unusedSimpArgs false

def refsumF (s : ByteArray) : Option Int := if s.size ≤ 140737488355328 then some ((moreN 0 (bytesOf s) : Nat) : Int) else none
theorem bit_odd (n : Nat) (h : n < 4294967296) (ho : n % 2 = 1) : Go.bits .xor .u32 ((n : Int) / 2) 2197175160 = ((bitN n : Nat) : Int) := by
  rw [show (n : Int) / 2 = ((n / 2 : Nat) : Int) from by omega, show (2197175160 : Int) = ((polyN : Nat) : Int) from by decide, Go.u32_xor_nat _ polyN (by omega) (by decide)]
  unfold bitN
  rw [if_pos ho]
theorem bit_even (n : Nat) (ho : ¬ n % 2 = 1) : (n : Int) / 2 = ((bitN n : Nat) : Int) := by
  unfold bitN
  rw [if_neg ho, Nat.xor_zero]
  omega
set_option maxHeartbeats 800000 in
set_option maxRecDepth 100000 in
theorem refsum_calls (s : ByteArray) (r : Int) (w : World) (h : refsumF s = some r) :
    Calls Try.prog 36 #[.string s] w fun e w' => e = .returned (.int .u32 r) ∧ Drawn0 w w' := by
  unfold refsumF at h
  by_cases hs : s.size ≤ 140737488355328
  · rw [if_pos hs] at h
    obtain rfl := Option.some.inj h
    clear h
    have HS := Aside0.mk hs
    have HL := Aside0.mk (isB_bytesOf s)
    have HN := Aside0.mk (bytesOf_length s)
    clear hs
    go_enter Try.func36, Try.ntmps36
    go_wp2
    go_loopg [3, 4] s.size (fun kq v3 v4 w' => ∃ (i n : Nat), v4 = .int .i64 (i : Int) ∧ v3 = .int .u32 (n : Int) ∧ Aside0 (i ≤ s.size ∧ s.size - i ≤ kq ∧ n < 4294967296 ∧ sumN n ((bytesOf s).drop i) = sumN ones (bytesOf s)) ∧ w' = w)
    case atStart => exact ⟨0, ones, rfl, rfl, ⟨by omega, by omega, by decide, by rw [List.drop_zero]⟩, rfl⟩
    case round =>
      obtain ⟨i, n, rfl, rfl, HI, rfl⟩ := hrel
      by_cases c2 : (i : Int) < (s.size : Int)
      · have d2 : decide ((i : Int) < (s.size : Int)) = true := decide_eq_true c2
        have hlt : i < s.size := by omega
        have hbl : i < (bytesOf s).length := by have := HN.out; omega
        have hby : (bytesOf s)[i] = ((s[i].toNat : Nat) : Int) := by
          simp only [bytesOf, List.getElem_map, Array.getElem_toList]
          rfl
        have hdr := List.drop_eq_getElem_cons hbl
        rw [hby] at hdr
        have hc2 : s[i].toNat < 256 := s[i].toNat_lt
        obtain ⟨c, hce⟩ : ∃ c, s[i].toNat = c := ⟨_, rfl⟩
        rw [hce] at hdr hc2
        have hn := HI.out.2.2.1
        have e1 : Go.bits .xor .u32 (n : Int) ((c : Int) % 4294967296) = ((n ^^^ c : Nat) : Int) := by
          rw [show (c : Int) % 4294967296 = (c : Int) from by omega, Go.u32_xor_nat n c hn (by omega)]
        have HX := Aside0.mk (show n ^^^ c < 4294967296 from Nat.xor_lt_two_pow (n := 32) hn (by omega))
        have HD := Aside0.mk hdr
        clear hby hdr hc2 hn hbl
        go_wp2
        (try simp only [hce, e1])
        clear e1
        go_loopg [3, 5] 8 (fun kq v3 v5 w' => ∃ (j : Nat), v5 = .int .i64 (j : Int) ∧ v3 = .int .u32 ((bitsN j (n ^^^ c) : Nat) : Int) ∧ Aside0 (j ≤ 8 ∧ 8 - j ≤ kq) ∧ w' = wr)
        case atStart => exact ⟨0, rfl, rfl, ⟨by omega, by omega⟩, rfl⟩
        case round =>
          obtain ⟨j, rfl, rfl, HJ, rfl⟩ := hrel
          have hm := bitsN_lt j HX.out
          by_cases c3 : (j : Int) < 8
          · have d3 : decide ((j : Int) < 8) = true := decide_eq_true c3
            have HJ8 := Aside0.mk (show j < 8 by omega)
            have hsn := bitsN_snoc j (n ^^^ c)
            have hand : Go.bits .and .u32 ((bitsN j (n ^^^ c) : Nat) : Int) 1 = ((bitsN j (n ^^^ c) % 2 : Nat) : Int) := by
              rw [show (1 : Int) = ((1 : Nat) : Int) from rfl, Go.u32_and_nat _ 1 hm (by omega), Go.nat_mask1]
            rcases Nat.mod_two_eq_zero_or_one (bitsN j (n ^^^ c)) with ho | ho
            · have hev := bit_even (bitsN j (n ^^^ c)) (by omega)
              rw [ho] at hand
              have hand2 : (Go.bits .and .u32 ((bitsN j (n ^^^ c) : Nat) : Int) 1 == 1) = false := by rw [hand]; rfl
              clear hand ho
              go_wp2
              have HSN := Aside0.mk hsn
              clear hsn
              rw [← HSN.out]
              go_roundg (7 - j)
              case measure => have := HJ.out; have := HJ8.out; omega
              case rel => exact ⟨j + 1, by simp, rfl, ⟨HJ8.out, by have := HJ8.out; omega⟩, rfl⟩
            · have hod := bit_odd (bitsN j (n ^^^ c)) hm ho
              rw [ho] at hand
              have hand2 : (Go.bits .and .u32 ((bitsN j (n ^^^ c) : Nat) : Int) 1 == 1) = true := by rw [hand]; rfl
              clear hand ho
              go_wp2
              have HSN := Aside0.mk hsn
              clear hsn
              rw [← HSN.out]
              go_roundg (7 - j)
              case measure => have := HJ.out; have := HJ8.out; omega
              case rel => exact ⟨j + 1, by simp, rfl, ⟨HJ8.out, by have := HJ8.out; omega⟩, rfl⟩
          · have d3 : decide ((j : Int) < 8) = false := decide_eq_false c3
            obtain rfl : j = 8 := by have := HJ.out; omega
            go_wp2
            rw [show wrap64 ((i : Int) + 1) = ((i + 1 : Nat) : Int) from by have := HS.out; clear HJ HD; unfold wrap64; omega]
            go_roundg (s.size - 1 - i)
            case measure => have := HI.out.1; have := HI.out.2.1; omega
            case rel =>
              refine ⟨i + 1, bitsN 8 (n ^^^ c), rfl, rfl, ⟨hlt, by omega, bitsN_lt 8 HX.out, ?_⟩, rfl⟩
              have h9 := HI.out.2.2.2
              rw [HD.out] at h9
              rw [← h9]
              rfl
      · have d2 : decide ((i : Int) < (s.size : Int)) = false := decide_eq_false c2
        go_wp2
        go_ret
        refine ⟨?_, Drawn0.refl _⟩
        have h9 := HI.out.2.2.2
        have hn := HI.out.2.2.1
        have hln := HN.out
        rw [List.drop_of_length_le (by omega)] at h9
        rw [show IntKind.u32.max = ((ones : Nat) : Int) from by decide, Go.u32_xor_nat ones n (by decide) hn, Nat.xor_comm]
        unfold moreN
        rw [Nat.zero_xor, ← h9]
        rfl
  · rw [if_neg hs] at h
    cases h
end Go.Proofs.Ytcnapbpljghfoaa.Hand

/- Printed by a program of this session (drv.py) from the translation of this seat: functions, their contracts, rows. -/
namespace Go.Proofs.Ytcnapbpljghfoaa.PCrc
open Go.RowKit Go.Proofs.YtcnapbpljghfoaaW.PrintWords Go.Proofs.YtcnapbpljghfoaaW.PrintLast Go.Proofs.YtcnapbpljghfoaaW.PrintMore
attribute [local go_sem] max2_int min2_int max_two min_two max_three min_three max_four min_four   -- for this text's walks alone
set_option linter.unusedVariables false
set_option linter.unusedSimpArgs false

/-! ### concordanceref1_Sum: function 36 (by hand) -/
def concordanceref1_Sum.f (a0 : ByteArray) : Option (Int) := Go.Proofs.Ytcnapbpljghfoaa.Hand.refsumF a0
theorem concordanceref1_Sum.calls (a0 : ByteArray) (r : Int) (w : World) (h : concordanceref1_Sum.f a0 = some r) :
    Calls Try.prog 36 #[.string a0] w fun e w' => e = .returned (.int .u32 r) ∧ Drawn0 w w' :=
  Go.Proofs.Ytcnapbpljghfoaa.Hand.refsum_calls _ _ _ h

end Go.Proofs.Ytcnapbpljghfoaa.PCrc

/- Printed by a program of this session (drv.py) from the translation of this seat: functions, their contracts, rows. -/
namespace Go.Proofs.Ytcnapbpljghfoaa.PCrc
open Go.RowKit Go.Proofs.YtcnapbpljghfoaaW.PrintWords Go.Proofs.YtcnapbpljghfoaaW.PrintLast Go.Proofs.YtcnapbpljghfoaaW.PrintMore
attribute [local go_sem] max2_int min2_int max_two min_two max_three min_three max_four min_four   -- for this text's walks alone
set_option linter.unusedVariables false
set_option linter.unusedSimpArgs false

/-! ### concordanceref1_Seal: function 24 -/
def concordanceref1_Seal.f (a0 : ByteArray) : Option (ByteArray) := (concordanceref1_Sum.f a0).bind fun t148 => ((concordanceref1_four.f t148).bind fun t149 => (if a0.size + t149.size ≤ 9223372036854775807 then (some (a0 ++ t149)) else (none)))
set_option maxHeartbeats 8000000 in
set_option maxRecDepth 100000 in
theorem concordanceref1_Seal.calls (a0 : ByteArray) (r : ByteArray) (w : World) (h : concordanceref1_Seal.f a0 = some r) :
    Calls Try.prog 24 #[.string a0] w fun e w' => e = .returned (.string r) ∧ Below w.heap.size w w' := by
  have HB := Aside0.mk (Below.refl w.heap.size w)
  have H : ((concordanceref1_Sum.f a0).bind fun t148 => ((concordanceref1_four.f t148).bind fun t149 => (if a0.size + t149.size ≤ 9223372036854775807 then (some (a0 ++ t149)) else (none)))) = some r := h
  clear h
  replace H := Option.bind_eq_some_iff.mp H
  obtain ⟨t148, A20, H⟩ := H
  replace H : ((concordanceref1_four.f t148).bind fun t149 => (if a0.size + t149.size ≤ 9223372036854775807 then (some (a0 ++ t149)) else (none))) = some r := H
  have A2 := Aside0.mk A20
  clear A20
  replace H := Option.bind_eq_some_iff.mp H
  obtain ⟨t149, A30, H⟩ := H
  replace H : (if a0.size + t149.size ≤ 9223372036854775807 then (some (a0 ++ t149)) else (none)) = some r := H
  have A3 := Aside0.mk A30
  clear A30
  by_cases c4 : a0.size + t149.size ≤ 9223372036854775807
  · rw [if_pos c4] at H
    have c4b0 := eq_true c4
    have c4b1 : decide (a0.size + t149.size ≤ 9223372036854775807) = true := decide_eq_true c4
    try have c4b2 : (9223372036854775807 < a0.size + t149.size) = False := eq_false (Nat.not_lt.2 c4)
    obtain rfl := Option.some.inj H
    go_enter Try.func24, Try.ntmps24
    go_wp2_with (first | ((with_reducible refine gate_callee (f := 36) rfl ?_); refine goesL_ (some 5) rfl rfl Try.func36 (by kernel_rfl) rfl #[.string a0] rfl (by (try simp only [List.map_toArray, List.map_cons, List.map_nil]); first | done | rfl | (simp only [List.length_drop, List.length_take]; rfl)) ?_; (with_reducible refine (concordanceref1_Sum.calls a0 t148 _ A2.out).mono ?_); rintro e w' ⟨rfl, ⟨nd, rfl⟩⟩; refine ⟨_, rfl, ?_⟩) | ((with_reducible refine gate_callee (f := 35) rfl ?_); refine goesL_ (some 6) rfl rfl Try.func35 (by kernel_rfl) rfl #[.int .u32 t148] rfl (by (try simp only [List.map_toArray, List.map_cons, List.map_nil]); first | done | rfl | (simp only [List.length_drop, List.length_take]; rfl)) ?_; (with_reducible refine (concordanceref1_four.calls t148 t149 _ A3.out).mono ?_); rintro e w5 ⟨rfl, hb⟩; refine ⟨_, rfl, ?_⟩; have n0_ := Aside0.mk (below_step (by repeat (first | (with_reducible first | exact HB.out | apply below_alloc | apply pw_below_drewN | apply below_drew1) | exact HB.out)) hb); clear HB; have HB := n0_; clear n0_; (try clear hb); (try clear hb2); (try clear hk); (try clear hi)))
    go_ret
    exact ⟨by first | rfl | (simp [errW_none, errW_some] <;> rfl) | (simp [*, errW_none, errW_some] <;> rfl), by repeat (first | (with_reducible first | exact HB.out | apply below_alloc | apply pw_below_drewN | apply below_drew1) | exact HB.out)⟩
  · rw [if_neg c4] at H
    exact absurd H (by simp)

end Go.Proofs.Ytcnapbpljghfoaa.PCrc

/- Printed by a program of this session (drv.py) from the translation of this seat: functions, their contracts, rows. -/
namespace Go.Proofs.Ytcnapbpljghfoaa.PCrc
open Go.RowKit Go.Proofs.YtcnapbpljghfoaaW.PrintWords Go.Proofs.YtcnapbpljghfoaaW.PrintLast Go.Proofs.YtcnapbpljghfoaaW.PrintMore
attribute [local go_sem] max2_int min2_int max_two min_two max_three min_three max_four min_four   -- for this text's walks alone
set_option linter.unusedVariables false
set_option linter.unusedSimpArgs false

/-! ### concordanceref1_Open: function 26 -/
def concordanceref1_Open.f (a0 : ByteArray) : Option (ByteArray × Int) := if (wrap64 ((a0.size : Int) - 4)) < 0 then (some ((⟨#[]⟩ : ByteArray), 4)) else (if 0 ≤ (wrap64 ((a0.size : Int) - 4)) then (if (wrap64 ((a0.size : Int) - 4)) ≤ (a0.size : Int) then ((concordanceref1_Seal.f (a0.extract 0 ((wrap64 ((a0.size : Int) - 4)) : Int).toNat)).bind fun t150 => (if t150.toList = a0.toList then (some (a0.extract 0 ((wrap64 ((a0.size : Int) - 4)) : Int).toNat, 0)) else (some ((⟨#[]⟩ : ByteArray), 5)))) else (none)) else (none))
set_option maxHeartbeats 8000000 in
set_option maxRecDepth 100000 in
theorem concordanceref1_Open.calls (a0 : ByteArray) (r1 : ByteArray) (r2 : Int) (w : World) (h : concordanceref1_Open.f a0 = some (r1, r2)) :
    Calls Try.prog 26 #[.string a0] w fun e w' => e = .returned (.tuple #[.string r1, .int .i64 r2]) ∧ Below w.heap.size w w' := by
  have HB := Aside0.mk (Below.refl w.heap.size w)
  have H : (if (wrap64 ((a0.size : Int) - 4)) < 0 then (some ((⟨#[]⟩ : ByteArray), 4)) else (if 0 ≤ (wrap64 ((a0.size : Int) - 4)) then (if (wrap64 ((a0.size : Int) - 4)) ≤ (a0.size : Int) then ((concordanceref1_Seal.f (a0.extract 0 ((wrap64 ((a0.size : Int) - 4)) : Int).toNat)).bind fun t150 => (if t150.toList = a0.toList then (some (a0.extract 0 ((wrap64 ((a0.size : Int) - 4)) : Int).toNat, 0)) else (some ((⟨#[]⟩ : ByteArray), 5)))) else (none)) else (none))) = some (r1, r2) := h
  clear h
  by_cases c2 : (wrap64 ((a0.size : Int) - 4)) < 0
  · rw [if_pos c2] at H
    have c2b0 : decide ((wrap64 ((a0.size : Int) - 4)) < 0) = true := decide_eq_true c2
    clear c2
    simp only [Option.some.injEq, Prod.mk.injEq] at H
    obtain ⟨rfl, rfl⟩ := H
    go_enter Try.func26, Try.ntmps26
    go_wp2
    go_ret2
    exact ⟨by first | rfl | (simp [errW_none, errW_some] <;> rfl) | (simp [*, errW_none, errW_some] <;> rfl), by repeat (first | (with_reducible first | exact HB.out | apply below_alloc | apply pw_below_drewN | apply below_drew1) | exact HB.out)⟩
  · rw [if_neg c2] at H
    have c2b0 : decide ((wrap64 ((a0.size : Int) - 4)) < 0) = false := decide_eq_false c2
    clear c2
    obtain ⟨ji3, hji3⟩ : ∃ j_ : Int, (wrap64 ((a0.size : Int) - 4)) = j_ := ⟨_, rfl⟩
    replace H : (if 0 ≤ (ji3) then (if (ji3) ≤ (a0.size : Int) then ((concordanceref1_Seal.f (a0.extract 0 ((ji3) : Int).toNat)).bind fun t150 => (if t150.toList = a0.toList then (some (a0.extract 0 ((ji3) : Int).toNat, 0)) else (some ((⟨#[]⟩ : ByteArray), 5)))) else (none)) else (none)) = some (r1, r2) := by first | (rw [hji3] at H; exact H) | (simp only [hji3] at H ⊢; exact H)
    (try rw [hji3] at c2b0)
    have hji3w : (IntKind.i64.wrap ((a0.size : Int) - 4)) = ji3 := (i64_w _).trans hji3
    by_cases c4 : 0 ≤ (ji3)
    · rw [if_pos c4] at H
      have c4b0 := eq_true c4
      have c4b1 : decide (0 ≤ (ji3)) = true := decide_eq_true c4
      clear c4
      by_cases c5 : (ji3) ≤ (a0.size : Int)
      · rw [if_pos c5] at H
        have c5b0 := eq_true c5
        have c5b1 : decide ((ji3) ≤ (a0.size : Int)) = true := decide_eq_true c5
        clear c5
        replace H := Option.bind_eq_some_iff.mp H
        obtain ⟨t150, A60, H⟩ := H
        replace H : (if t150.toList = a0.toList then (some (a0.extract 0 ((ji3) : Int).toNat, 0)) else (some ((⟨#[]⟩ : ByteArray), 5))) = some (r1, r2) := H
        have A6 := Aside0.mk A60
        clear A60
        by_cases c7 : t150.toList = a0.toList
        · rw [if_pos c7] at H
          have c7b0 : (t150.toList == a0.toList) = true := beq_iff_eq.mpr c7
          have c7b1 : (t150.toList != a0.toList) = false := bne_eq_false_iff_eq.mpr c7
          clear c7
          have c8b0 := eq_true (of_decide_eq_true (by first | (with_reducible assumption) | assumption) : 0 ≤ (ji3))
          have c9b0 := eq_true (of_decide_eq_true (by first | (with_reducible assumption) | assumption) : (ji3) ≤ (a0.size : Int))
          simp only [Option.some.injEq, Prod.mk.injEq] at H
          obtain ⟨rfl, rfl⟩ := H
          go_enter Try.func26, Try.ntmps26
          go_wp2_with (first | ((with_reducible refine gate_callee (f := 24) rfl ?_); refine goesL_ (some 13) rfl rfl Try.func24 (by kernel_rfl) rfl #[.string (a0.extract 0 ((ji3) : Int).toNat)] rfl (by (try simp only [List.map_toArray, List.map_cons, List.map_nil]); first | done | (simp only [hji3]; rfl) | rfl | (simp only [List.length_drop, List.length_take]; rfl)) ?_; (with_reducible refine (concordanceref1_Seal.calls (a0.extract 0 ((ji3) : Int).toNat) t150 _ A6.out).mono ?_); rintro e w10 ⟨rfl, hb⟩; refine ⟨_, rfl, ?_⟩; have n0_ := Aside0.mk (below_step (by repeat (first | (with_reducible first | exact HB.out | apply below_alloc | apply pw_below_drewN | apply below_drew1) | exact HB.out)) hb); clear HB; have HB := n0_; clear n0_; (try clear hb); (try clear hb2); (try clear hk); (try clear hi)))
          go_ret2
          exact ⟨by first | rfl | (simp [errW_none, errW_some] <;> rfl) | (simp only [← hji3]; first | rfl | (simp [errW_none, errW_some] <;> rfl)) | (simp [*, errW_none, errW_some] <;> rfl), by repeat (first | (with_reducible first | exact HB.out | apply below_alloc | apply pw_below_drewN | apply below_drew1) | exact HB.out)⟩
        · rw [if_neg c7] at H
          have c7b0 : (t150.toList == a0.toList) = false := beq_eq_false_iff_ne.mpr c7
          have c7b1 : (t150.toList != a0.toList) = true := bne_iff_ne.mpr c7
          simp only [Option.some.injEq, Prod.mk.injEq] at H
          obtain ⟨rfl, rfl⟩ := H
          go_enter Try.func26, Try.ntmps26
          go_wp2_with (first | ((with_reducible refine gate_callee (f := 24) rfl ?_); refine goesL_ (some 13) rfl rfl Try.func24 (by kernel_rfl) rfl #[.string (a0.extract 0 ((ji3) : Int).toNat)] rfl (by (try simp only [List.map_toArray, List.map_cons, List.map_nil]); first | done | (simp only [hji3]; rfl) | rfl | (simp only [List.length_drop, List.length_take]; rfl)) ?_; (with_reducible refine (concordanceref1_Seal.calls (a0.extract 0 ((ji3) : Int).toNat) t150 _ A6.out).mono ?_); rintro e w11 ⟨rfl, hb⟩; refine ⟨_, rfl, ?_⟩; have n0_ := Aside0.mk (below_step (by repeat (first | (with_reducible first | exact HB.out | apply below_alloc | apply pw_below_drewN | apply below_drew1) | exact HB.out)) hb); clear HB; have HB := n0_; clear n0_; (try clear hb); (try clear hb2); (try clear hk); (try clear hi)))
          go_ret2
          exact ⟨by first | rfl | (simp [errW_none, errW_some] <;> rfl) | (simp only [← hji3]; first | rfl | (simp [errW_none, errW_some] <;> rfl)) | (simp [*, errW_none, errW_some] <;> rfl), by repeat (first | (with_reducible first | exact HB.out | apply below_alloc | apply pw_below_drewN | apply below_drew1) | exact HB.out)⟩
      · rw [if_neg c5] at H
        exact absurd H (by simp)
    · rw [if_neg c4] at H
      exact absurd H (by simp)

end Go.Proofs.Ytcnapbpljghfoaa.PCrc

/- Printed by a program of this session (drv.py) from the translation of this seat: functions, their contracts, rows. -/
namespace Go.Proofs.Ytcnapbpljghfoaa.PCrc
open Go.RowKit Go.Proofs.YtcnapbpljghfoaaW.PrintWords Go.Proofs.YtcnapbpljghfoaaW.PrintLast Go.Proofs.YtcnapbpljghfoaaW.PrintMore
attribute [local go_sem] max2_int min2_int max_two min_two max_three min_three max_four min_four   -- for this text's walks alone
set_option linter.unusedVariables false
set_option linter.unusedSimpArgs false

/-! ### concordanceref1_Fixed: function 27 -/
mutual
def concordanceref1_Fixed.j0 : Nat → ByteArray → Int → Bool → Option (Int × Int)
  | 0, _, _, _ => none
  | k + 1, x0, x1, x13 => if x13 = true then (some (0, 1)) else (if (x0.size : Int) < x1 then (some (0, 4)) else (concordanceref1_Fixed.l0 k x0 x1 0 0))
def concordanceref1_Fixed.l0 : Nat → ByteArray → Int → Int → Int → Option (Int × Int)
  | 0, _, _, _, _ => none
  | k + 1, x0, x1, x6, x7 => if x7 < x1 then (if 0 ≤ x7 then (if x7 < (x0.size : Int) then (concordanceref1_Fixed.l0 k x0 x1 (Go.bits .or .u64 (IntKind.u64.wrap (x6 * 256)) (IntKind.u64.wrap (bt x0 x7))) (wrap64 (x7 + 1))) else (none)) else (none)) else (some (x6, 0))
end
def concordanceref1_Fixed.f (k : Nat) (a0 : ByteArray) (a1 : Int) : Option (Int × Int) := if a1 < 0 then (concordanceref1_Fixed.j0 k a0 a1 true) else (concordanceref1_Fixed.j0 k a0 a1 (decide (a1 > 8)))
theorem concordanceref1_Fixed.mono_l : ∀ k, (∀ y0 y1 y2, LeO (concordanceref1_Fixed.j0 k y0 y1 y2) (concordanceref1_Fixed.j0 (k + 1) y0 y1 y2)) ∧ (∀ y0 y1 y2 y3, LeO (concordanceref1_Fixed.l0 k y0 y1 y2 y3) (concordanceref1_Fixed.l0 (k + 1) y0 y1 y2 y3))
  | 0 => ⟨fun _ _ _ r h => by simp [concordanceref1_Fixed.j0] at h, fun _ _ _ _ r h => by simp [concordanceref1_Fixed.l0] at h⟩
  | k + 1 => by
    obtain ⟨ih0, ih1⟩ := concordanceref1_Fixed.mono_l k
    refine ⟨?_, ?_⟩
    · intro y0 y1 y2
      unfold concordanceref1_Fixed.j0
      repeat' first
      | (with_reducible exact ih0 _ _ _)
      | (with_reducible exact ih1 _ _ _ _)
      | (with_reducible exact LeO.refl _)
      | (with_reducible exact LeO.none _)
      | (with_reducible refine LeO.ite ?_ ?_)
      | (with_reducible refine LeO.bind ?_ (fun _ => ?_))
      | exact ih0 _ _ _
      | exact ih1 _ _ _ _
      | exact LeO.none _
      | refine LeO.ite ?_ ?_
      | refine LeO.bind ?_ (fun _ => ?_)
    · intro y0 y1 y2 y3
      unfold concordanceref1_Fixed.l0
      repeat' first
      | (with_reducible exact ih0 _ _ _)
      | (with_reducible exact ih1 _ _ _ _)
      | (with_reducible exact LeO.refl _)
      | (with_reducible exact LeO.none _)
      | (with_reducible refine LeO.ite ?_ ?_)
      | (with_reducible refine LeO.bind ?_ (fun _ => ?_))
      | exact ih0 _ _ _
      | exact ih1 _ _ _ _
      | exact LeO.none _
      | refine LeO.ite ?_ ?_
      | refine LeO.bind ?_ (fun _ => ?_)
theorem concordanceref1_Fixed.mono : ∀ a0 a1 k, LeO (concordanceref1_Fixed.f k a0 a1) (concordanceref1_Fixed.f (k + 1) a0 a1) := by
  intro a0 a1 k
  obtain ⟨ih0, ih1⟩ := concordanceref1_Fixed.mono_l k
  unfold concordanceref1_Fixed.f
  repeat' first
      | (with_reducible exact ih0 _ _ _)
      | (with_reducible exact ih1 _ _ _ _)
      | (with_reducible exact LeO.refl _)
      | (with_reducible exact LeO.none _)
      | (with_reducible refine LeO.ite ?_ ?_)
      | (with_reducible refine LeO.bind ?_ (fun _ => ?_))
      | exact ih0 _ _ _
      | exact ih1 _ _ _ _
      | exact LeO.none _
      | refine LeO.ite ?_ ?_
      | refine LeO.bind ?_ (fun _ => ?_)
set_option maxHeartbeats 8000000 in
set_option maxRecDepth 100000 in
theorem concordanceref1_Fixed.calls (k : Nat) (a0 : ByteArray) (a1 : Int) (r1 : Int) (r2 : Int) (w : World) (h : concordanceref1_Fixed.f k a0 a1 = some (r1, r2)) :
    Calls Try.prog 27 #[.string a0, .int .i64 a1] w fun e w' => e = .returned (.tuple #[.int .u64 r1, .int .i64 r2]) ∧ Drawn0 w w' := by
  have H : (if a1 < 0 then (concordanceref1_Fixed.j0 k a0 a1 true) else (concordanceref1_Fixed.j0 k a0 a1 (decide (a1 > 8)))) = some (r1, r2) := h
  clear h
  have HC3 := Aside0.mk H
  clear H
  go_enter Try.func27, Try.ntmps27
  go_upto_region 1 with (fail)
  go_cut [13] (fun v13 wc => ∃ (kq : Nat) (x13_2 : Bool), v13 = .bool x13_2 ∧ Aside0 (concordanceref1_Fixed.j0 kq a0 a1 x13_2 = some (r1, r2)) ∧ Aside0 (kq ≤ k) ∧ Drawn0 w wc)
  case first =>
    have H := HC3.out
    clear HC3
    by_cases c4 : a1 < 0
    · rw [if_pos c4] at H
      have c4b0 : decide (a1 < 0) = true := decide_eq_true c4
      clear c4
      (first | rw [c4b0] | (simp only [i64_w, i32_w]; rw [c4b0]) | skip)
      have H' := Aside0.mk H
      clear H
      go_wp2
      go_meet
      case rel => exact ⟨_, (true), (by first | rfl | (simp; done) | (simp [*]; done)), H', ⟨by first | omega | exact Nat.le_refl _⟩, by repeat (first | exact Drawn0.refl _ | apply Drawn0.step)⟩
    · rw [if_neg c4] at H
      have c4b0 : decide (a1 < 0) = false := decide_eq_false c4
      clear c4
      (first | rw [c4b0] | (simp only [i64_w, i32_w]; rw [c4b0]) | skip)
      have H' := Aside0.mk H
      clear H
      go_wp2
      go_meet
      case rel => exact ⟨_, (decide (a1 > 8)), (by first | rfl | (simp; done) | (simp [*]; done)), H', ⟨by first | omega | exact Nat.le_refl _⟩, by repeat (first | exact Drawn0.refl _ | apply Drawn0.step)⟩
  case rest =>
    clear HC3
    try clear c2
    try clear p2
    try clear c4
    try clear c4b0
    obtain ⟨kq, x13_2, rfl, HA, HJ2, ⟨mc2, rfl⟩⟩ := hcut
    cases kq with
    | zero => exact absurd HA.out (by simp [concordanceref1_Fixed.j0])
    | succ kj2 =>
      have H := HA.out
      clear HA
      simp only [concordanceref1_Fixed.j0] at H
      by_cases c5 : x13_2 = true
      · subst c5
        have H1 : (some (0, 1)) = some (r1, r2) := by rw [if_pos rfl] at H; exact H
        clear H
        have H := H1
        clear H1
        simp only [Option.some.injEq, Prod.mk.injEq] at H
        obtain ⟨rfl, rfl⟩ := H
        go_wp2
        go_ret2
        exact ⟨by first | rfl | (simp; done) | (simp [*]; done), by repeat (first | exact Drawn0.refl _ | apply Drawn0.step)⟩
      · replace c5 := Bool.eq_false_iff.mpr c5
        subst c5
        have H1 : (if (a0.size : Int) < a1 then (some (0, 4)) else (concordanceref1_Fixed.l0 kj2 a0 a1 0 0)) = some (r1, r2) := by rw [if_neg (show ¬ (false = true) by decide)] at H; exact H
        clear H
        have H := H1
        clear H1
        by_cases c6 : (a0.size : Int) < a1
        · rw [if_pos c6] at H
          have c6b0 : decide ((a0.size : Int) < a1) = true := decide_eq_true c6
          clear c6
          simp only [Option.some.injEq, Prod.mk.injEq] at H
          obtain ⟨rfl, rfl⟩ := H
          go_wp2
          go_ret2
          exact ⟨by first | rfl | (simp; done) | (simp [*]; done), by repeat (first | exact Drawn0.refl _ | apply Drawn0.step)⟩
        · rw [if_neg c6] at H
          have c6b0 : decide ((a0.size : Int) < a1) = false := decide_eq_false c6
          clear c6
          have H' := Aside0.mk H
          clear H
          go_wp2
          go_loopg [6, 7] kj2 (fun kq v6 v7 w' => ∃ (x6_2 : Int) (x7_2 : Int), v6 = .int .u64 x6_2 ∧ v7 = .int .i64 x7_2 ∧ Aside0 (concordanceref1_Fixed.l0 kq a0 a1 x6_2 x7_2 = some (r1, r2)) ∧ Aside0 (kq ≤ kj2) ∧ Drawn0 w w')
          case atStart => exact ⟨(0), (0), (by first | rfl | (simp; done) | (simp [*]; done)), (by first | rfl | (simp; done) | (simp [*]; done)), H', ⟨Nat.le_refl _⟩, by repeat (first | exact Drawn0.refl _ | apply Drawn0.step)⟩
          case round =>
            clear H'
            try clear c2
            try clear p2
            try clear c4
            try clear c4b0
            try clear c5
            try clear c6
            try clear c6b0
            try clear p2
            obtain ⟨x6_2, x7_2, rfl, rfl, HA, HK2, ⟨m2, rfl⟩⟩ := hrel
            cases gk with
            | zero => exact absurd HA.out (by simp [concordanceref1_Fixed.l0])
            | succ k2 =>
              have H := HA.out
              clear HA
              simp only [concordanceref1_Fixed.l0] at H
              by_cases c7 : x7_2 < a1
              · rw [if_pos c7] at H
                have c7b0 : decide (x7_2 < a1) = true := decide_eq_true c7
                clear c7
                by_cases c8 : 0 ≤ x7_2
                · rw [if_pos c8] at H
                  have c8b0 : decide (0 ≤ x7_2) = true := decide_eq_true c8
                  clear c8
                  by_cases c9 : x7_2 < (a0.size : Int)
                  · rw [if_pos c9] at H
                    have c9b0 : decide (x7_2 < (a0.size : Int)) = true := decide_eq_true c9
                    clear c9
                    have H' := Aside0.mk H
                    clear H
                    have p10 : 0 ≤ (x7_2 : Int) := of_decide_eq_true (by first | (with_reducible assumption) | assumption)
                    have q10 : x7_2 < (a0.size : Int) := of_decide_eq_true (by first | (with_reducible assumption) | assumption)
                    have hx10 := bt_at a0 x7_2
                    replace p10 := eq_true p10
                    replace q10 := eq_true q10
                    go_wp2
                    go_roundg k2
                    case measure => have := HJ2.out; have := HK2.out; omega
                    case rel => exact ⟨(Go.bits .or .u64 (IntKind.u64.wrap (x6_2 * 256)) (IntKind.u64.wrap (bt a0 x7_2))), (wrap64 (x7_2 + 1)), (by first | rfl | (simp; done) | (simp [*]; done)), (by first | rfl | (simp; done) | (simp [*]; done)), H', ⟨by have := HJ2.out; have := HK2.out; omega⟩, by repeat (first | exact Drawn0.refl _ | apply Drawn0.step)⟩
                  · rw [if_neg c9] at H
                    exact absurd H (by simp)
                · rw [if_neg c8] at H
                  exact absurd H (by simp)
              · rw [if_neg c7] at H
                have c7b0 : decide (x7_2 < a1) = false := decide_eq_false c7
                clear c7
                simp only [Option.some.injEq, Prod.mk.injEq] at H
                obtain ⟨rfl, rfl⟩ := H
                go_wp2
                go_ret2
                exact ⟨by first | rfl | (simp; done) | (simp [*]; done), by repeat (first | exact Drawn0.refl _ | apply Drawn0.step)⟩

end Go.Proofs.Ytcnapbpljghfoaa.PCrc

/- Printed by a program of this session (drv.py) from the translation of this seat: functions, their contracts, rows. -/
namespace Go.Proofs.Ytcnapbpljghfoaa.PCrc
open Go.RowKit Go.Proofs.YtcnapbpljghfoaaW.PrintWords Go.Proofs.YtcnapbpljghfoaaW.PrintLast Go.Proofs.YtcnapbpljghfoaaW.PrintMore
attribute [local go_sem] max2_int min2_int max_two min_two max_three min_three max_four min_four   -- for this text's walks alone
set_option linter.unusedVariables false
set_option linter.unusedSimpArgs false

/-! ### concordanceref1_Unframe: function 16 -/
def concordanceref1_Unframe.j0 : Nat → ByteArray → Int → Bool → Option (Int × ByteArray × Int × Int)
  | 0, _, _, _ => none
  | k + 1, x0, x1, x21 => if x21 = true then (some (0, (⟨#[]⟩ : ByteArray), 0, 1)) else (if (wrap64 ((x0.size : Int) - x1)) < 8 then (some (0, (⟨#[]⟩ : ByteArray), 0, 4)) else (if 0 ≤ x1 then (if x1 ≤ (wrap64 (x1 + 8)) then (if (wrap64 (x1 + 8)) ≤ (x0.size : Int) then ((concordanceref1_Open.f (x0.extract (x1 : Int).toNat ((wrap64 (x1 + 8)) : Int).toNat)).bind fun bt151 => (if bt151.2 = 0 then (if 1 ≤ (bt151.1.size : Int) then ((concordanceref1_Fixed.f k (bt151.1.extract 1 bt151.1.size) 3).bind fun bt153 => (if 0 < (bt151.1.size : Int) then ((concordanceref1_FrameOk.f k (wrap64 (bt bt151.1 0)) (wrap64 (bt153.1))).bind fun t155 => (if t155 = 0 then (if (wrap64 ((wrap64 ((x0.size : Int) - x1)) - 8)) < (wrap64 ((wrap64 (bt153.1)) + 4)) then (some (0, (⟨#[]⟩ : ByteArray), 0, 4)) else (if 0 ≤ (wrap64 (x1 + 8)) then (if (wrap64 (x1 + 8)) ≤ (wrap64 ((wrap64 (x1 + 12)) + (wrap64 (bt153.1)))) then (if (wrap64 ((wrap64 (x1 + 12)) + (wrap64 (bt153.1)))) ≤ (x0.size : Int) then ((concordanceref1_Open.f (x0.extract ((wrap64 (x1 + 8)) : Int).toNat ((wrap64 ((wrap64 (x1 + 12)) + (wrap64 (bt153.1)))) : Int).toNat)).bind fun bt156 => (if bt156.2 = 0 then (some (wrap64 (bt bt151.1 0), bt156.1, wrap64 ((wrap64 (x1 + 12)) + (wrap64 (bt153.1))), 0)) else (some (0, (⟨#[]⟩ : ByteArray), 0, bt156.2)))) else (none)) else (none)) else (none))) else (some (0, (⟨#[]⟩ : ByteArray), 0, 3)))) else (none))) else (none)) else (some (0, (⟨#[]⟩ : ByteArray), 0, bt151.2)))) else (none)) else (none)) else (none)))
def concordanceref1_Unframe.f (k : Nat) (a0 : ByteArray) (a1 : Int) : Option (Int × ByteArray × Int × Int) := if a1 < 0 then (concordanceref1_Unframe.j0 k a0 a1 true) else (concordanceref1_Unframe.j0 k a0 a1 (decide (a1 > (a0.size : Int))))
theorem concordanceref1_Unframe.mono_l : ∀ k, (∀ y0 y1 y2, LeO (concordanceref1_Unframe.j0 k y0 y1 y2) (concordanceref1_Unframe.j0 (k + 1) y0 y1 y2))
  | 0 => fun _ _ _ r h => by simp [concordanceref1_Unframe.j0] at h
  | k + 1 => by
    have ih0 := concordanceref1_Unframe.mono_l k
    · intro y0 y1 y2
      unfold concordanceref1_Unframe.j0
      repeat' first
      | (with_reducible exact ih0 _ _ _)
      | (with_reducible exact concordanceref1_Fixed.mono _ _ _)
      | (with_reducible exact concordanceref1_FrameOk.mono _ _ _)
      | (with_reducible exact LeO.refl _)
      | (with_reducible exact LeO.none _)
      | (with_reducible refine LeO.ite ?_ ?_)
      | (with_reducible refine LeO.bind ?_ (fun _ => ?_))
      | exact ih0 _ _ _
      | exact concordanceref1_Fixed.mono _ _ _
      | exact concordanceref1_FrameOk.mono _ _ _
      | exact LeO.none _
      | refine LeO.ite ?_ ?_
      | refine LeO.bind ?_ (fun _ => ?_)
theorem concordanceref1_Unframe.mono : ∀ a0 a1 k, LeO (concordanceref1_Unframe.f k a0 a1) (concordanceref1_Unframe.f (k + 1) a0 a1) := by
  intro a0 a1 k
  have ih0 := concordanceref1_Unframe.mono_l k
  unfold concordanceref1_Unframe.f
  repeat' first
      | (with_reducible exact ih0 _ _ _)
      | (with_reducible exact concordanceref1_Fixed.mono _ _ _)
      | (with_reducible exact concordanceref1_FrameOk.mono _ _ _)
      | (with_reducible exact LeO.refl _)
      | (with_reducible exact LeO.none _)
      | (with_reducible refine LeO.ite ?_ ?_)
      | (with_reducible refine LeO.bind ?_ (fun _ => ?_))
      | exact ih0 _ _ _
      | exact concordanceref1_Fixed.mono _ _ _
      | exact concordanceref1_FrameOk.mono _ _ _
      | exact LeO.none _
      | refine LeO.ite ?_ ?_
      | refine LeO.bind ?_ (fun _ => ?_)
set_option maxHeartbeats 8000000 in
set_option maxRecDepth 100000 in
theorem concordanceref1_Unframe.calls (k : Nat) (a0 : ByteArray) (a1 : Int) (r1 : Int) (r2 : ByteArray) (r3 : Int) (r4 : Int) (w : World) (h : concordanceref1_Unframe.f k a0 a1 = some (r1, r2, r3, r4)) :
    Calls Try.prog 16 #[.string a0, .int .i64 a1] w fun e w' => e = .returned (.tuple #[.int .i64 r1, .string r2, .int .i64 r3, .int .i64 r4]) ∧ Below w.heap.size w w' := by
  have HB := Aside0.mk (Below.refl w.heap.size w)
  have H : (if a1 < 0 then (concordanceref1_Unframe.j0 k a0 a1 true) else (concordanceref1_Unframe.j0 k a0 a1 (decide (a1 > (a0.size : Int))))) = some (r1, r2, r3, r4) := h
  clear h
  have HC3 := Aside0.mk H
  clear H
  go_enter Try.func16, Try.ntmps16
  go_upto_region 1 with (fail)
  go_cut [21] (fun v21 wc => ∃ (kq : Nat) (x21_2 : Bool), v21 = .bool x21_2 ∧ Aside0 (concordanceref1_Unframe.j0 kq a0 a1 x21_2 = some (r1, r2, r3, r4)) ∧ Aside0 (kq ≤ k) ∧ Aside0 (Below w.heap.size w wc))
  case first =>
    have H := HC3.out
    clear HC3
    by_cases c4 : a1 < 0
    · rw [if_pos c4] at H
      have c4b0 : decide (a1 < 0) = true := decide_eq_true c4
      clear c4
      (first | rw [c4b0] | (simp only [i64_w, i32_w]; rw [c4b0]) | skip)
      have H' := Aside0.mk H
      clear H
      go_wp2
      go_meet
      case rel => exact ⟨_, (true), (by first | rfl | (simp; done) | (simp [*]; done)), H', ⟨by first | omega | exact Nat.le_refl _⟩, ⟨by repeat (first | (with_reducible first | exact HB.out | apply below_alloc | apply pw_below_drewN | apply below_drew1) | exact HB.out)⟩⟩
    · rw [if_neg c4] at H
      have c4b0 : decide (a1 < 0) = false := decide_eq_false c4
      clear c4
      (first | rw [c4b0] | (simp only [i64_w, i32_w]; rw [c4b0]) | skip)
      have H' := Aside0.mk H
      clear H
      go_wp2
      go_meet
      case rel => exact ⟨_, (decide (a1 > (a0.size : Int))), (by first | rfl | (simp; done) | (simp [*]; done)), H', ⟨by first | omega | exact Nat.le_refl _⟩, ⟨by repeat (first | (with_reducible first | exact HB.out | apply below_alloc | apply pw_below_drewN | apply below_drew1) | exact HB.out)⟩⟩
  case rest =>
    clear HC3
    try clear c1
    try clear p2
    try clear c4
    try clear c4b0
    obtain ⟨kq, x21_2, rfl, HA, HJ2, HB⟩ := hcut
    cases kq with
    | zero => exact absurd HA.out (by simp [concordanceref1_Unframe.j0])
    | succ kj2 =>
      have H := HA.out
      clear HA
      simp only [concordanceref1_Unframe.j0] at H
      by_cases c5 : x21_2 = true
      · subst c5
        have H1 : (some (0, (⟨#[]⟩ : ByteArray), 0, 1)) = some (r1, r2, r3, r4) := by rw [if_pos rfl] at H; exact H
        clear H
        have H := H1
        clear H1
        simp only [Option.some.injEq, Prod.mk.injEq] at H
        obtain ⟨rfl, rfl, rfl, rfl⟩ := H
        go_wp2
        refine bodyPost_ret (results_list (rs := [.tmp 4, .tmp 5, .tmp 6, .tmp 7]) rfl (by simp) (.tmp (.tmp (.tmp (.tmp .nil))))) rfl ?_
        exact ⟨by first | rfl | (simp [errW_none, errW_some] <;> rfl) | (simp [*, errW_none, errW_some] <;> rfl), by repeat (first | (with_reducible first | exact HB.out | apply below_alloc | apply pw_below_drewN | apply below_drew1) | exact HB.out)⟩
      · replace c5 := Bool.eq_false_iff.mpr c5
        subst c5
        have H1 : (if (wrap64 ((a0.size : Int) - a1)) < 8 then (some (0, (⟨#[]⟩ : ByteArray), 0, 4)) else (if 0 ≤ a1 then (if a1 ≤ (wrap64 (a1 + 8)) then (if (wrap64 (a1 + 8)) ≤ (a0.size : Int) then ((concordanceref1_Open.f (a0.extract (a1 : Int).toNat ((wrap64 (a1 + 8)) : Int).toNat)).bind fun bt151 => (if bt151.2 = 0 then (if 1 ≤ (bt151.1.size : Int) then ((concordanceref1_Fixed.f kj2 (bt151.1.extract 1 bt151.1.size) 3).bind fun bt153 => (if 0 < (bt151.1.size : Int) then ((concordanceref1_FrameOk.f kj2 (wrap64 (bt bt151.1 0)) (wrap64 (bt153.1))).bind fun t155 => (if t155 = 0 then (if (wrap64 ((wrap64 ((a0.size : Int) - a1)) - 8)) < (wrap64 ((wrap64 (bt153.1)) + 4)) then (some (0, (⟨#[]⟩ : ByteArray), 0, 4)) else (if 0 ≤ (wrap64 (a1 + 8)) then (if (wrap64 (a1 + 8)) ≤ (wrap64 ((wrap64 (a1 + 12)) + (wrap64 (bt153.1)))) then (if (wrap64 ((wrap64 (a1 + 12)) + (wrap64 (bt153.1)))) ≤ (a0.size : Int) then ((concordanceref1_Open.f (a0.extract ((wrap64 (a1 + 8)) : Int).toNat ((wrap64 ((wrap64 (a1 + 12)) + (wrap64 (bt153.1)))) : Int).toNat)).bind fun bt156 => (if bt156.2 = 0 then (some (wrap64 (bt bt151.1 0), bt156.1, wrap64 ((wrap64 (a1 + 12)) + (wrap64 (bt153.1))), 0)) else (some (0, (⟨#[]⟩ : ByteArray), 0, bt156.2)))) else (none)) else (none)) else (none))) else (some (0, (⟨#[]⟩ : ByteArray), 0, 3)))) else (none))) else (none)) else (some (0, (⟨#[]⟩ : ByteArray), 0, bt151.2)))) else (none)) else (none)) else (none))) = some (r1, r2, r3, r4) := by rw [if_neg (show ¬ (false = true) by decide)] at H; exact H
        clear H
        have H := H1
        clear H1
        by_cases c6 : (wrap64 ((a0.size : Int) - a1)) < 8
        · rw [if_pos c6] at H
          have c6b0 : decide ((wrap64 ((a0.size : Int) - a1)) < 8) = true := decide_eq_true c6
          clear c6
          simp only [Option.some.injEq, Prod.mk.injEq] at H
          obtain ⟨rfl, rfl, rfl, rfl⟩ := H
          go_wp2
          refine bodyPost_ret (results_list (rs := [.tmp 4, .tmp 5, .tmp 6, .tmp 7]) rfl (by simp) (.tmp (.tmp (.tmp (.tmp .nil))))) rfl ?_
          exact ⟨by first | rfl | (simp [errW_none, errW_some] <;> rfl) | (simp [*, errW_none, errW_some] <;> rfl), by repeat (first | (with_reducible first | exact HB.out | apply below_alloc | apply pw_below_drewN | apply below_drew1) | exact HB.out)⟩
        · rw [if_neg c6] at H
          have c6b0 : decide ((wrap64 ((a0.size : Int) - a1)) < 8) = false := decide_eq_false c6
          clear c6
          by_cases c7 : 0 ≤ a1
          · rw [if_pos c7] at H
            have c7b0 := eq_true c7
            have c7b1 : decide (0 ≤ a1) = true := decide_eq_true c7
            clear c7
            by_cases c8 : a1 ≤ (wrap64 (a1 + 8))
            · rw [if_pos c8] at H
              have c8b0 := eq_true c8
              have c8b1 : decide (a1 ≤ (wrap64 (a1 + 8))) = true := decide_eq_true c8
              by_cases c9 : (wrap64 (a1 + 8)) ≤ (a0.size : Int)
              · rw [if_pos c9] at H
                have c9b0 := eq_true c9
                have c9b1 : decide ((wrap64 (a1 + 8)) ≤ (a0.size : Int)) = true := decide_eq_true c9
                replace H := Option.bind_eq_some_iff.mp H
                obtain ⟨⟨t151, t152⟩, A100, H⟩ := H
                replace H : (if t152 = 0 then (if 1 ≤ (t151.size : Int) then ((concordanceref1_Fixed.f kj2 (t151.extract 1 t151.size) 3).bind fun bt153 => (if 0 < (t151.size : Int) then ((concordanceref1_FrameOk.f kj2 (wrap64 (bt t151 0)) (wrap64 (bt153.1))).bind fun t155 => (if t155 = 0 then (if (wrap64 ((wrap64 ((a0.size : Int) - a1)) - 8)) < (wrap64 ((wrap64 (bt153.1)) + 4)) then (some (0, (⟨#[]⟩ : ByteArray), 0, 4)) else (if 0 ≤ (wrap64 (a1 + 8)) then (if (wrap64 (a1 + 8)) ≤ (wrap64 ((wrap64 (a1 + 12)) + (wrap64 (bt153.1)))) then (if (wrap64 ((wrap64 (a1 + 12)) + (wrap64 (bt153.1)))) ≤ (a0.size : Int) then ((concordanceref1_Open.f (a0.extract ((wrap64 (a1 + 8)) : Int).toNat ((wrap64 ((wrap64 (a1 + 12)) + (wrap64 (bt153.1)))) : Int).toNat)).bind fun bt156 => (if bt156.2 = 0 then (some (wrap64 (bt t151 0), bt156.1, wrap64 ((wrap64 (a1 + 12)) + (wrap64 (bt153.1))), 0)) else (some (0, (⟨#[]⟩ : ByteArray), 0, bt156.2)))) else (none)) else (none)) else (none))) else (some (0, (⟨#[]⟩ : ByteArray), 0, 3)))) else (none))) else (none)) else (some (0, (⟨#[]⟩ : ByteArray), 0, t152))) = some (r1, r2, r3, r4) := H
                have A10 := Aside0.mk A100
                clear A100
                by_cases c11 : t152 = 0
                · rw [if_pos c11] at H
                  have c11b0 : (t152 == 0) = true := beq_iff_eq.mpr c11
                  have c11b1 : (t152 != 0) = false := bne_eq_false_iff_eq.mpr c11
                  clear c11
                  by_cases c12 : 1 ≤ (t151.size : Int)
                  · rw [if_pos c12] at H
                    have c12b0 := eq_true c12
                    have c12b1 : decide (1 ≤ (t151.size : Int)) = true := decide_eq_true c12
                    clear c12
                    replace H := Option.bind_eq_some_iff.mp H
                    obtain ⟨⟨t153, t154⟩, A130, H⟩ := H
                    replace H : (if 0 < (t151.size : Int) then ((concordanceref1_FrameOk.f kj2 (wrap64 (bt t151 0)) (wrap64 (t153))).bind fun t155 => (if t155 = 0 then (if (wrap64 ((wrap64 ((a0.size : Int) - a1)) - 8)) < (wrap64 ((wrap64 (t153)) + 4)) then (some (0, (⟨#[]⟩ : ByteArray), 0, 4)) else (if 0 ≤ (wrap64 (a1 + 8)) then (if (wrap64 (a1 + 8)) ≤ (wrap64 ((wrap64 (a1 + 12)) + (wrap64 (t153)))) then (if (wrap64 ((wrap64 (a1 + 12)) + (wrap64 (t153)))) ≤ (a0.size : Int) then ((concordanceref1_Open.f (a0.extract ((wrap64 (a1 + 8)) : Int).toNat ((wrap64 ((wrap64 (a1 + 12)) + (wrap64 (t153)))) : Int).toNat)).bind fun bt156 => (if bt156.2 = 0 then (some (wrap64 (bt t151 0), bt156.1, wrap64 ((wrap64 (a1 + 12)) + (wrap64 (t153))), 0)) else (some (0, (⟨#[]⟩ : ByteArray), 0, bt156.2)))) else (none)) else (none)) else (none))) else (some (0, (⟨#[]⟩ : ByteArray), 0, 3)))) else (none)) = some (r1, r2, r3, r4) := H
                    have A13 := Aside0.mk A130
                    clear A130
                    by_cases c14 : 0 < (t151.size : Int)
                    · rw [if_pos c14] at H
                      have c14b0 : decide (0 < (t151.size : Int)) = true := decide_eq_true c14
                      have c14b1 : decide (0 < t151.size) = true := decide_eq_true (by omega)
                      clear c14
                      replace H := Option.bind_eq_some_iff.mp H
                      obtain ⟨t155, A160, H⟩ := H
                      replace H : (if t155 = 0 then (if (wrap64 ((wrap64 ((a0.size : Int) - a1)) - 8)) < (wrap64 ((wrap64 (t153)) + 4)) then (some (0, (⟨#[]⟩ : ByteArray), 0, 4)) else (if 0 ≤ (wrap64 (a1 + 8)) then (if (wrap64 (a1 + 8)) ≤ (wrap64 ((wrap64 (a1 + 12)) + (wrap64 (t153)))) then (if (wrap64 ((wrap64 (a1 + 12)) + (wrap64 (t153)))) ≤ (a0.size : Int) then ((concordanceref1_Open.f (a0.extract ((wrap64 (a1 + 8)) : Int).toNat ((wrap64 ((wrap64 (a1 + 12)) + (wrap64 (t153)))) : Int).toNat)).bind fun bt156 => (if bt156.2 = 0 then (some (wrap64 (bt t151 0), bt156.1, wrap64 ((wrap64 (a1 + 12)) + (wrap64 (t153))), 0)) else (some (0, (⟨#[]⟩ : ByteArray), 0, bt156.2)))) else (none)) else (none)) else (none))) else (some (0, (⟨#[]⟩ : ByteArray), 0, 3))) = some (r1, r2, r3, r4) := H
                      have A16 := Aside0.mk A160
                      clear A160
                      by_cases c17 : t155 = 0
                      · rw [if_pos c17] at H
                        have c17b0 : (t155 == 0) = true := beq_iff_eq.mpr c17
                        have c17b1 : (t155 != 0) = false := bne_eq_false_iff_eq.mpr c17
                        clear c17
                        by_cases c18 : (wrap64 ((wrap64 ((a0.size : Int) - a1)) - 8)) < (wrap64 ((wrap64 (t153)) + 4))
                        · rw [if_pos c18] at H
                          have c18b0 : decide ((wrap64 ((wrap64 ((a0.size : Int) - a1)) - 8)) < (wrap64 ((wrap64 (t153)) + 4))) = true := decide_eq_true c18
                          clear c18
                          simp only [Option.some.injEq, Prod.mk.injEq] at H
                          obtain ⟨rfl, rfl, rfl, rfl⟩ := H
                          go_wp2_with (first | ((with_reducible refine gate_callee (f := 26) rfl ?_); refine goesL_ (some 33) rfl rfl Try.func26 (by kernel_rfl) rfl #[.string (a0.extract (a1 : Int).toNat ((wrap64 (a1 + 8)) : Int).toNat)] rfl (by (try simp only [List.map_toArray, List.map_cons, List.map_nil]); first | done | rfl | (simp only [List.length_drop, List.length_take]; rfl)) ?_; (with_reducible refine (concordanceref1_Open.calls (a0.extract (a1 : Int).toNat ((wrap64 (a1 + 8)) : Int).toNat) t151 t152 _ A10.out).mono ?_); rintro e w19 ⟨rfl, hb⟩; refine ⟨_, rfl, ?_⟩; have n0_ := Aside0.mk (below_step (by repeat (first | (with_reducible first | exact HB.out | apply below_alloc | apply pw_below_drewN | apply below_drew1) | exact HB.out)) hb); clear HB; have HB := n0_; clear n0_; (try clear hb); (try clear hb2); (try clear hk); (try clear hi)) | ((with_reducible refine gate_callee (f := 27) rfl ?_); refine goesL_ (some 42) rfl rfl Try.func27 (by kernel_rfl) rfl #[.string (t151.extract 1 t151.size), .int .i64 3] rfl (by (try simp only [List.map_toArray, List.map_cons, List.map_nil]); first | done | rfl | (simp only [List.length_drop, List.length_take]; rfl)) ?_; (with_reducible refine (concordanceref1_Fixed.calls kj2 (t151.extract 1 t151.size) 3 t153 t154 _ A13.out).mono ?_); rintro e w' ⟨rfl, ⟨nd, rfl⟩⟩; refine ⟨_, rfl, ?_⟩; have p15 : 0 ≤ (0 : Int) := (by omega); have q15 : 0 < t151.size := (by have : (0 : Int) < (t151.size : Int) := of_decide_eq_true (by first | (with_reducible assumption) | assumption); omega); have hx15 : ∀ h : 0 < t151.size, ((t151[0]'h).toNat : Int) = bt t151 0 := bt_at t151 0; clear p15; have qi15 : (0 < (t151.size : Int)) = True := eq_true (of_decide_eq_true (by first | (with_reducible assumption) | assumption)); replace q15 := eq_true q15) | ((with_reducible refine gate_callee (f := 12) rfl ?_); refine goesL_ (some 51) rfl rfl Try.func12 (by kernel_rfl) rfl #[.int .i64 (wrap64 (bt t151 0)), .int .i64 (wrap64 (t153))] rfl (by (try simp only [List.map_toArray, List.map_cons, List.map_nil]); first | done | rfl | (simp only [List.length_drop, List.length_take]; rfl)) ?_; (with_reducible refine (concordanceref1_FrameOk.calls kj2 (wrap64 (bt t151 0)) (wrap64 (t153)) t155 _ A16.out).mono ?_); rintro e w' ⟨rfl, ⟨nd, rfl⟩⟩; refine ⟨_, rfl, ?_⟩))
                          refine bodyPost_ret (results_list (rs := [.tmp 4, .tmp 5, .tmp 6, .tmp 7]) rfl (by simp) (.tmp (.tmp (.tmp (.tmp .nil))))) rfl ?_
                          exact ⟨by first | rfl | (simp [errW_none, errW_some] <;> rfl) | (simp [*, errW_none, errW_some] <;> rfl), by repeat (first | (with_reducible first | exact HB.out | apply below_alloc | apply pw_below_drewN | apply below_drew1) | exact HB.out)⟩
                        · rw [if_neg c18] at H
                          have c18b0 : decide ((wrap64 ((wrap64 ((a0.size : Int) - a1)) - 8)) < (wrap64 ((wrap64 (t153)) + 4))) = false := decide_eq_false c18
                          clear c18
                          obtain ⟨ji20, hji20⟩ : ∃ j_ : Int, (wrap64 (a1 + 8)) = j_ := ⟨_, rfl⟩
                          replace H : (if 0 ≤ (ji20) then (if (ji20) ≤ (wrap64 ((wrap64 (a1 + 12)) + (wrap64 (t153)))) then (if (wrap64 ((wrap64 (a1 + 12)) + (wrap64 (t153)))) ≤ (a0.size : Int) then ((concordanceref1_Open.f (a0.extract ((ji20) : Int).toNat ((wrap64 ((wrap64 (a1 + 12)) + (wrap64 (t153)))) : Int).toNat)).bind fun bt156 => (if bt156.2 = 0 then (some (wrap64 (bt t151 0), bt156.1, wrap64 ((wrap64 (a1 + 12)) + (wrap64 (t153))), 0)) else (some (0, (⟨#[]⟩ : ByteArray), 0, bt156.2)))) else (none)) else (none)) else (none)) = some (r1, r2, r3, r4) := by first | (rw [hji20] at H; exact H) | (simp only [hji20] at H ⊢; exact H)
                          (try rw [hji20] at c8b0)
                          (try rw [hji20] at c8b1)
                          (try rw [hji20] at c8)
                          (try rw [hji20] at c9b0)
                          (try rw [hji20] at c9b1)
                          (try rw [hji20] at c9)
                          (try rw [hji20] at A10)
                          (try rw [hji20] at A13)
                          (try rw [hji20] at A16)
                          have hji20w : (IntKind.i64.wrap (a1 + 8)) = ji20 := (i64_w _).trans hji20
                          by_cases c21 : 0 ≤ (ji20)
                          · rw [if_pos c21] at H
                            have c21b0 := eq_true c21
                            have c21b1 : decide (0 ≤ (ji20)) = true := decide_eq_true c21
                            clear c21
                            by_cases c22 : (ji20) ≤ (wrap64 ((wrap64 (a1 + 12)) + (wrap64 (t153))))
                            · rw [if_pos c22] at H
                              have c22b0 := eq_true c22
                              have c22b1 : decide ((ji20) ≤ (wrap64 ((wrap64 (a1 + 12)) + (wrap64 (t153))))) = true := decide_eq_true c22
                              by_cases c23 : (wrap64 ((wrap64 (a1 + 12)) + (wrap64 (t153)))) ≤ (a0.size : Int)
                              · rw [if_pos c23] at H
                                have c23b0 := eq_true c23
                                have c23b1 : decide ((wrap64 ((wrap64 (a1 + 12)) + (wrap64 (t153)))) ≤ (a0.size : Int)) = true := decide_eq_true c23
                                replace H := Option.bind_eq_some_iff.mp H
                                obtain ⟨⟨t156, t157⟩, A240, H⟩ := H
                                replace H : (if t157 = 0 then (some (wrap64 (bt t151 0), t156, wrap64 ((wrap64 (a1 + 12)) + (wrap64 (t153))), 0)) else (some (0, (⟨#[]⟩ : ByteArray), 0, t157))) = some (r1, r2, r3, r4) := H
                                have A24 := Aside0.mk A240
                                clear A240
                                by_cases c25 : t157 = 0
                                · rw [if_pos c25] at H
                                  have c25b0 : (t157 == 0) = true := beq_iff_eq.mpr c25
                                  have c25b1 : (t157 != 0) = false := bne_eq_false_iff_eq.mpr c25
                                  clear c25
                                  simp only [Option.some.injEq, Prod.mk.injEq] at H
                                  obtain ⟨rfl, rfl, rfl, rfl⟩ := H
                                  go_wp2_with (first | ((with_reducible refine gate_callee (f := 26) rfl ?_); refine goesL_ (some 33) rfl rfl Try.func26 (by kernel_rfl) rfl #[.string (a0.extract (a1 : Int).toNat ((ji20) : Int).toNat)] rfl (by (try simp only [List.map_toArray, List.map_cons, List.map_nil]); first | done | (simp only [hji20]; rfl) | rfl | (simp only [List.length_drop, List.length_take]; rfl)) ?_; (with_reducible refine (concordanceref1_Open.calls (a0.extract (a1 : Int).toNat ((ji20) : Int).toNat) t151 t152 _ A10.out).mono ?_); rintro e w27 ⟨rfl, hb⟩; refine ⟨_, rfl, ?_⟩; have n0_ := Aside0.mk (below_step (by repeat (first | (with_reducible first | exact HB.out | apply below_alloc | apply pw_below_drewN | apply below_drew1) | exact HB.out)) hb); clear HB; have HB := n0_; clear n0_; (try clear hb); (try clear hb2); (try clear hk); (try clear hi)) | ((with_reducible refine gate_callee (f := 27) rfl ?_); refine goesL_ (some 42) rfl rfl Try.func27 (by kernel_rfl) rfl #[.string (t151.extract 1 t151.size), .int .i64 3] rfl (by (try simp only [List.map_toArray, List.map_cons, List.map_nil]); first | done | rfl | (simp only [List.length_drop, List.length_take]; rfl)) ?_; (with_reducible refine (concordanceref1_Fixed.calls kj2 (t151.extract 1 t151.size) 3 t153 t154 _ A13.out).mono ?_); rintro e w' ⟨rfl, ⟨nd, rfl⟩⟩; refine ⟨_, rfl, ?_⟩; have p15 : 0 ≤ (0 : Int) := (by omega); have q15 : 0 < t151.size := (by have : (0 : Int) < (t151.size : Int) := of_decide_eq_true (by first | (with_reducible assumption) | assumption); omega); have hx15 : ∀ h : 0 < t151.size, ((t151[0]'h).toNat : Int) = bt t151 0 := bt_at t151 0; clear p15; have qi15 : (0 < (t151.size : Int)) = True := eq_true (of_decide_eq_true (by first | (with_reducible assumption) | assumption)); replace q15 := eq_true q15) | ((with_reducible refine gate_callee (f := 12) rfl ?_); refine goesL_ (some 51) rfl rfl Try.func12 (by kernel_rfl) rfl #[.int .i64 (wrap64 (bt t151 0)), .int .i64 (wrap64 (t153))] rfl (by (try simp only [List.map_toArray, List.map_cons, List.map_nil]); first | done | rfl | (simp only [List.length_drop, List.length_take]; rfl)) ?_; (with_reducible refine (concordanceref1_FrameOk.calls kj2 (wrap64 (bt t151 0)) (wrap64 (t153)) t155 _ A16.out).mono ?_); rintro e w' ⟨rfl, ⟨nd, rfl⟩⟩; refine ⟨_, rfl, ?_⟩) | ((with_reducible refine gate_callee (f := 26) rfl ?_); refine goesL_ (some 70) rfl rfl Try.func26 (by kernel_rfl) rfl #[.string (a0.extract ((ji20) : Int).toNat ((wrap64 ((wrap64 (a1 + 12)) + (wrap64 (t153)))) : Int).toNat)] rfl (by (try simp only [List.map_toArray, List.map_cons, List.map_nil]); first | done | (simp only [hji20]; rfl) | rfl | (simp only [List.length_drop, List.length_take]; rfl)) ?_; (with_reducible refine (concordanceref1_Open.calls (a0.extract ((ji20) : Int).toNat ((wrap64 ((wrap64 (a1 + 12)) + (wrap64 (t153)))) : Int).toNat) t156 t157 _ A24.out).mono ?_); rintro e w28 ⟨rfl, hb⟩; refine ⟨_, rfl, ?_⟩; have n0_ := Aside0.mk (below_step (by repeat (first | (with_reducible first | exact HB.out | apply below_alloc | apply pw_below_drewN | apply below_drew1) | exact HB.out)) hb); clear HB; have HB := n0_; clear n0_; (try clear hb); (try clear hb2); (try clear hk); (try clear hi); have p26 : 0 ≤ (0 : Int) := (by omega); have q26 : 0 < t151.size := (by have : (0 : Int) < (t151.size : Int) := of_decide_eq_true (by first | (with_reducible assumption) | assumption); omega); have hx26 : ∀ h : 0 < t151.size, ((t151[0]'h).toNat : Int) = bt t151 0 := bt_at t151 0; clear p26; have qi26 : (0 < (t151.size : Int)) = True := eq_true (of_decide_eq_true (by first | (with_reducible assumption) | assumption)); replace q26 := eq_true q26))
                                  refine bodyPost_ret (results_list (rs := [.tmp 4, .tmp 5, .tmp 6, .tmp 7]) rfl (by simp) (.tmp (.tmp (.tmp (.tmp .nil))))) rfl ?_
                                  exact ⟨by first | rfl | (simp [errW_none, errW_some] <;> rfl) | (simp only [← hji20]; first | rfl | (simp [errW_none, errW_some] <;> rfl)) | (simp [*, errW_none, errW_some] <;> rfl), by repeat (first | (with_reducible first | exact HB.out | apply below_alloc | apply pw_below_drewN | apply below_drew1) | exact HB.out)⟩
                                · rw [if_neg c25] at H
                                  have c25b0 : (t157 == 0) = false := beq_eq_false_iff_ne.mpr c25
                                  have c25b1 : (t157 != 0) = true := bne_iff_ne.mpr c25
                                  simp only [Option.some.injEq, Prod.mk.injEq] at H
                                  obtain ⟨rfl, rfl, rfl, rfl⟩ := H
                                  go_wp2_with (first | ((with_reducible refine gate_callee (f := 26) rfl ?_); refine goesL_ (some 33) rfl rfl Try.func26 (by kernel_rfl) rfl #[.string (a0.extract (a1 : Int).toNat ((ji20) : Int).toNat)] rfl (by (try simp only [List.map_toArray, List.map_cons, List.map_nil]); first | done | (simp only [hji20]; rfl) | rfl | (simp only [List.length_drop, List.length_take]; rfl)) ?_; (with_reducible refine (concordanceref1_Open.calls (a0.extract (a1 : Int).toNat ((ji20) : Int).toNat) t151 t152 _ A10.out).mono ?_); rintro e w29 ⟨rfl, hb⟩; refine ⟨_, rfl, ?_⟩; have n0_ := Aside0.mk (below_step (by repeat (first | (with_reducible first | exact HB.out | apply below_alloc | apply pw_below_drewN | apply below_drew1) | exact HB.out)) hb); clear HB; have HB := n0_; clear n0_; (try clear hb); (try clear hb2); (try clear hk); (try clear hi)) | ((with_reducible refine gate_callee (f := 27) rfl ?_); refine goesL_ (some 42) rfl rfl Try.func27 (by kernel_rfl) rfl #[.string (t151.extract 1 t151.size), .int .i64 3] rfl (by (try simp only [List.map_toArray, List.map_cons, List.map_nil]); first | done | rfl | (simp only [List.length_drop, List.length_take]; rfl)) ?_; (with_reducible refine (concordanceref1_Fixed.calls kj2 (t151.extract 1 t151.size) 3 t153 t154 _ A13.out).mono ?_); rintro e w' ⟨rfl, ⟨nd, rfl⟩⟩; refine ⟨_, rfl, ?_⟩; have p15 : 0 ≤ (0 : Int) := (by omega); have q15 : 0 < t151.size := (by have : (0 : Int) < (t151.size : Int) := of_decide_eq_true (by first | (with_reducible assumption) | assumption); omega); have hx15 : ∀ h : 0 < t151.size, ((t151[0]'h).toNat : Int) = bt t151 0 := bt_at t151 0; clear p15; have qi15 : (0 < (t151.size : Int)) = True := eq_true (of_decide_eq_true (by first | (with_reducible assumption) | assumption)); replace q15 := eq_true q15) | ((with_reducible refine gate_callee (f := 12) rfl ?_); refine goesL_ (some 51) rfl rfl Try.func12 (by kernel_rfl) rfl #[.int .i64 (wrap64 (bt t151 0)), .int .i64 (wrap64 (t153))] rfl (by (try simp only [List.map_toArray, List.map_cons, List.map_nil]); first | done | rfl | (simp only [List.length_drop, List.length_take]; rfl)) ?_; (with_reducible refine (concordanceref1_FrameOk.calls kj2 (wrap64 (bt t151 0)) (wrap64 (t153)) t155 _ A16.out).mono ?_); rintro e w' ⟨rfl, ⟨nd, rfl⟩⟩; refine ⟨_, rfl, ?_⟩) | ((with_reducible refine gate_callee (f := 26) rfl ?_); refine goesL_ (some 70) rfl rfl Try.func26 (by kernel_rfl) rfl #[.string (a0.extract ((ji20) : Int).toNat ((wrap64 ((wrap64 (a1 + 12)) + (wrap64 (t153)))) : Int).toNat)] rfl (by (try simp only [List.map_toArray, List.map_cons, List.map_nil]); first | done | (simp only [hji20]; rfl) | rfl | (simp only [List.length_drop, List.length_take]; rfl)) ?_; (with_reducible refine (concordanceref1_Open.calls (a0.extract ((ji20) : Int).toNat ((wrap64 ((wrap64 (a1 + 12)) + (wrap64 (t153)))) : Int).toNat) t156 t157 _ A24.out).mono ?_); rintro e w30 ⟨rfl, hb⟩; refine ⟨_, rfl, ?_⟩; have n0_ := Aside0.mk (below_step (by repeat (first | (with_reducible first | exact HB.out | apply below_alloc | apply pw_below_drewN | apply below_drew1) | exact HB.out)) hb); clear HB; have HB := n0_; clear n0_; (try clear hb); (try clear hb2); (try clear hk); (try clear hi)))
                                  refine bodyPost_ret (results_list (rs := [.tmp 4, .tmp 5, .tmp 6, .tmp 7]) rfl (by simp) (.tmp (.tmp (.tmp (.tmp .nil))))) rfl ?_
                                  exact ⟨by first | rfl | (simp [errW_none, errW_some] <;> rfl) | (simp only [← hji20]; first | rfl | (simp [errW_none, errW_some] <;> rfl)) | (simp [*, errW_none, errW_some] <;> rfl), by repeat (first | (with_reducible first | exact HB.out | apply below_alloc | apply pw_below_drewN | apply below_drew1) | exact HB.out)⟩
                              · rw [if_neg c23] at H
                                exact absurd H (by simp)
                            · rw [if_neg c22] at H
                              exact absurd H (by simp)
                          · rw [if_neg c21] at H
                            exact absurd H (by simp)
                      · rw [if_neg c17] at H
                        have c17b0 : (t155 == 0) = false := beq_eq_false_iff_ne.mpr c17
                        have c17b1 : (t155 != 0) = true := bne_iff_ne.mpr c17
                        simp only [Option.some.injEq, Prod.mk.injEq] at H
                        obtain ⟨rfl, rfl, rfl, rfl⟩ := H
                        go_wp2_with (first | ((with_reducible refine gate_callee (f := 26) rfl ?_); refine goesL_ (some 33) rfl rfl Try.func26 (by kernel_rfl) rfl #[.string (a0.extract (a1 : Int).toNat ((wrap64 (a1 + 8)) : Int).toNat)] rfl (by (try simp only [List.map_toArray, List.map_cons, List.map_nil]); first | done | rfl | (simp only [List.length_drop, List.length_take]; rfl)) ?_; (with_reducible refine (concordanceref1_Open.calls (a0.extract (a1 : Int).toNat ((wrap64 (a1 + 8)) : Int).toNat) t151 t152 _ A10.out).mono ?_); rintro e w31 ⟨rfl, hb⟩; refine ⟨_, rfl, ?_⟩; have n0_ := Aside0.mk (below_step (by repeat (first | (with_reducible first | exact HB.out | apply below_alloc | apply pw_below_drewN | apply below_drew1) | exact HB.out)) hb); clear HB; have HB := n0_; clear n0_; (try clear hb); (try clear hb2); (try clear hk); (try clear hi)) | ((with_reducible refine gate_callee (f := 27) rfl ?_); refine goesL_ (some 42) rfl rfl Try.func27 (by kernel_rfl) rfl #[.string (t151.extract 1 t151.size), .int .i64 3] rfl (by (try simp only [List.map_toArray, List.map_cons, List.map_nil]); first | done | rfl | (simp only [List.length_drop, List.length_take]; rfl)) ?_; (with_reducible refine (concordanceref1_Fixed.calls kj2 (t151.extract 1 t151.size) 3 t153 t154 _ A13.out).mono ?_); rintro e w' ⟨rfl, ⟨nd, rfl⟩⟩; refine ⟨_, rfl, ?_⟩; have p15 : 0 ≤ (0 : Int) := (by omega); have q15 : 0 < t151.size := (by have : (0 : Int) < (t151.size : Int) := of_decide_eq_true (by first | (with_reducible assumption) | assumption); omega); have hx15 : ∀ h : 0 < t151.size, ((t151[0]'h).toNat : Int) = bt t151 0 := bt_at t151 0; clear p15; have qi15 : (0 < (t151.size : Int)) = True := eq_true (of_decide_eq_true (by first | (with_reducible assumption) | assumption)); replace q15 := eq_true q15) | ((with_reducible refine gate_callee (f := 12) rfl ?_); refine goesL_ (some 51) rfl rfl Try.func12 (by kernel_rfl) rfl #[.int .i64 (wrap64 (bt t151 0)), .int .i64 (wrap64 (t153))] rfl (by (try simp only [List.map_toArray, List.map_cons, List.map_nil]); first | done | rfl | (simp only [List.length_drop, List.length_take]; rfl)) ?_; (with_reducible refine (concordanceref1_FrameOk.calls kj2 (wrap64 (bt t151 0)) (wrap64 (t153)) t155 _ A16.out).mono ?_); rintro e w' ⟨rfl, ⟨nd, rfl⟩⟩; refine ⟨_, rfl, ?_⟩))
                        refine bodyPost_ret (results_list (rs := [.tmp 4, .tmp 5, .tmp 6, .tmp 7]) rfl (by simp) (.tmp (.tmp (.tmp (.tmp .nil))))) rfl ?_
                        exact ⟨by first | rfl | (simp [errW_none, errW_some] <;> rfl) | (simp [*, errW_none, errW_some] <;> rfl), by repeat (first | (with_reducible first | exact HB.out | apply below_alloc | apply pw_below_drewN | apply below_drew1) | exact HB.out)⟩
                    · rw [if_neg c14] at H
                      exact absurd H (by simp)
                  · rw [if_neg c12] at H
                    exact absurd H (by simp)
                · rw [if_neg c11] at H
                  have c11b0 : (t152 == 0) = false := beq_eq_false_iff_ne.mpr c11
                  have c11b1 : (t152 != 0) = true := bne_iff_ne.mpr c11
                  simp only [Option.some.injEq, Prod.mk.injEq] at H
                  obtain ⟨rfl, rfl, rfl, rfl⟩ := H
                  go_wp2_with (first | ((with_reducible refine gate_callee (f := 26) rfl ?_); refine goesL_ (some 33) rfl rfl Try.func26 (by kernel_rfl) rfl #[.string (a0.extract (a1 : Int).toNat ((wrap64 (a1 + 8)) : Int).toNat)] rfl (by (try simp only [List.map_toArray, List.map_cons, List.map_nil]); first | done | rfl | (simp only [List.length_drop, List.length_take]; rfl)) ?_; (with_reducible refine (concordanceref1_Open.calls (a0.extract (a1 : Int).toNat ((wrap64 (a1 + 8)) : Int).toNat) t151 t152 _ A10.out).mono ?_); rintro e w32 ⟨rfl, hb⟩; refine ⟨_, rfl, ?_⟩; have n0_ := Aside0.mk (below_step (by repeat (first | (with_reducible first | exact HB.out | apply below_alloc | apply pw_below_drewN | apply below_drew1) | exact HB.out)) hb); clear HB; have HB := n0_; clear n0_; (try clear hb); (try clear hb2); (try clear hk); (try clear hi)))
                  refine bodyPost_ret (results_list (rs := [.tmp 4, .tmp 5, .tmp 6, .tmp 7]) rfl (by simp) (.tmp (.tmp (.tmp (.tmp .nil))))) rfl ?_
                  exact ⟨by first | rfl | (simp [errW_none, errW_some] <;> rfl) | (simp [*, errW_none, errW_some] <;> rfl), by repeat (first | (with_reducible first | exact HB.out | apply below_alloc | apply pw_below_drewN | apply below_drew1) | exact HB.out)⟩
              · rw [if_neg c9] at H
                exact absurd H (by simp)
            · rw [if_neg c8] at H
              exact absurd H (by simp)
          · rw [if_neg c7] at H
            exact absurd H (by simp)

end Go.Proofs.Ytcnapbpljghfoaa.PCrc

/- Plain facts on numbers as bytes, without any program: the groups of seven bits of a number (encN), the bytes of a fixed size (fixL), and what reads them again. -/
namespace Go.Proofs.Ytcnapbpljghfoaa.Plain

/-- The document's encoding: groups of seven bits, the least first. -/
def encN (n : Nat) : List Int := if h : n < 128 then [(n : Int)] else ((n % 128 + 128 : Nat) : Int) :: encN (n / 128)
termination_by n
decreasing_by omega

theorem encN_lt {n : Nat} (h : n < 128) : encN n = [(n : Int)] := by rw [encN, dif_pos h]
theorem encN_ge {n : Nat} (h : 128 ≤ n) : encN n = ((n % 128 + 128 : Nat) : Int) :: encN (n / 128) := by rw [encN, dif_neg (by omega)]
theorem or128 (x : Int) (h : 0 ≤ x) : Go.bits .or .u8 (x % 256) 128 = ((x.toNat % 128 + 128 : Nat) : Int) := by
  obtain ⟨n, rfl⟩ := Int.eq_ofNat_of_zero_le h
  have e : ((n : Int) % 256) = ((n % 256 : Nat) : Int) := by omega
  rw [e, show (128 : Int) = ((128 : Nat) : Int) from rfl, Go.u8_or_nat _ 128 (by omega) (by omega), Int.toNat_natCast]
  have k : ∀ m : Nat, m < 256 → m ||| 128 = m % 128 + 128 := by decide +kernel
  rw [k _ (by omega)]
  congr 2
  omega
theorem encN_step {x : Int} (h : 128 ≤ x) : encN x.toNat = Go.bits .or .u8 (x % 256) 128 :: encN (x / 128).toNat := by
  rw [encN_ge (by omega), or128 x (by omega)]
  congr 2
  omega
theorem encN_last {x : Int} (h0 : 0 ≤ x) (h : x < 128) : encN x.toNat = [x % 256] := by
  rw [encN_lt (by omega)]
  congr 1
  omega

theorem encN_length_le (k : Nat) : ∀ n : Nat, n < 2 ^ (7 * k + 7) → (encN n).length ≤ k + 1 := by
  induction k with
  | zero =>
    intro n h
    rw [encN_lt (by omega)]
    simp
  | succ k ih =>
    intro n h
    by_cases hn : n < 128
    · rw [encN_lt hn]; simp
    · rw [encN_ge (by omega)]
      have := ih (n / 128) (by
        rw [Nat.div_lt_iff_lt_mul (by omega)]
        have e : 2 ^ (7 * (k + 1) + 7) = 2 ^ (7 * k + 7) * 128 := by rw [show 7 * (k + 1) + 7 = (7 * k + 7) + 7 from by omega, Nat.pow_add]
        omega)
      simp only [List.length_cons]
      omega
theorem encN_len64 {n : Nat} (h : n < 18446744073709551616) : (encN n).length ≤ 10 := encN_length_le 9 n (by omega)
theorem encN_pos (n : Nat) : 0 < (encN n).length := by
  rw [encN]
  split <;> simp

/-- The size lowest bytes of a number, the greatest first. -/
def fixL (n : Nat) : Nat → List Int
  | 0 => []
  | s + 1 => ((n / 256 ^ s % 256 : Nat) : Int) :: fixL n s
theorem fixL_length (n s : Nat) : (fixL n s).length = s := by
  induction s with
  | zero => rfl
  | succ s ih => simp [fixL, ih]

theorem fixL_step (n : Nat) {i : Int} (h : 0 ≤ i) : fixL n (i + 1).toNat = ((n : Int) / 2 ^ (8 * i).toNat % 256) :: fixL n i.toNat := by
  obtain ⟨m, rfl⟩ := Int.eq_ofNat_of_zero_le h
  rw [show ((m : Int) + 1).toNat = m + 1 from by omega, show (8 * (m : Int)).toNat = 8 * m from by omega, Int.toNat_natCast]
  show ((n / 256 ^ m % 256 : Nat) : Int) :: fixL n m = _
  congr 1
  rw [show (256 : Nat) = 2 ^ 8 from rfl, ← Nat.pow_mul]
  rw [Int.natCast_emod, Int.natCast_ediv, Int.natCast_pow]
  rfl
/-- What a row of bytes tells, the greatest first, behind n. -/
def valB (n : Nat) : List Int → Nat
  | [] => n
  | c :: r => valB (n * 256 + c.toNat) r

/-- What a row of bytes begins with, from group i on, n being told so far: the number, its size, the error (4: it ends; 3: it is none). -/
def takeL : Nat → Nat → List Int → Int × Int × Int
  | _, _, [] => (0, 0, 4)
  | i, n, c :: r => if i = 9 ∧ c > 1 then (0, 0, 3) else if c < 128 then (if c = 0 ∧ i > 0 then (0, 0, 3) else (((n + c.toNat * 128 ^ i : Nat) : Int), (i : Int) + 1, 0)) else takeL (i + 1) (n + c.toNat % 128 * 128 ^ i) r
def takeT (l : List Int) : Int × Int × Int := takeL 0 0 l

theorem encN_take_go (m : Nat) : ∀ (i n : Nat) (r : List Int), n < 128 ^ i → i ≤ 9 → n + m * 128 ^ i < 18446744073709551616 → (0 < m ∨ i = 0) → takeL i n (encN m ++ r) = (((n + m * 128 ^ i : Nat) : Int), (i : Int) + (encN m).length, 0) := by
  induction m using Nat.strongRecOn with
  | _ m ih =>
    intro i n r hn hi hlt hpos
    have hp : 0 < 128 ^ i := Nat.pow_pos (by omega)
    by_cases hm : m < 128
    · rw [encN_lt hm]
      simp only [List.cons_append, List.nil_append, takeL]
      rw [if_neg (by
        rintro ⟨rfl, h1⟩
        have : m * 128 ^ 9 < 18446744073709551616 := by omega
        have e : (128 : Nat) ^ 9 = 9223372036854775808 := by decide
        rw [e] at this
        omega), if_pos (by omega), if_neg (by omega), Int.toNat_natCast]
      simp
    · rw [encN_ge (by omega)]
      simp only [List.cons_append, takeL]
      have hi9 : i < 9 := by
        rcases Nat.lt_or_ge i 9 with h | h
        · exact h
        · have : i = 9 := by omega
          subst this
          have e : (128 : Nat) ^ 9 = 9223372036854775808 := by decide
          rw [e] at hlt
          omega
      rw [if_neg (by omega), if_neg (by omega), Int.toNat_natCast]
      have e1 : (m % 128 + 128) % 128 = m % 128 := by omega
      have e2 : 128 ^ (i + 1) = 128 * 128 ^ i := by rw [Nat.pow_succ, Nat.mul_comm]
      have e3 : n + m % 128 * 128 ^ i + m / 128 * 128 ^ (i + 1) = n + m * 128 ^ i := by
        rw [e2, ← Nat.mul_assoc, Nat.add_assoc, ← Nat.add_mul]
        congr 2
        omega
      rw [e1, ih (m / 128) (by omega) (i + 1) _ r ?_ (by omega) (by rw [e3]; exact hlt) (by omega), e3]
      · simp only [List.length_cons, Prod.mk.injEq, true_and, and_true]
        omega
      · rw [e2]
        have : m % 128 * 128 ^ i ≤ 127 * 128 ^ i := Nat.mul_le_mul_right _ (by omega)
        omega
/-- Taken is what was put. -/
theorem encN_take {m : Nat} (h : m < 18446744073709551616) (r : List Int) : takeT (encN m ++ r) = ((m : Int), ((encN m).length : Int), 0) := by
  unfold takeT
  rw [encN_take_go m 0 0 r (by simp) (by omega) (by simpa using h) (.inr rfl)]
  simp

/-- An encoding that is cut is torn. -/
theorem encN_torn_go (m : Nat) : ∀ (i n : Nat) (k : Nat), i ≤ 9 → n + m * 128 ^ i < 18446744073709551616 → k < (encN m).length → takeL i n ((encN m).take k) = (0, 0, 4) := by
  induction m using Nat.strongRecOn with
  | _ m ih =>
    intro i n k hi hlt hk
    cases k with
    | zero => rw [List.take_zero]; rfl
    | succ k =>
      by_cases hm : m < 128
      · rw [encN_lt hm] at hk
        simp at hk
      · rw [encN_ge (by omega)] at hk ⊢
        simp only [List.take_succ_cons, takeL]
        have hi9 : i < 9 := by
          rcases Nat.lt_or_ge i 9 with h | h
          · exact h
          · have : i = 9 := by omega
            subst this
            have e : (128 : Nat) ^ 9 = 9223372036854775808 := by decide
            rw [e] at hlt
            omega
        rw [if_neg (by omega), if_neg (by omega), Int.toNat_natCast]
        have e1 : (m % 128 + 128) % 128 = m % 128 := by omega
        have e2 : 128 ^ (i + 1) = 128 * 128 ^ i := by rw [Nat.pow_succ, Nat.mul_comm]
        have e3 : n + m % 128 * 128 ^ i + m / 128 * 128 ^ (i + 1) = n + m * 128 ^ i := by
          rw [e2, ← Nat.mul_assoc, Nat.add_assoc, ← Nat.add_mul]
          congr 2
          omega
        rw [e1]
        exact ih (m / 128) (by omega) (i + 1) _ k (by omega) (by rw [e3]; exact hlt) (by simpa using hk)
theorem encN_torn {m : Nat} (h : m < 18446744073709551616) {k : Nat} (hk : k < (encN m).length) : takeT ((encN m).take k) = (0, 0, 4) :=
  encN_torn_go m 0 0 k (by omega) (by simpa using h) hk

theorem encN_bytes (m : Nat) : ∀ x ∈ encN m, 0 ≤ x ∧ x < 256 := by
  induction m using Nat.strongRecOn with
  | _ m ih =>
    intro x hx
    by_cases hm : m < 128
    · rw [encN_lt hm] at hx
      simp at hx
      omega
    · rw [encN_ge (by omega)] at hx
      rcases List.mem_cons.1 hx with rfl | hx
      · omega
      · exact ih (m / 128) (by omega) x hx
end Go.Proofs.Ytcnapbpljghfoaa.Plain

/- The contracts, proved by hand, of num.Fix and num.Fixed: a number's lowest bytes behind the bytes that came in, the greatest first; the number that so many bytes tell. -/
namespace Go.Proofs.Ytcnapbpljghfoaa.Hand
open Go.RowKit Go.Proofs.YtcnapbpljghfoaaW.PrintWords Go.Proofs.YtcnapbpljghfoaaW.PrintLast Go.Proofs.YtcnapbpljghfoaaW.PrintMore
open Go.Proofs.Ytcnapbpljghfoaa.Plain
attribute [local go_sem] max2_int min2_int max_two min_two
set_option linter.unusedVariables false
set_option linter.unusedSimpArgs false

/-- A size, clamped to 0 to 8. -/
def clamp (s : Int) : Nat := if s < 0 then 0 else if 8 < s then 8 else s.toNat
def fixF (l : List Int) (n : Int) (s : Int) : Option (List Int) := if l.length ≤ 140737488355000 ∧ 0 ≤ n ∧ n < 18446744073709551616 then some (l ++ fixL n.toNat (clamp s)) else none

set_option maxHeartbeats 800000 in
set_option maxRecDepth 100000 in
theorem fix_clipped (A0 : Option Addr) (c0 : Nat) (l0 : List Int) (a1 a2 : Int) (r : List Int) (w : World) (hr0 : Kd.C (Kd.int .u8) w A0 l0.length l0) (h : fixF l0 a1 a2 = some r) :
    Calls Try.prog 19 #[.slice A0 l0.length c0, .int .u64 a1, .int .i64 a2] w fun e w' => ∃ v0_ : Value, e = .returned v0_ ∧ Clipped 5 w' w.heap.size v0_ r ∧ Below w.heap.size w w' := by
  unfold fixF at h
  by_cases hc : l0.length ≤ 140737488355000 ∧ 0 ≤ a1 ∧ a1 < 18446744073709551616
  · rw [if_pos hc] at h
    obtain ⟨hl, h0, h1⟩ := hc
    obtain rfl := Option.some.inj h
    clear h
    have HL := Aside0.mk hl
    obtain ⟨n, rfl⟩ := Int.eq_ofNat_of_zero_le h0
    have HN := Aside0.mk h1
    clear h0 h1 hl
    obtain ⟨j3, hj3⟩ : ∃ j : Int, (if a2 < 0 then 0 else a2) = j := ⟨_, rfl⟩
    obtain ⟨s, hs8, hj4⟩ : ∃ s : Nat, s ≤ 8 ∧ (if 8 < j3 then 8 else j3) = (s : Int) := by
      refine ⟨clamp a2, ?_, ?_⟩
      · unfold clamp; (repeat' split) <;> omega
      · subst hj3; unfold clamp; (repeat' split) <;> omega
    have hcl : clamp a2 = s := by
      have e : ((clamp a2 : Nat) : Int) = (if 8 < j3 then 8 else j3) := by subst hj3; unfold clamp; (repeat' split) <;> omega
      omega
    rw [hcl]
    clear hcl
    go_enter Try.func19, Try.ntmps19
    go_wp2_with (go_at_call 29; refine (clone_calls _ _ l0 _ hr0 (by have := HL.out; omega)).mono ?_; rintro e w1 ⟨v, rfl, ho, hb⟩; have HO := Aside0.mk ho; have HB := Aside0.mk hb; clear ho hb)
    clear hj3 hj4
    have HS := Aside0.mk hs8
    go_loopg [7, 8] s (fun kq v7 v8 w' => ∃ (i : Int) (xs : List Int), v8 = .int .i64 i ∧ Aside0 (-1 ≤ i ∧ i ≤ 7 ∧ (i + 1).toNat ≤ kq) ∧ Aside0 (xs ++ fixL n (i + 1).toNat = l0 ++ fixL n s) ∧ Aside0 (Kd.R (Kd.int .u8) 5 w' w.heap.size (fun _ => True) v7 xs) ∧ Aside0 (Below w.heap.size w w'))
    case atStart => exact ⟨(s : Int) - 1, l0, rfl, ⟨by omega, by omega, by omega⟩, ⟨by rw [show ((s : Int) - 1 + 1).toNat = s from by omega]⟩, ⟨HO.out⟩, ⟨HB.out⟩⟩
    case round =>
      clear HO HB hs8
      obtain ⟨i, xs, rfl, HI, HE, HO, HB⟩ := hrel
      have hi1 := HI.out.1
      have hi2 := HI.out.2.1
      have hxl : xs.length ≤ 140737488355010 := by
        have h2 := congrArg List.length HE.out
        simp only [List.length_append, fixL_length] at h2
        have := HL.out
        have := HS.out
        omega
      have HX := Aside0.mk hxl
      clear hxl
      by_cases c2 : 0 ≤ i
      · go_wp2_with (first | ((with_reducible refine gate_builtin (b := .append) (xs := #[.tmp 19, .tmp 25]) rfl ?_); at_builtin; refine Kd.R_append (Kd.int .u8) (w0 := w) w.heap.size rfl (.tmp 19) (.tmp 25) 22 5 (.int .u8 0) 1 rfl Try.underlying22 hinfo_u8 rfl (by decide) (by omega) _ xs ((n : Int) / 2 ^ (8 * i).toNat % 256) [.int .u8 ((n : Int) / 2 ^ (8 * i).toNat % 256)] (fun _ => True) (fun _ => False) rfl rfl ?aP (fun _ hk => hk.elim) ?aF ?aO ?aB ?aS ?aL ?_; (case aP => exact rfl); (case aB => exact HB.out); (case aF => exact (fun _ _ => trivial)); (case aO => exact HO.out); (case aS => exact (below_size HB.out)); (case aL => have := HX.out; omega); intro v2 w2 ho hb hg hat; clear HB HO; have HO := Aside0.mk ho; have HB := Aside0.mk hb; clear ho hb hg hat))
        go_roundg i.toNat
        case measure => have := HI.out; omega
        case rel => exact ⟨i - 1, xs ++ [(n : Int) / 2 ^ (8 * i).toNat % 256], rfl, ⟨by omega, by omega, by omega⟩, ⟨by have he := HE.out; rw [fixL_step n c2] at he; rw [← he, show (i - 1 + 1).toNat = i.toNat from by omega]; simp⟩, ⟨HO.out⟩, ⟨HB.out⟩⟩
      · have HI2 := Aside0.mk c2
        have hi3 : i < 0 := by omega
        clear c2
        go_wp2_with (go_at_call 30; refine (clip_calls _ _ _ _ HO.out).mono ?_; rintro e w3 ⟨⟨v3, rfl, hcl⟩, rfl⟩; have HCL := Aside0.mk hcl; clear hcl)
        go_ret
        refine ⟨_, rfl, ?_, HB.out⟩
        have he := HE.out
        rw [show (i + 1).toNat = 0 from by omega] at he
        simp only [fixL, List.append_nil] at he
        rw [Int.toNat_natCast, ← he]
        exact HCL.out
  · rw [if_neg hc] at h
    cases h

theorem fix_calls (A0 : Option Addr) (c0 : Nat) (l0 : List Int) (a1 a2 : Int) (r : List Int) (w : World) (hr0 : Kd.C (Kd.int .u8) w A0 l0.length l0) (hc0 : l0.length ≤ c0) (h : fixF l0 a1 a2 = some r) :
    Calls Try.prog 19 #[.slice A0 l0.length c0, .int .u64 a1, .int .i64 a2] w fun e w' => ∃ v0_ : Value, e = .returned (v0_) ∧ Kd.V (Kd.int .u8) 5 w' w.heap.size (fun k_ => (w.heap.size ≤ k_)) v0_ r ∧ Below w.heap.size w w' :=
  (fix_clipped A0 c0 l0 a1 a2 r w hr0 h).mono fun _ _ ⟨v, he, hc, hb⟩ => ⟨v, he, hc.V, hb⟩

/-- What a row of bytes tells, the greatest first, as the machine reckons it. -/
def fixedV (l : List Int) : Int := l.foldl (fun n c => Go.bits .or .u64 (IntKind.u64.wrap (n * 256)) (IntKind.u64.wrap c)) 0
theorem fixedV_snoc (l : List Int) (k : Nat) (h : k < l.length) : fixedV (l.take (k + 1)) = Go.bits .or .u64 (IntKind.u64.wrap (fixedV (l.take k) * 256)) (IntKind.u64.wrap (rd l (k : Int))) := by
  rw [List.take_succ_eq_append_getElem h]
  unfold fixedV rd
  rw [List.foldl_append, Int.toNat_natCast, List.getD_eq_getElem?_getD, List.getElem?_eq_getElem h]
  rfl
/-- The number of the first bytes; 1: the size is out of bounds; 4: too few bytes. -/
def fixedF (l : List Int) (s : Int) : Option (Int × Int) :=
  if s < 0 ∨ 8 < s then some (0, 1) else if (l.length : Int) < s then some (0, 4) else some (fixedV (l.take s.toNat), 0)

set_option maxHeartbeats 800000 in
set_option maxRecDepth 100000 in
theorem fixed_calls (A0 : Option Addr) (c0 : Nat) (l0 : List Int) (a1 : Int) (r1 r2 : Int) (w : World) (hr0 : Kd.C (Kd.int .u8) w A0 l0.length l0) (hc0 : l0.length ≤ c0) (h : fixedF l0 a1 = some (r1, r2)) :
    Calls Try.prog 23 #[.slice A0 l0.length c0, .int .i64 a1] w fun e w' => e = .returned (.tuple #[.int .u64 r1, .int .i64 r2]) ∧ Drawn0 w w' := by
  have HR := Aside0.mk hr0
  clear hr0
  unfold fixedF at h
  by_cases h1 : a1 < 0 ∨ 8 < a1
  · rw [if_pos h1] at h
    injection h with h
    injection h with e1 e2
    subst e1 e2
    by_cases h2 : a1 < 0
    · have d1 : decide (a1 < 0) = true := decide_eq_true h2
      go_enter Try.func23, Try.ntmps23
      go_wp2
      go_ret2
      exact ⟨rfl, Drawn0.refl _⟩
    · have d1 : decide (a1 < 0) = false := decide_eq_false h2
      have h3 : 8 < a1 := by omega
      go_enter Try.func23, Try.ntmps23
      go_wp2
      go_ret2
      exact ⟨rfl, Drawn0.refl _⟩
  · rw [if_neg h1] at h
    have g1 : 0 ≤ a1 := by omega
    have g2 : a1 ≤ 8 := by omega
    have d1 : decide (a1 < 0) = false := decide_eq_false (by omega)
    have d2 : decide (8 < a1) = false := decide_eq_false (by omega)
    by_cases h2 : (l0.length : Int) < a1
    · rw [if_pos h2] at h
      injection h with h
      injection h with e1 e2
      subst e1 e2
      have d3 : decide ((l0.length : Int) < a1) = true := decide_eq_true h2
      go_enter Try.func23, Try.ntmps23
      go_wp2
      go_ret2
      exact ⟨rfl, Drawn0.refl _⟩
    · rw [if_neg h2] at h
      injection h with h
      injection h with e1 e2
      subst e1 e2
      have d3 : decide ((l0.length : Int) < a1) = false := decide_eq_false h2
      obtain ⟨s, rfl⟩ := Int.eq_ofNat_of_zero_le g1
      have hs : s ≤ l0.length := by omega
      have hsc : s ≤ c0 := by omega
      rw [Int.toNat_natCast]
      have d4 : decide (l0.length < s) = false := decide_eq_false (by omega)
      clear h1 h2
      have HS := Aside0.mk hs
      go_enter Try.func23, Try.ntmps23
      go_wp2
      go_loopg [6, 25] s (fun kq v6 v25 w' => ∃ k : Nat, v25 = .int .i64 (k : Int) ∧ Aside0 (k ≤ s ∧ kq + k = s) ∧ v6 = .int .u64 (fixedV (l0.take k)) ∧ Drawn0 w w')
      case atStart => exact ⟨0, rfl, ⟨by omega, by omega⟩, rfl, Drawn0.refl _⟩
      case round =>
        obtain ⟨k, rfl, HK, rfl, ⟨m2, rfl⟩⟩ := hrel
        have hkl : k ≤ l0.length := by have := HK.out; omega
        by_cases c : k < s
        · obtain ⟨ad, e, hx⟩ := Kd.at_int HR.out (k : Int) (by omega) (by omega)
          cases e
          rw [Int.toNat_natCast] at hx
          have hb : decide (k < s) = true := decide_eq_true c
          go_wp2
          go_roundg (s - (k + 1))
          case measure => have := HK.out; omega
          case rel =>
            refine ⟨k + 1, by go_num, ⟨by omega, by have := HK.out; omega⟩, ?_, by repeat (first | exact Drawn0.refl _ | apply Drawn0.step)⟩
            rw [fixedV_snoc l0 k (by omega)]
        · have hk : k = s := by have := HK.out; omega
          subst hk
          have hb : decide (k < k) = false := decide_eq_false (Nat.lt_irrefl k)
          go_wp2
          go_ret2
          exact ⟨rfl, by repeat (first | exact Drawn0.refl _ | apply Drawn0.step)⟩
end Go.Proofs.Ytcnapbpljghfoaa.Hand

/- Printed by a program of this session (drv.py) from the translation of this seat: functions, their contracts, rows. -/
namespace Go.Proofs.Ytcnapbpljghfoaa.PCrc
open Go.RowKit Go.Proofs.YtcnapbpljghfoaaW.PrintWords Go.Proofs.YtcnapbpljghfoaaW.PrintLast Go.Proofs.YtcnapbpljghfoaaW.PrintMore
attribute [local go_sem] max2_int min2_int max_two min_two max_three min_three max_four min_four   -- for this text's walks alone
set_option linter.unusedVariables false
set_option linter.unusedSimpArgs false

/-! ### num_Fix: function 19 (by hand) -/
def num_Fix.f (l0 : List Int) (a1 : Int) (a2 : Int) : Option (List Int) := Go.Proofs.Ytcnapbpljghfoaa.Hand.fixF l0 a1 a2
theorem num_Fix.calls (A0 : Option Addr) (c0 : Nat) (l0 : List Int) (a1 : Int) (a2 : Int) (r : List Int) (w : World) (hr0 : Kd.C (Kd.int .u8) w A0 l0.length l0) (hc0 : l0.length ≤ c0) (h : num_Fix.f l0 a1 a2 = some r) :
    Calls Try.prog 19 #[.slice A0 l0.length c0, .int .u64 a1, .int .i64 a2] w fun e w' => ∃ v0_ : Value, e = .returned (v0_) ∧ Kd.V (Kd.int .u8) 5 w' w.heap.size (fun k_ => (w.heap.size ≤ k_)) v0_ r ∧ Below w.heap.size w w' :=
  Go.Proofs.Ytcnapbpljghfoaa.Hand.fix_calls _ _ _ _ _ _ _ hr0 hc0 h

end Go.Proofs.Ytcnapbpljghfoaa.PCrc

/- The contract, proved by hand, of slices.Grow at bytes, of nil: an empty row of the call's own. -/
namespace Go.Proofs.Ytcnapbpljghfoaa.Hand
open Go.RowKit Go.Proofs.YtcnapbpljghfoaaW.PrintWords Go.Proofs.YtcnapbpljghfoaaW.PrintLast Go.Proofs.YtcnapbpljghfoaaW.PrintMore
set_option linter.unusedVariables false
set_option linter.unusedSimpArgs false

set_option maxHeartbeats 800000 in
set_option maxRecDepth 100000 in
theorem grow_calls (n : Nat) (w : World) (hn : n ≤ 140737488355328) :
    Calls Try.prog 31 #[.slice none 0 0, .int .i64 (n : Int)] w fun e w' => ∃ v0_ : Value, e = .returned v0_ ∧ Kd.R (Kd.int .u8) 5 w' w.heap.size (fun _ => True) v0_ ([] : List Int) ∧ Below w.heap.size w w' := by
  have d0 : decide ((n : Int) < 0) = false := decide_eq_false (by omega)
  by_cases h0 : n = 0
  · subst h0
    go_enter Try.func31, Try.ntmps31
    go_wp2
    go_ret
    exact ⟨_, rfl, Kd.R_nil _ _ _ _ _, Below.refl _ _⟩
  · have d1 : decide (0 < (n : Int)) = true := decide_eq_true (by omega)
    obtain ⟨i, hi, hz, h1, h2⟩ : ∃ i, Try.prog.info? 5 = some i ∧ i.zero = some (.int .u8 0) ∧ i.size = 1 ∧ i.bytes = 1 := ⟨_, rfl, rfl, rfl, rfl⟩
    have hrun := fun ty => Lib.run_append_nil_zeros (P := Try.prog) w 22 3 ty 5 i (.int .u8 0) .i64 .i64 Try.underlying22 Try.underlying3 hi hz n (by omega) (by omega) (by omega) (by rw [h2]; omega)
    have hw : wrap64 ((n : Int) - 0) = (n : Int) := by unfold wrap64; omega
    go_enter Try.func31, Try.ntmps31
    go_wp2_with ((with_reducible refine gate_builtin (b := .append) (xs := #[.tmp 20, .tmp 21]) rfl ?_); refine Lib.wpList_append_run w rfl (.tmp 20) (.tmp 21) 22 3 rfl _ _ rfl rfl _ _ (hrun _) ?_)
    go_ret
    have hge := grownCap_ge w n 0 5
    have hle := grownCap_le_maxLen w n 0 5 (by simp only [maxLen]; omega)
    refine ⟨_, rfl, Kd.R_of_own (enc := fun x => Value.int .u8 x) (h1 := fun _ => rfl) (xs := ([] : List Int)) (ok := fun _ => True) ⟨rfl, .inr ⟨w.heap.size, _, _, rfl, Nat.le_refl _, blk_new w.drew _, Nat.zero_le _, hle, ?_, rfl⟩⟩ (fun _ _ => trivial), ?_⟩
    · simp only [Array.size_append, size_zeroCells, Value.cells]
      simp
      omega
    · exact below_alloc (w := w) (below_drew (Below.refl _ _)) _
end Go.Proofs.Ytcnapbpljghfoaa.Hand

/- The contract, proved by hand, of slices.Concat at bytes: all rows, one behind the other, in a row of the call's own. -/
namespace Go.Proofs.Ytcnapbpljghfoaa.Hand
open Go.RowKit Go.Proofs.YtcnapbpljghfoaaW.PrintWords Go.Proofs.YtcnapbpljghfoaaW.PrintLast Go.Proofs.YtcnapbpljghfoaaW.PrintMore
open Go.Proofs.Ytcnapbpljghfoaa.Plain Go.Proofs.Ytcnapbpljghfoaa.PCrc
set_option linter.unusedVariables false
set_option linter.unusedSimpArgs false

def concatF (l : List (List Int)) : Option (List Int) := if l.length ≤ 1000000 ∧ l.flatten.length ≤ 140737488355328 then some l.flatten else none
theorem flat_next (l : List (List Int)) (i : Nat) (h : i < l.length) : (l.take (i + 1)).flatten = (l.take i).flatten ++ rd_L1 l (i : Int) := by
  rw [List.take_succ_eq_append_getElem h, List.flatten_append]
  unfold rd_L1
  rw [Int.toNat_natCast, List.getD_eq_getElem?_getD, List.getElem?_eq_getElem h]
  simp
theorem flat_le (l : List (List Int)) (i : Nat) : (l.take i).flatten.length ≤ l.flatten.length := by
  conv => rhs; rw [← List.take_append_drop i l]
  rw [List.flatten_append, List.length_append]
  exact Nat.le_add_right _ _
/-- How long the first rows are together. -/
def tot (l : List (List Int)) (i : Nat) : Nat := (l.take i).flatten.length
theorem tot_next (l : List (List Int)) (i : Nat) (h : i < l.length) : tot l (i + 1) = tot l i + (rd_L1 l (i : Int)).length := by
  unfold tot
  rw [flat_next l i h, List.length_append]
theorem tot_le (l : List (List Int)) (i : Nat) : tot l i ≤ l.flatten.length := flat_le l i
theorem tot_all (l : List (List Int)) : tot l l.length = l.flatten.length := by
  unfold tot
  rw [List.take_length]
set_option maxHeartbeats 800000 in
set_option maxRecDepth 100000 in
theorem concat_calls (A0 : Option Addr) (c0 : Nat) (l0 : List (List Int)) (r : List Int) (w : World) (hr0 : Kd.C (Kd.slice 5 (Kd.int .u8)) w A0 l0.length l0) (hc0 : l0.length ≤ c0) (h : concatF l0 = some r) :
    Calls Try.prog 20 #[.slice A0 l0.length c0] w fun e w' => ∃ v0_ : Value, e = .returned (v0_) ∧ Kd.R (Kd.int .u8) 5 w' w.heap.size (fun _ => True) v0_ r ∧ Below w.heap.size w w' := by
  unfold concatF at h
  by_cases hc : l0.length ≤ 1000000 ∧ l0.flatten.length ≤ 140737488355328
  · rw [if_pos hc] at h
    obtain rfl := Option.some.inj h
    clear h
    have HC := Aside0.mk hc
    have HR := Aside0.mk hr0
    clear hc hr0
    go_enter Try.func20, Try.ntmps20
    go_wp2
    go_loopg [3, 11] l0.length (fun kq v3 v11 w' => ∃ (i : Nat), v11 = .int .i64 (i : Int) ∧ v3 = .int .i64 ((tot l0 i : Nat) : Int) ∧ Aside0 (i ≤ l0.length ∧ l0.length - i ≤ kq) ∧ w' = w)
    case atStart => exact ⟨0, rfl, rfl, ⟨by omega, by omega⟩, rfl⟩
    case round =>
      obtain ⟨i, rfl, rfl, HI, rfl⟩ := hrel
      by_cases c2 : (i : Int) < (l0.length : Int)
      · have d2 : decide ((i : Int) < (l0.length : Int)) = true := decide_eq_true c2
        have hlt : i < l0.length := by omega
        obtain ⟨ad, A1, c1, rfl, hcell, _, _⟩ := at_L1 HR.out (i : Int) (by omega) c2
        rw [Int.toNat_natCast] at hcell
        have hfn := tot_next l0 i hlt
        have hfl := tot_le l0 (i + 1)
        have hw : wrap64 (((tot l0 i : Nat) : Int) + (((rd_L1 l0 (i : Int)).length : Nat) : Int)) = ((tot l0 (i + 1) : Nat) : Int) := by
          have := HC.out.2
          rw [hfn] at hfl ⊢
          generalize tot l0 i = p at hfl ⊢
          generalize (rd_L1 l0 (i : Int)).length = q at hfl ⊢
          generalize l0.flatten.length = t at hfl this
          clear hfn hcell HI HR c2 d2 hlt
          unfold wrap64
          omega
        have d3 : decide (((tot l0 (i + 1) : Nat) : Int) < 0) = false := decide_eq_false (by omega)
        have HLT := Aside0.mk hlt
        clear hfn hfl hlt
        go_wp2
        rw [show wrap64 ((i : Int) + 1) = ((i + 1 : Nat) : Int) from by have := HC.out.1; have := HLT.out; clear hw d3 hcell; unfold wrap64; omega]
        go_roundg (l0.length - 1 - i)
        case measure => have := HI.out; have := HLT.out; omega
        case rel => exact ⟨i + 1, rfl, by rw [hw], ⟨HLT.out, by omega⟩, rfl⟩
      · have d2 : decide ((i : Int) < (l0.length : Int)) = false := decide_eq_false c2
        have hi : i = l0.length := by have := HI.out; omega
        subst hi
        have htot : tot l0 l0.length ≤ 140737488355328 := by rw [tot_all]; exact HC.out.2
        go_wp2_with (go_at_call 31; refine (grow_calls _ _ htot).mono ?_; rintro e w1 ⟨v, rfl, ho, hb⟩; have HO := Aside0.mk ho; have HB := Aside0.mk hb; clear ho hb)
        obtain ⟨wo, hwo⟩ : ∃ wo, wo = wr := ⟨_, rfl⟩
        subst hwo
        clear htot
        go_loopg [6, 27] l0.length (fun kq v6 v27 w' => ∃ (i : Nat), v27 = .int .i64 (i : Int) ∧ Aside0 (i ≤ l0.length ∧ l0.length - i ≤ kq) ∧ Aside0 (Kd.R (Kd.int .u8) 5 w' wo.heap.size (fun _ => True) v6 (l0.take i).flatten) ∧ Aside0 (Below wo.heap.size wo w'))
        case atStart => exact ⟨0, rfl, ⟨by omega, by omega⟩, ⟨HO.out⟩, ⟨HB.out⟩⟩
        case round =>
          clear HO HB HI
          obtain ⟨i, rfl, HI, HO, HB⟩ := hrel
          by_cases c3 : (i : Int) < (l0.length : Int)
          · have d3 : decide ((i : Int) < (l0.length : Int)) = true := decide_eq_true c3
            have hlt : i < l0.length := by omega
            obtain ⟨ad, A1, c1, rfl, hcell, _, hC1⟩ := at_L1 (Kd.C_below HR.out HB.out) (i : Int) (by omega) c3
            rw [Int.toNat_natCast] at hcell
            have HFN := Aside0.mk (flat_next l0 i hlt)
            have hln : (l0.take i).flatten.length + (rd_L1 l0 (i : Int)).length ≤ 140737488355328 := by
              have h1 := tot_next l0 i hlt
              have h2 := tot_le l0 (i + 1)
              have h3 := HC.out.2
              show tot l0 i + _ ≤ _
              omega
            have HLN := Aside0.mk hln
            have HC1 := Aside0.mk hC1
            have HLT := Aside0.mk hlt
            clear hln hC1 hlt
            skip
            go_wp2_with (first | ((with_reducible refine gate_builtin (b := .append) (xs := #[.tmp 31, .tmp 32]) rfl ?_); at_builtin; refine Kd.R_append_rows (Kd.int .u8) (w0 := wo) wo.heap.size rfl (.tmp 31) (.tmp 32) 22 5 (.int .u8 0) 1 rfl Try.underlying22 hinfo_u8 rfl (by decide) (by omega) u6 (l0.take i).flatten (rd_L1 l0 (i : Int)) _ _ _ (fun _ => True) (fun _ => False) rfl rfl ?aO ?aR (fun _ _ h => h) (fun _ h => h.elim) ?aF ?aB ?aS ?aL ?_; (case aR => exact HC1.out); (case aO => exact HO.out); (case aB => exact HB.out); (case aF => exact (fun _ _ => trivial)); (case aS => exact HB.out.size); (case aL => have := HLN.out; omega); intro v1 w2 ho hb hg hat; rw [← HFN.out] at ho; have n0_ := Aside0.mk ho; have n1_ := Aside0.mk hb; clear HO HB; have HO := n0_; have HB := n1_; clear n0_ n1_ ho hb hg hat))
            rw [show wrap64 ((i : Int) + 1) = ((i + 1 : Nat) : Int) from by have := HC.out.1; have := HLT.out; clear hcell; unfold wrap64; omega]
            go_roundg (l0.length - 1 - i)
            case measure => have := HI.out; have := HLT.out; omega
            case rel => exact ⟨i + 1, rfl, ⟨HLT.out, by omega⟩, ⟨HO.out⟩, ⟨HB.out⟩⟩
          · have d3 : decide ((i : Int) < (l0.length : Int)) = false := decide_eq_false c3
            have hi : i = l0.length := by have := HI.out; omega
            subst hi
            go_wp2
            go_ret
            rw [List.take_length] at HO
            exact ⟨_, rfl, HO.out, HB.out⟩
  · rw [if_neg hc] at h
    cases h
end Go.Proofs.Ytcnapbpljghfoaa.Hand

/- Printed by a program of this session (drv.py) from the translation of this seat: functions, their contracts, rows. -/
namespace Go.Proofs.Ytcnapbpljghfoaa.PCrc
open Go.RowKit Go.Proofs.YtcnapbpljghfoaaW.PrintWords Go.Proofs.YtcnapbpljghfoaaW.PrintLast Go.Proofs.YtcnapbpljghfoaaW.PrintMore
attribute [local go_sem] max2_int min2_int max_two min_two max_three min_three max_four min_four   -- for this text's walks alone
set_option linter.unusedVariables false
set_option linter.unusedSimpArgs false

/-! ### slices_Concat_byte_byte: function 20 (by hand) -/
def slices_Concat_byte_byte.f (l0 : List (List Int)) : Option (List Int) := Go.Proofs.Ytcnapbpljghfoaa.Hand.concatF l0
theorem slices_Concat_byte_byte.calls (A0 : Option Addr) (c0 : Nat) (l0 : List (List Int)) (r : List Int) (w : World) (hr0 : Kd.C (Kd.slice 5 (Kd.int .u8)) w A0 l0.length l0) (hc0 : l0.length ≤ c0) (h : slices_Concat_byte_byte.f l0 = some r) :
    Calls Try.prog 20 #[.slice A0 l0.length c0] w fun e w' => ∃ v0_ : Value, e = .returned (v0_) ∧ Kd.R (Kd.int .u8) 5 w' w.heap.size (fun _ => True) v0_ r ∧ Below w.heap.size w w' :=
  Go.Proofs.Ytcnapbpljghfoaa.Hand.concat_calls _ _ _ _ _ hr0 hc0 h

end Go.Proofs.Ytcnapbpljghfoaa.PCrc

/- Printed by a program of this session (drv.py) from the translation of this seat: functions, their contracts, rows. -/
namespace Go.Proofs.Ytcnapbpljghfoaa.PCrc
open Go.RowKit Go.Proofs.YtcnapbpljghfoaaW.PrintWords Go.Proofs.YtcnapbpljghfoaaW.PrintLast Go.Proofs.YtcnapbpljghfoaaW.PrintMore
attribute [local go_sem] max2_int min2_int max_two min_two max_three min_three max_four min_four   -- for this text's walks alone
set_option linter.unusedVariables false
set_option linter.unusedSimpArgs false

/-! ### crc_More: function 38 (by hand) -/
def crc_More.f (a0 : Int) (l1 : List Int) : Option (Int) := Go.Proofs.Ytcnapbpljghfoaa.Hand.moreF a0 l1
theorem crc_More.calls (a0 : Int) (A1 : Option Addr) (c1 : Nat) (l1 : List Int) (r : Int) (w : World) (hr1 : Kd.C (Kd.int .u8) w A1 l1.length l1) (hc1 : l1.length ≤ c1) (h : crc_More.f a0 l1 = some r) :
    Calls Try.prog 38 #[.int .u32 a0, .slice A1 l1.length c1] w fun e w' => e = .returned (.int .u32 r) ∧ Below w.heap.size w w' :=
  Go.Proofs.Ytcnapbpljghfoaa.Hand.more_calls _ _ _ _ _ _ hr1 hc1 h

end Go.Proofs.Ytcnapbpljghfoaa.PCrc

/- Printed by a program of this session (drv.py) from the translation of this seat: functions, their contracts, rows. -/
namespace Go.Proofs.Ytcnapbpljghfoaa.PCrc
open Go.RowKit Go.Proofs.YtcnapbpljghfoaaW.PrintWords Go.Proofs.YtcnapbpljghfoaaW.PrintLast Go.Proofs.YtcnapbpljghfoaaW.PrintMore
attribute [local go_sem] max2_int min2_int max_two min_two max_three min_three max_four min_four   -- for this text's walks alone
set_option linter.unusedVariables false
set_option linter.unusedSimpArgs false

/-! ### crc_Sum: function 33 -/
def crc_Sum.f (l0 : List Int) : Option (Int) := (crc_More.f 0 l0).bind fun t104 => (some t104)
set_option maxHeartbeats 8000000 in
set_option maxRecDepth 100000 in
theorem crc_Sum.calls (A0 : Option Addr) (c0 : Nat) (l0 : List Int) (r : Int) (w : World) (hr0 : Kd.C (Kd.int .u8) w A0 l0.length l0) (hc0 : l0.length ≤ c0) (h : crc_Sum.f l0 = some r) :
    Calls Try.prog 33 #[.slice A0 l0.length c0] w fun e w' => e = .returned (.int .u32 r) ∧ Below w.heap.size w w' := by
  have HR0 := Aside0.mk hr0
  have HC0 := Aside0.mk hc0
  clear hr0 hc0
  have HB := Aside0.mk (Below.refl w.heap.size w)
  have H : ((crc_More.f 0 l0).bind fun t104 => (some t104)) = some r := h
  clear h
  replace H := Option.bind_eq_some_iff.mp H
  obtain ⟨t104, A20, H⟩ := H
  replace H : (some t104) = some r := H
  have A2 := Aside0.mk A20
  clear A20
  obtain rfl := Option.some.inj H
  go_enter Try.func33, Try.ntmps33
  go_wp2_with (first | ((with_reducible refine gate_callee (f := 38) rfl ?_); refine goesL_ (some 4) rfl rfl Try.func38 (by kernel_rfl) rfl #[.int .u32 0, .slice A0 l0.length c0] rfl (by (try simp only [List.map_toArray, List.map_cons, List.map_nil]); first | done | rfl | (simp only [List.length_drop, List.length_take]; rfl)) ?_; (with_reducible refine (crc_More.calls 0 _ _ l0 t104 _ ?side1 ?side2 A2.out).mono ?_); (case side1 => repeat (first | exact HR0.out | (with_reducible refine Kd.C_alloc ?_ _) | (with_reducible refine Kd.C_drewN ?_ _) | (with_reducible refine Kd.C_drew ?_))); (case side2 => exact HC0.out); rintro e w3 ⟨rfl, hb⟩; refine ⟨_, rfl, ?_⟩; have n0_ := Aside0.mk (below_step (by repeat (first | (with_reducible first | exact HB.out | apply below_alloc | apply pw_below_drewN | apply below_drew1) | exact HB.out)) hb); clear HB; have HB := n0_; clear n0_; (try clear hb); (try clear hb2); (try clear hk); (try clear hi)))
  go_ret
  exact ⟨by first | rfl | (simp [errW_none, errW_some] <;> rfl) | (simp [*, errW_none, errW_some] <;> rfl), by repeat (first | (with_reducible first | exact HB.out | apply below_alloc | apply pw_below_drewN | apply below_drew1) | exact HB.out)⟩

end Go.Proofs.Ytcnapbpljghfoaa.PCrc

/- Printed by a program of this session (drv.py) from the translation of this seat: functions, their contracts, rows. -/
namespace Go.Proofs.Ytcnapbpljghfoaa.PCrc
open Go.RowKit Go.Proofs.YtcnapbpljghfoaaW.PrintWords Go.Proofs.YtcnapbpljghfoaaW.PrintLast Go.Proofs.YtcnapbpljghfoaaW.PrintMore
attribute [local go_sem] max2_int min2_int max_two min_two max_three min_three max_four min_four   -- for this text's walks alone
set_option linter.unusedVariables false
set_option linter.unusedSimpArgs false

/-! ### crc_Tail: function 32 -/
def crc_Tail.f (a0 : Int) : Option (List Int) := some (([(a0) % 256, (a0 / 256) % 256, (a0 / 65536) % 256, (a0 / 16777216) % 256] : List Int))
set_option maxHeartbeats 8000000 in
set_option maxRecDepth 100000 in
theorem crc_Tail.calls (a0 : Int) (r : List Int) (w : World) (h : crc_Tail.f a0 = some r) :
    Calls Try.prog 32 #[.int .u32 a0] w fun e w' => ∃ v0_ : Value, e = .returned (v0_) ∧ Kd.R (Kd.int .u8) 5 w' w.heap.size (fun _ => True) v0_ r ∧ Below w.heap.size w w' := by
  have HB := Aside0.mk (Below.refl w.heap.size w)
  have H : (some (([(a0) % 256, (a0 / 256) % 256, (a0 / 65536) % 256, (a0 / 16777216) % 256] : List Int))) = some r := h
  clear h
  obtain ⟨y101, hy101⟩ : ∃ y_ : List Int, y_ = (([(a0) % 256, (a0 / 256) % 256, (a0 / 65536) % 256, (a0 / 16777216) % 256] : List Int)) := ⟨_, rfl⟩
  replace H : (some y101) = some r := by first | (rw [hy101]; with_reducible exact H) | (have H2_ := (Option.bind_some _ _).symm.trans H; rw [hy101]; with_reducible exact H2_) | (have H2_ := (Option.bind_some _ _).symm.trans H; with_reducible exact H2_) | with_reducible exact H | (rw [hy101]; exact H) | exact H
  have Ny101 := Aside0.mk hy101
  clear hy101
  obtain rfl := Option.some.inj H
  go_enter Try.func32, Try.ntmps32
  go_wp2_with (first | ((with_reducible refine gate_dst (N := 14) rfl ?_); refine Kd.R_lit (Kd.int .u8) _ 5 ?hg (N := 14) ?hd (xs := ([(a0) % 256, (a0 / 256) % 256, (a0 / 65536) % 256, (a0 / 16777216) % 256] : List Int)) (inner := [.int .u8 ((a0) % 256), .int .u8 ((a0 / 256) % 256), .int .u8 ((a0 / 65536) % 256), .int .u8 ((a0 / 16777216) % 256)]) (ok := fun _ => True) (okp := fun _ => True) ?hr ?hp (fun _ hk => hk) trivial (Below.refl _ _) (Nat.le_refl _) (by simp) ?_; (case hd => rfl); (case hg => rfl); (case hr => first | (go_simp; done) | (go_simp; rfl)); (case hp => exact (Reps.one (show Kd.M (Kd.int .u8) _ _ _ ((a0) % 256) [.int .u8 ((a0) % 256)] from rfl) (Reps.one (show Kd.M (Kd.int .u8) _ _ _ ((a0 / 256) % 256) [.int .u8 ((a0 / 256) % 256)] from rfl) (Reps.one (show Kd.M (Kd.int .u8) _ _ _ ((a0 / 65536) % 256) [.int .u8 ((a0 / 65536) % 256)] from rfl) (Reps.one (show Kd.M (Kd.int .u8) _ _ _ ((a0 / 16777216) % 256) [.int .u8 ((a0 / 16777216) % 256)] from rfl) (Reps.none _ _)))))); intro v102 w2 ho3 hb hg_ hnew_; clear hg_ hnew_; (first | rw [← Ny101.out] at ho3 | (simp only [Int.reduceToNat] at ho3; rw [← Ny101.out] at ho3)); have n0_ := Aside0.mk (Kd.R_lower ho3 (below_size (by repeat (first | (with_reducible first | exact HB.out | apply below_alloc | apply pw_below_drewN | apply below_drew1) | exact HB.out)))); have n1_ := Aside0.mk (below_step (by repeat (first | (with_reducible first | exact HB.out | apply below_alloc | apply pw_below_drewN | apply below_drew1) | exact HB.out)) hb); clear HB; have HO103 := n0_; have HB := n1_; clear n0_ n1_; clear hb ho3))
  go_ret
  exact ⟨_, by first | rfl | (simp [errW_none, errW_some] <;> rfl) | (simp [*, errW_none, errW_some] <;> rfl), by (with_reducible repeat (first | apply Kd.R_alloc | apply Kd.R_drewN | apply Kd.R_drew)); exact HO103.out, by repeat (first | (with_reducible first | exact HB.out | apply below_alloc | apply pw_below_drewN | apply below_drew1) | exact HB.out)⟩

end Go.Proofs.Ytcnapbpljghfoaa.PCrc

/- The contract, proved by hand, of crc.Seal: the bytes that came in and behind them the four bytes of their sum, in a row of the call's own. -/
namespace Go.Proofs.Ytcnapbpljghfoaa.Hand
open Go.RowKit Go.Proofs.YtcnapbpljghfoaaW.PrintWords Go.Proofs.YtcnapbpljghfoaaW.PrintLast Go.Proofs.YtcnapbpljghfoaaW.PrintMore
open Go.Proofs.Ytcnapbpljghfoaa.Plain Go.Proofs.Ytcnapbpljghfoaa.PCrc
set_option linter.unusedVariables false
set_option linter.unusedSimpArgs false

/-- The four bytes of a sum, the least first. -/
def tailL (n : Nat) : List Int := [((n % 256 : Nat) : Int), ((n / 256 % 256 : Nat) : Int), ((n / 65536 % 256 : Nat) : Int), ((n / 16777216 % 256 : Nat) : Int)]
def sealF (l : List Int) : Option (List Int) := if (∀ x ∈ l, 0 ≤ x ∧ x < 256) ∧ l.length ≤ 140737488355000 then some (l ++ tailL (moreN 0 l)) else none
theorem sum_f {l : List Int} (hb : ∀ x ∈ l, 0 ≤ x ∧ x < 256) (hl : l.length ≤ 140737488355328) : crc_Sum.f l = some ((moreN 0 l : Nat) : Int) := by
  unfold crc_Sum.f crc_More.f moreF
  rw [if_pos ⟨⟨by omega, by omega⟩, hb, hl⟩]
  rfl
theorem tail_f (n : Nat) : crc_Tail.f (n : Int) = some (tailL n) := by
  unfold crc_Tail.f tailL
  congr 1

set_option maxHeartbeats 800000 in
set_option maxRecDepth 100000 in
theorem seal_calls (A0 : Option Addr) (c0 : Nat) (l0 : List Int) (r : List Int) (w : World) (hr0 : Kd.C (Kd.int .u8) w A0 l0.length l0) (hc0 : l0.length ≤ c0) (h : sealF l0 = some r) :
    Calls Try.prog 21 #[.slice A0 l0.length c0] w fun e w' => ∃ v0_ : Value, e = .returned (v0_) ∧ Kd.R (Kd.int .u8) 5 w' w.heap.size (fun _ => True) v0_ r ∧ Below w.heap.size w w' := by
  unfold sealF at h
  by_cases hc : (∀ x ∈ l0, 0 ≤ x ∧ x < 256) ∧ l0.length ≤ 140737488355000
  · rw [if_pos hc] at h
    obtain ⟨hl, hm⟩ := hc
    obtain rfl := Option.some.inj h
    clear h
    have hsum := sum_f hl (by omega)
    have htail := tail_f (moreN 0 l0)
    have hw4 : wrap64 ((l0.length : Int) + 4) = ((l0.length + 4 : Nat) : Int) := by unfold wrap64; omega
    obtain ⟨i, hi, hz, h1, h2⟩ : ∃ i, Try.prog.info? 5 = some i ∧ i.zero = some (.int .u8 0) ∧ i.size = 1 ∧ i.bytes = 1 := ⟨_, rfl, rfl, rfl, rfl⟩
    obtain ⟨w1, hmk, hown, hgr⟩ := run_make_own (P := Try.prog) w w.heap.size 22 5 i (.int .u8 0) 1 Try.underlying22 hi hz h1 .i64 .i64 (l0.length + 4) (by rw [h2]; omega) (by simp only [maxLen]; omega) (Nat.le_refl _)
    have HO := Aside0.mk (Kd.R_of_own (enc := fun x => Value.int .u8 x) (h1 := fun _ => rfl) (xs := ([] : List Int)) (ok := fun _ => True) hown (fun _ _ => trivial))
    have hb1 : Below w.heap.size w w1 := pw_below_grown (Below.refl _ _) none (Nat.le_refl _) hgr (fun k hk => by cases hk)
    have HB := Aside0.mk hb1
    have HR := Aside0.mk hr0
    have HM := Aside0.mk hm
    rw [← hw4] at hmk
    clear hown hgr hi hz h1 h2 hm hw4 hb1 hr0 hl
    go_enter Try.func21, Try.ntmps21
    go_wp2_with (first | ((with_reducible refine gate_builtin (b := .append) (xs := #[.tmp 8, .tmp 9]) rfl ?_); at_builtin; refine Kd.R_append_rows (Kd.int .u8) (w0 := w) w.heap.size rfl (.tmp 8) (.tmp 9) 22 5 (.int .u8 0) 1 rfl Try.underlying22 hinfo_u8 rfl (by decide) (by omega) (.slice (some ⟨w.heap.size, 0, none⟩) 0 (l0.length + 4)) ([] : List Int) l0 _ _ _ (fun _ => True) (fun _ => False) rfl rfl ?aO ?aR (fun _ _ h => h) (fun _ h => h.elim) ?aF ?aB ?aS ?aL ?_; (case aR => exact (Kd.C_below HR.out HB.out)); (case aO => exact HO.out); (case aB => exact HB.out); (case aF => exact (fun _ _ => trivial)); (case aS => exact HB.out.size); (case aL => have := HM.out; first | (simp only [List.length_nil]; omega) | (simp only [List.nil_append, tailL, List.length_cons, List.length_nil]; omega)); intro v1 w2 ho hb hg hat; have n0_ := Aside0.mk ho; have n1_ := Aside0.mk hb; clear HO HB; have HO := n0_; have HB := n1_; clear n0_ n1_ ho hb hg hat) | (go_at_call 33; refine (crc_Sum.calls _ _ l0 _ _ (Kd.C_below HR.out HB.out) hc0 hsum).mono ?_; rintro e w3 ⟨rfl, hb⟩; have n0_ := Aside0.mk (Kd.R_below HO.out hb); have n1_ := Aside0.mk (below_step HB.out hb); clear HO HB; have HO := n0_; have HB := n1_; clear n0_ n1_ hb) | (go_at_call 32; refine (crc_Tail.calls _ _ _ htail).mono ?_; rintro e w4 ⟨v2, rfl, ho2, hb⟩; obtain ⟨A2, c2, eo2⟩ := Kd.R_slice ho2; subst eo2; have n0_ := Aside0.mk (Kd.R_below HO.out hb); have n1_ := Aside0.mk (below_step HB.out hb); clear HO HB; have HO := n0_; have HB := n1_; have HT := Aside0.mk (Kd.R_reads' ho2).2.2; clear n0_ n1_ hb ho2) | ((with_reducible refine gate_builtin (b := .append) (xs := #[.tmp 10, .tmp 13]) rfl ?_); at_builtin; refine Kd.R_append_rows (Kd.int .u8) (w0 := w) w.heap.size rfl (.tmp 10) (.tmp 13) 22 5 (.int .u8 0) 1 rfl Try.underlying22 hinfo_u8 rfl (by decide) (by omega) v1 ([] ++ l0) (tailL (moreN 0 l0)) _ _ _ (fun _ => True) (fun _ => False) rfl rfl ?aO ?aR (fun _ _ h => h) (fun _ h => h.elim) ?aF ?aB ?aS ?aL ?_; (case aR => exact HT.out); (case aO => exact HO.out); (case aB => exact HB.out); (case aF => exact (fun _ _ => trivial)); (case aS => exact HB.out.size); (case aL => have := HM.out; first | (simp only [List.length_nil]; omega) | (simp only [List.nil_append, tailL, List.length_cons, List.length_nil]; omega)); intro v3 w5 ho hb hg hat; have n0_ := Aside0.mk ho; have n1_ := Aside0.mk hb; clear HO HB; have HO := n0_; have HB := n1_; clear n0_ n1_ ho hb hg hat))
    go_ret
    rw [List.nil_append] at HO
    exact ⟨_, rfl, HO.out, HB.out⟩
  · rw [if_neg hc] at h
    cases h
end Go.Proofs.Ytcnapbpljghfoaa.Hand

/- Printed by a program of this session (drv.py) from the translation of this seat: functions, their contracts, rows. -/
namespace Go.Proofs.Ytcnapbpljghfoaa.PCrc
open Go.RowKit Go.Proofs.YtcnapbpljghfoaaW.PrintWords Go.Proofs.YtcnapbpljghfoaaW.PrintLast Go.Proofs.YtcnapbpljghfoaaW.PrintMore
attribute [local go_sem] max2_int min2_int max_two min_two max_three min_three max_four min_four   -- for this text's walks alone
set_option linter.unusedVariables false
set_option linter.unusedSimpArgs false

/-! ### crc_Seal: function 21 (by hand) -/
def crc_Seal.f (l0 : List Int) : Option (List Int) := Go.Proofs.Ytcnapbpljghfoaa.Hand.sealF l0
theorem crc_Seal.calls (A0 : Option Addr) (c0 : Nat) (l0 : List Int) (r : List Int) (w : World) (hr0 : Kd.C (Kd.int .u8) w A0 l0.length l0) (hc0 : l0.length ≤ c0) (h : crc_Seal.f l0 = some r) :
    Calls Try.prog 21 #[.slice A0 l0.length c0] w fun e w' => ∃ v0_ : Value, e = .returned (v0_) ∧ Kd.R (Kd.int .u8) 5 w' w.heap.size (fun _ => True) v0_ r ∧ Below w.heap.size w w' :=
  Go.Proofs.Ytcnapbpljghfoaa.Hand.seal_calls _ _ _ _ _ hr0 hc0 h

end Go.Proofs.Ytcnapbpljghfoaa.PCrc

/- Printed by a program of this session (drv.py) from the translation of this seat: functions, their contracts, rows. -/
namespace Go.Proofs.Ytcnapbpljghfoaa.PCrc
open Go.RowKit Go.Proofs.YtcnapbpljghfoaaW.PrintWords Go.Proofs.YtcnapbpljghfoaaW.PrintLast Go.Proofs.YtcnapbpljghfoaaW.PrintMore
attribute [local go_sem] max2_int min2_int max_two min_two max_three min_three max_four min_four   -- for this text's walks alone
set_option linter.unusedVariables false
set_option linter.unusedSimpArgs false

/-! ### frame_Put: function 11 -/
def frame_Put.j0 : Nat → List Int → Int → List Int → Bool → Option (List Int × Int)
  | 0, _, _, _, _ => none
  | k + 1, x0, x1, x2, x9 => if x9 = true then (some (([] : List Int), 1)) else (if (x2.length : Int) > 70000 then (some (([] : List Int), 2)) else ((num_Fix.f (([(x1) % 256] : List Int)) (IntKind.u64.wrap ((x2.length : Int))) 3).bind fun t108 => ((crc_Seal.f t108).bind fun t111 => ((crc_Seal.f x2).bind fun t114 => ((slices_Concat_byte_byte.f (([x0, t111, t114] : List (List Int)))).bind fun t120 => (some (t120, 0)))))))
def frame_Put.f (k : Nat) (l0 : List Int) (a1 : Int) (l2 : List Int) : Option (List Int × Int) := if a1 < 1 then (frame_Put.j0 k l0 a1 l2 true) else (frame_Put.j0 k l0 a1 l2 (decide (a1 > 250)))
theorem frame_Put.mono_l : ∀ k, (∀ y0 y1 y2 y3, LeO (frame_Put.j0 k y0 y1 y2 y3) (frame_Put.j0 (k + 1) y0 y1 y2 y3))
  | 0 => fun _ _ _ _ r h => by simp [frame_Put.j0] at h
  | k + 1 => by
    have ih0 := frame_Put.mono_l k
    · intro y0 y1 y2 y3
      unfold frame_Put.j0
      repeat' first
      | (with_reducible exact ih0 _ _ _ _)
      | (with_reducible exact LeO.refl _)
      | (with_reducible exact LeO.none _)
      | (with_reducible refine LeO.ite ?_ ?_)
      | (with_reducible refine LeO.bind ?_ (fun _ => ?_))
      | exact ih0 _ _ _ _
      | exact LeO.none _
      | refine LeO.ite ?_ ?_
      | refine LeO.bind ?_ (fun _ => ?_)
theorem frame_Put.mono : ∀ a0 a1 a2 k, LeO (frame_Put.f k a0 a1 a2) (frame_Put.f (k + 1) a0 a1 a2) := by
  intro a0 a1 a2 k
  have ih0 := frame_Put.mono_l k
  unfold frame_Put.f
  repeat' first
      | (with_reducible exact ih0 _ _ _ _)
      | (with_reducible exact LeO.refl _)
      | (with_reducible exact LeO.none _)
      | (with_reducible refine LeO.ite ?_ ?_)
      | (with_reducible refine LeO.bind ?_ (fun _ => ?_))
      | exact ih0 _ _ _ _
      | exact LeO.none _
      | refine LeO.ite ?_ ?_
      | refine LeO.bind ?_ (fun _ => ?_)
set_option maxHeartbeats 8000000 in
set_option maxRecDepth 100000 in
theorem frame_Put.calls (k : Nat) (P0_ : Nat → Prop) (A0 : Option Addr) (c0 : Nat) (l0 : List Int) (a1 : Int) (A2 : Option Addr) (c2 : Nat) (l2 : List Int) (r1 : List Int) (r2 : Int) (w : World) (hs0 : Kd.V (Kd.int .u8) 5 w w.heap.size (fun k_ => P0_ k_) (.slice A0 l0.length c0) l0) (hr2 : Kd.C (Kd.int .u8) w A2 l2.length l2) (hc2 : l2.length ≤ c2) (h : frame_Put.f k l0 a1 l2 = some (r1, r2)) :
    Calls Try.prog 11 #[.slice A0 l0.length c0, .int .i64 a1, .slice A2 l2.length c2] w fun e w' => ∃ v0_ : Value, e = .returned (.tuple #[v0_, .int .i64 r2]) ∧ Kd.R (Kd.int .u8) 5 w' w.heap.size (fun k_ => (w.heap.size ≤ k_)) v0_ r1 ∧ Below w.heap.size w w' := by
  have HO0 := Aside0.mk (show Kd.V (Kd.int .u8) 5 w w.heap.size (fun k_ => (P0_ k_ ∨ w.heap.size ≤ k_)) (.slice A0 l0.length c0) l0 from Kd.V_mono hs0 (fun k_ hk => .inl hk))
  have HR2 := Aside0.mk hr2
  have HC2 := Aside0.mk hc2
  clear hr2 hc2
  have HB := Aside0.mk (Below.refl w.heap.size w)
  have H : (if a1 < 1 then (frame_Put.j0 k l0 a1 l2 true) else (frame_Put.j0 k l0 a1 l2 (decide (a1 > 250)))) = some (r1, r2) := h
  clear h
  have HC4 := Aside0.mk H
  clear H
  go_enter Try.func11, Try.ntmps11
  go_upto_region 1 with (fail)
  go_cut [9] (fun v9 wc => ∃ (kq : Nat) (x9_3 : Bool), v9 = .bool x9_3 ∧ Aside0 (frame_Put.j0 kq l0 a1 l2 x9_3 = some (r1, r2)) ∧ Aside0 (kq ≤ k) ∧ Aside0 (Kd.V (Kd.int .u8) 5 wc w.heap.size (fun k_ => (P0_ k_ ∨ w.heap.size ≤ k_)) (.slice A0 l0.length c0) l0) ∧ Aside0 (Below w.heap.size w wc))
  case first =>
    have H := HC4.out
    clear HC4
    by_cases c5 : a1 < 1
    · rw [if_pos c5] at H
      have c5b0 : decide (a1 < 1) = true := decide_eq_true c5
      clear c5
      (first | rw [c5b0] | (simp only [i64_w, i32_w]; rw [c5b0]) | skip)
      have H' := Aside0.mk H
      clear H
      go_wp2
      go_meet
      case rel => exact ⟨_, (true), (by first | rfl | (simp; done) | (simp [*]; done)), H', ⟨by first | omega | exact Nat.le_refl _⟩, ⟨by (with_reducible repeat (first | apply Kd.V_alloc | apply Kd.V_drewN | apply Kd.V_drew)); exact HO0.out⟩, ⟨by repeat (first | (with_reducible first | exact HB.out | apply below_alloc | apply pw_below_drewN | apply below_drew1) | exact HB.out)⟩⟩
    · rw [if_neg c5] at H
      have c5b0 : decide (a1 < 1) = false := decide_eq_false c5
      clear c5
      (first | rw [c5b0] | (simp only [i64_w, i32_w]; rw [c5b0]) | skip)
      have H' := Aside0.mk H
      clear H
      go_wp2
      go_meet
      case rel => exact ⟨_, (decide (a1 > 250)), (by first | rfl | (simp; done) | (simp [*]; done)), H', ⟨by first | omega | exact Nat.le_refl _⟩, ⟨by (with_reducible repeat (first | apply Kd.V_alloc | apply Kd.V_drewN | apply Kd.V_drew)); exact HO0.out⟩, ⟨by repeat (first | (with_reducible first | exact HB.out | apply below_alloc | apply pw_below_drewN | apply below_drew1) | exact HB.out)⟩⟩
  case rest =>
    clear HC4
    try clear c1
    try clear c2
    try clear p2
    try clear c5
    try clear c5b0
    obtain ⟨kq, x9_3, rfl, HA, HJ3, HO_0, HB⟩ := hcut
    cases kq with
    | zero => exact absurd HA.out (by simp [frame_Put.j0])
    | succ kj3 =>
      have H := HA.out
      clear HA
      simp only [frame_Put.j0] at H
      by_cases c6 : x9_3 = true
      · subst c6
        have H1 : (some (([] : List Int), 1)) = some (r1, r2) := by rw [if_pos rfl] at H; exact H
        clear H
        have H := H1
        clear H1
        simp only [Option.some.injEq, Prod.mk.injEq] at H
        obtain ⟨rfl, rfl⟩ := H
        go_wp2
        go_ret2
        exact ⟨_, by first | rfl | (simp [errW_none, errW_some] <;> rfl) | (simp [*, errW_none, errW_some] <;> rfl), by first | exact Kd.R_nil _ _ _ _ _ | exact Kd.N_nil _ _ _ _ _ | exact Kd.V_nil _ _ _ _ _ | exact Kd.Q_nil _ _ _ _ _ | exact Kd.S_nil _ _ _ _ _, by repeat (first | (with_reducible first | exact HB.out | apply below_alloc | apply pw_below_drewN | apply below_drew1) | exact HB.out)⟩
      · replace c6 := Bool.eq_false_iff.mpr c6
        subst c6
        have H1 : (if (l2.length : Int) > 70000 then (some (([] : List Int), 2)) else ((num_Fix.f (([(a1) % 256] : List Int)) (IntKind.u64.wrap ((l2.length : Int))) 3).bind fun t108 => ((crc_Seal.f t108).bind fun t111 => ((crc_Seal.f l2).bind fun t114 => ((slices_Concat_byte_byte.f (([l0, t111, t114] : List (List Int)))).bind fun t120 => (some (t120, 0))))))) = some (r1, r2) := by rw [if_neg (show ¬ (false = true) by decide)] at H; exact H
        clear H
        have H := H1
        clear H1
        by_cases c7 : (l2.length : Int) > 70000
        · rw [if_pos c7] at H
          have c7b0 : decide (70000 < (l2.length : Int)) = true := decide_eq_true c7
          have c7b1 : decide (70000 < l2.length) = true := decide_eq_true (by omega)
          clear c7
          simp only [Option.some.injEq, Prod.mk.injEq] at H
          obtain ⟨rfl, rfl⟩ := H
          go_wp2
          go_ret2
          exact ⟨_, by first | rfl | (simp [errW_none, errW_some] <;> rfl) | (simp [*, errW_none, errW_some] <;> rfl), by first | exact Kd.R_nil _ _ _ _ _ | exact Kd.N_nil _ _ _ _ _ | exact Kd.V_nil _ _ _ _ _ | exact Kd.Q_nil _ _ _ _ _ | exact Kd.S_nil _ _ _ _ _, by repeat (first | (with_reducible first | exact HB.out | apply below_alloc | apply pw_below_drewN | apply below_drew1) | exact HB.out)⟩
        · rw [if_neg c7] at H
          have c7b0 : decide (70000 < (l2.length : Int)) = false := decide_eq_false c7
          have c7b1 : decide (70000 < l2.length) = false := decide_eq_false (by omega)
          clear c7
          obtain ⟨y105, hy105⟩ : ∃ y_ : List Int, y_ = (([(a1) % 256] : List Int)) := ⟨_, rfl⟩
          replace H : ((num_Fix.f y105 (IntKind.u64.wrap ((l2.length : Int))) 3).bind fun t108 => ((crc_Seal.f t108).bind fun t111 => ((crc_Seal.f l2).bind fun t114 => ((slices_Concat_byte_byte.f (([l0, t111, t114] : List (List Int)))).bind fun t120 => (some (t120, 0)))))) = some (r1, r2) := by first | (rw [hy105]; with_reducible exact H) | (have H2_ := (Option.bind_some _ _).symm.trans H; rw [hy105]; with_reducible exact H2_) | (have H2_ := (Option.bind_some _ _).symm.trans H; with_reducible exact H2_) | with_reducible exact H | (rw [hy105]; exact H) | exact H
          have Ny105 := Aside0.mk hy105
          clear hy105
          replace H := Option.bind_eq_some_iff.mp H
          obtain ⟨t108, A80, H⟩ := H
          replace H : ((crc_Seal.f t108).bind fun t111 => ((crc_Seal.f l2).bind fun t114 => ((slices_Concat_byte_byte.f (([l0, t111, t114] : List (List Int)))).bind fun t120 => (some (t120, 0))))) = some (r1, r2) := H
          have A8 := Aside0.mk A80
          clear A80
          replace H := Option.bind_eq_some_iff.mp H
          obtain ⟨t111, A90, H⟩ := H
          replace H : ((crc_Seal.f l2).bind fun t114 => ((slices_Concat_byte_byte.f (([l0, t111, t114] : List (List Int)))).bind fun t120 => (some (t120, 0)))) = some (r1, r2) := H
          have A9 := Aside0.mk A90
          clear A90
          replace H := Option.bind_eq_some_iff.mp H
          obtain ⟨t114, A100, H⟩ := H
          replace H : ((slices_Concat_byte_byte.f (([l0, t111, t114] : List (List Int)))).bind fun t120 => (some (t120, 0))) = some (r1, r2) := H
          have A10 := Aside0.mk A100
          clear A100
          obtain ⟨y117, hy117⟩ : ∃ y_ : List (List Int), y_ = (([l0, t111, t114] : List (List Int))) := ⟨_, rfl⟩
          replace H : ((slices_Concat_byte_byte.f y117).bind fun t120 => (some (t120, 0))) = some (r1, r2) := by first | (rw [hy117]; with_reducible exact H) | (have H2_ := (Option.bind_some _ _).symm.trans H; rw [hy117]; with_reducible exact H2_) | (have H2_ := (Option.bind_some _ _).symm.trans H; with_reducible exact H2_) | with_reducible exact H | (rw [hy117]; exact H) | exact H
          have Ny117 := Aside0.mk hy117
          clear hy117
          replace H := Option.bind_eq_some_iff.mp H
          obtain ⟨t120, A110, H⟩ := H
          replace H : (some (t120, 0)) = some (r1, r2) := H
          have A11 := Aside0.mk A110
          clear A110
          simp only [Option.some.injEq, Prod.mk.injEq] at H
          obtain ⟨rfl, rfl⟩ := H
          go_wp2_with (first | ((with_reducible refine gate_dst (N := 22) rfl ?_); refine Kd.R_lit (Kd.int .u8) _ 5 ?hg (N := 22) ?hd (xs := ([(a1) % 256] : List Int)) (inner := [.int .u8 ((a1) % 256)]) (ok := fun _ => True) (okp := fun _ => True) ?hr ?hp (fun _ hk => hk) trivial (Below.refl _ _) (Nat.le_refl _) (by simp) ?_; (case hd => rfl); (case hg => rfl); (case hr => first | (go_simp; done) | (go_simp; rfl)); (case hp => exact (Reps.one (show Kd.M (Kd.int .u8) _ _ _ ((a1) % 256) [.int .u8 ((a1) % 256)] from rfl) (Reps.none _ _))); intro v106 w12 ho13 hb hg_ hnew_; clear hg_ hnew_; (first | rw [← Ny105.out] at ho13 | (simp only [Int.reduceToNat] at ho13; rw [← Ny105.out] at ho13)); have n0_ := Aside0.mk (Kd.V_elder' (by (with_reducible repeat (first | apply Kd.V_alloc | apply Kd.V_drewN | apply Kd.V_drew)); exact HO_0.out) (Kd.R_base ho13) hb); have n1_ := Aside0.mk (Kd.R_lower (Kd.R_newM (M := fun k_ => (w.heap.size ≤ k_)) ho13 (below_size (by repeat (first | (with_reducible first | exact HB.out | apply below_alloc | apply pw_below_drewN | apply below_drew1) | exact HB.out))) (fun k_ h_ => h_)) (below_size (by repeat (first | (with_reducible first | exact HB.out | apply below_alloc | apply pw_below_drewN | apply below_drew1) | exact HB.out)))); have n2_ := Aside0.mk (below_step (by repeat (first | (with_reducible first | exact HB.out | apply below_alloc | apply pw_below_drewN | apply below_drew1) | exact HB.out)) hb); clear HO_0; clear HB; have HO_0 := n0_; have HO107 := n1_; have HB := n2_; clear n0_ n1_ n2_; clear hb ho13; obtain ⟨Ao14, co14, eo14⟩ := Kd.R_slice HO107.out; subst eo14) | ((with_reducible refine gate_callee (f := 19) rfl ?_); refine goesL_ (some 26) rfl rfl Try.func19 (by kernel_rfl) rfl #[.slice Ao14 y105.length co14, .int .u64 (IntKind.u64.wrap ((l2.length : Int))), .int .i64 3] rfl (by (try simp only [List.map_toArray, List.map_cons, List.map_nil]); first | done | rfl | (simp only [List.length_drop, List.length_take]; rfl)) ?_; (with_reducible refine (num_Fix.calls _ _ y105 (IntKind.u64.wrap ((l2.length : Int))) 3 t108 _ ?side1 ?side2 A8.out).mono ?_); (case side1 => repeat (first | exact (Kd.R_reads' HO107.out).2.2 | (with_reducible refine Kd.C_alloc ?_ _) | (with_reducible refine Kd.C_drewN ?_ _) | (with_reducible refine Kd.C_drew ?_))); (case side2 => exact (Kd.R_reads' HO107.out).2.1); rintro e w15 ⟨v109, rfl, ho0, hb⟩; refine ⟨_, rfl, ?_⟩; have n0_ := Aside0.mk (Kd.V_below (by (with_reducible repeat (first | apply Kd.V_alloc | apply Kd.V_drewN | apply Kd.V_drew)); exact HO_0.out) hb); have n1_ := Aside0.mk (Kd.R_below (by (with_reducible repeat (first | apply Kd.R_alloc | apply Kd.R_drewN | apply Kd.R_drew)); exact HO107.out) hb); have n2_ := Aside0.mk (Kd.V_lower (Kd.V_mono (ok' := fun k_ => (P0_ k_ ∨ w.heap.size ≤ k_) ∧ some k_ ≠ (.slice Ao14 y105.length co14 : Value).ownBlock) ho0 (fun k_ hk_ => ⟨(.inr (Nat.le_trans (below_size (by repeat (first | (with_reducible first | exact HB.out | apply below_alloc | apply pw_below_drewN | apply below_drew1) | exact HB.out))) hk_)), (Kd.fresh' (Kd.R_lt (by (with_reducible repeat (first | apply Kd.R_alloc | apply Kd.R_drewN | apply Kd.R_drew)); exact HO107.out)) k_ hk_)⟩)) (below_size (by repeat (first | (with_reducible first | exact HB.out | apply below_alloc | apply pw_below_drewN | apply below_drew1) | exact HB.out)))); have n3_ := Aside0.mk (below_step (by repeat (first | (with_reducible first | exact HB.out | apply below_alloc | apply pw_below_drewN | apply below_drew1) | exact HB.out)) hb); clear HO_0; clear HO107; clear HB; have HO_0 := n0_; have HO107 := n1_; have HO110 := n2_; have HB := n3_; clear n0_ n1_ n2_ n3_; (try clear hb); (try clear hb2); (try clear hk); (try clear hi); (try clear ho0); obtain ⟨Ao16, co16, eo16⟩ := Kd.V_slice HO110.out; subst eo16) | ((with_reducible refine gate_callee (f := 21) rfl ?_); refine goesL_ (some 29) rfl rfl Try.func21 (by kernel_rfl) rfl #[.slice Ao16 t108.length co16] rfl (by (try simp only [List.map_toArray, List.map_cons, List.map_nil]); first | done | rfl | (simp only [List.length_drop, List.length_take]; rfl)) ?_; (with_reducible refine (crc_Seal.calls _ _ t108 t111 _ ?side1 ?side2 A9.out).mono ?_); (case side1 => repeat (first | exact (Kd.V_reads' HO110.out).2.2 | (with_reducible refine Kd.C_alloc ?_ _) | (with_reducible refine Kd.C_drewN ?_ _) | (with_reducible refine Kd.C_drew ?_))); (case side2 => exact (Kd.V_reads' HO110.out).2.1); rintro e w17 ⟨v112, rfl, ho0, hb⟩; refine ⟨_, rfl, ?_⟩; have n0_ := Aside0.mk (Kd.V_elder' (by (with_reducible repeat (first | apply Kd.V_alloc | apply Kd.V_drewN | apply Kd.V_drew)); exact HO_0.out) (Kd.R_base ho0) hb); have n1_ := Aside0.mk (Kd.R_elder' (by (with_reducible repeat (first | apply Kd.R_alloc | apply Kd.R_drewN | apply Kd.R_drew)); exact HO107.out) (Kd.R_base ho0) hb); have n2_ := Aside0.mk (Kd.V_elder' (by (with_reducible repeat (first | apply Kd.V_alloc | apply Kd.V_drewN | apply Kd.V_drew)); exact HO110.out) (Kd.R_base ho0) hb); have n3_ := Aside0.mk (Kd.R_lower (Kd.R_new' (Kd.R_newM (M := fun k_ => (w.heap.size ≤ k_)) ho0 (below_size (by repeat (first | (with_reducible first | exact HB.out | apply below_alloc | apply pw_below_drewN | apply below_drew1) | exact HB.out))) (fun k_ h_ => h_)) (Kd.R_lt (by (with_reducible repeat (first | apply Kd.R_alloc | apply Kd.R_drewN | apply Kd.R_drew)); exact HO107.out))) (below_size (by repeat (first | (with_reducible first | exact HB.out | apply below_alloc | apply pw_below_drewN | apply below_drew1) | exact HB.out)))); have n4_ := Aside0.mk (below_step (by repeat (first | (with_reducible first | exact HB.out | apply below_alloc | apply pw_below_drewN | apply below_drew1) | exact HB.out)) hb); clear HO_0; clear HO107; clear HO110; clear HB; have HO_0 := n0_; have HO107 := n1_; have HO110 := n2_; have HO113 := n3_; have HB := n4_; clear n0_ n1_ n2_ n3_ n4_; (try clear hb); (try clear hb2); (try clear hk); (try clear hi); (try clear ho0)) | ((with_reducible refine gate_callee (f := 21) rfl ?_); refine goesL_ (some 31) rfl rfl Try.func21 (by kernel_rfl) rfl #[.slice A2 l2.length c2] rfl (by (try simp only [List.map_toArray, List.map_cons, List.map_nil]); first | done | rfl | (simp only [List.length_drop, List.length_take]; rfl)) ?_; (with_reducible refine (crc_Seal.calls _ _ l2 t114 _ ?side1 ?side2 A10.out).mono ?_); (case side1 => repeat (first | exact (Kd.C_below HR2.out HB.out) | (with_reducible refine Kd.C_alloc ?_ _) | (with_reducible refine Kd.C_drewN ?_ _) | (with_reducible refine Kd.C_drew ?_))); (case side2 => exact HC2.out); rintro e w18 ⟨v115, rfl, ho0, hb⟩; refine ⟨_, rfl, ?_⟩; have n0_ := Aside0.mk (Kd.V_elder' (by (with_reducible repeat (first | apply Kd.V_alloc | apply Kd.V_drewN | apply Kd.V_drew)); exact HO_0.out) (Kd.R_base ho0) hb); have n1_ := Aside0.mk (Kd.R_elder' (by (with_reducible repeat (first | apply Kd.R_alloc | apply Kd.R_drewN | apply Kd.R_drew)); exact HO107.out) (Kd.R_base ho0) hb); have n2_ := Aside0.mk (Kd.V_elder' (by (with_reducible repeat (first | apply Kd.V_alloc | apply Kd.V_drewN | apply Kd.V_drew)); exact HO110.out) (Kd.R_base ho0) hb); have n3_ := Aside0.mk (Kd.R_elder' (by (with_reducible repeat (first | apply Kd.R_alloc | apply Kd.R_drewN | apply Kd.R_drew)); exact HO113.out) (Kd.R_base ho0) hb); have n4_ := Aside0.mk (Kd.R_lower (Kd.R_new' (Kd.R_new' (Kd.R_newM (M := fun k_ => (w.heap.size ≤ k_)) ho0 (below_size (by repeat (first | (with_reducible first | exact HB.out | apply below_alloc | apply pw_below_drewN | apply below_drew1) | exact HB.out))) (fun k_ h_ => h_)) (Kd.R_lt (by (with_reducible repeat (first | apply Kd.R_alloc | apply Kd.R_drewN | apply Kd.R_drew)); exact HO107.out))) (Kd.R_lt (by (with_reducible repeat (first | apply Kd.R_alloc | apply Kd.R_drewN | apply Kd.R_drew)); exact HO113.out))) (below_size (by repeat (first | (with_reducible first | exact HB.out | apply below_alloc | apply pw_below_drewN | apply below_drew1) | exact HB.out)))); have n5_ := Aside0.mk (below_step (by repeat (first | (with_reducible first | exact HB.out | apply below_alloc | apply pw_below_drewN | apply below_drew1) | exact HB.out)) hb); clear HO_0; clear HO107; clear HO110; clear HO113; clear HB; have HO_0 := n0_; have HO107 := n1_; have HO110 := n2_; have HO113 := n3_; have HO116 := n4_; have HB := n5_; clear n0_ n1_ n2_ n3_ n4_ n5_; (try clear hb); (try clear hb2); (try clear hk); (try clear hi); (try clear ho0); obtain ⟨Ao19, co19, eo19⟩ := Kd.R_slice HO113.out; subst eo19; obtain ⟨Ao20, co20, eo20⟩ := Kd.R_slice HO116.out; subst eo20) | ((with_reducible refine gate_dst (N := 32) rfl ?_); refine Kd.N_lit (Kd.slice 5 (Kd.int .u8)) _ 22 ?hg (N' := 32) ?hd (xs := ([l0, t111, t114] : List (List Int))) (inner := [.slice A0 l0.length c0, .slice Ao19 t111.length co19, .slice Ao20 t114.length co20]) (ok := (fun k_ => (P0_ k_ ∨ w.heap.size ≤ k_) ∧ some k_ ≠ (.slice Ao14 y105.length co14 : Value).ownBlock)) (okp := (fun k_ => (P0_ k_ ∨ w.heap.size ≤ k_) ∧ some k_ ≠ (.slice Ao14 y105.length co14 : Value).ownBlock)) ?hr ?hp (fun _ hk => hk) ((show ∀ k_, w18.heap.size ≤ k_ → (fun k_ => (P0_ k_ ∨ w.heap.size ≤ k_) ∧ some k_ ≠ (.slice Ao14 y105.length co14 : Value).ownBlock) k_ from fun k_ hk => ⟨(.inr (Nat.le_trans (below_size (by repeat (first | (with_reducible first | exact HB.out | apply below_alloc | apply pw_below_drewN | apply below_drew1) | exact HB.out))) hk)), Kd.fresh' (Kd.R_lt (by (with_reducible repeat (first | apply Kd.R_alloc | apply Kd.R_drewN | apply Kd.R_drew)); exact HO107.out)) k_ hk⟩) _ (Nat.le_refl _)) (Below.refl _ _) (Nat.le_refl _) (by simp) ?_; (case hd => rfl); (case hg => rfl); (case hr => first | (go_simp; done) | (go_simp; rfl)); (case hp => exact (Reps.one (show Kd.FK (Kd.slice 5 (Kd.int .u8)) _ _ l0 [.slice A0 l0.length c0] from (Kd.FK_slice_mk (Kd.V_reads' (Kd.V_mono (ok' := (fun k_ => (P0_ k_ ∨ w.heap.size ≤ k_) ∧ some k_ ≠ (.slice Ao14 y105.length co14 : Value).ownBlock)) (HO_0.out) (fun k_ hk => ⟨hk.1.1.1, hk.1.1.2⟩))).2.1 (Kd.V_F (Kd.V_mono (ok' := (fun k_ => (P0_ k_ ∨ w.heap.size ≤ k_) ∧ some k_ ≠ (.slice Ao14 y105.length co14 : Value).ownBlock)) (HO_0.out) (fun k_ hk => ⟨hk.1.1.1, hk.1.1.2⟩))))) (Reps.one (show Kd.FK (Kd.slice 5 (Kd.int .u8)) _ _ t111 [.slice Ao19 t111.length co19] from (Kd.FK_slice_mk (Kd.R_reads' (Kd.R_mono (ok' := (fun k_ => (P0_ k_ ∨ w.heap.size ≤ k_) ∧ some k_ ≠ (.slice Ao14 y105.length co14 : Value).ownBlock)) (HO113.out) (fun k_ hk => ⟨(.inr (hk.1.1.1)), hk.1.2⟩))).2.1 (Kd.R_F (Kd.R_mono (ok' := (fun k_ => (P0_ k_ ∨ w.heap.size ≤ k_) ∧ some k_ ≠ (.slice Ao14 y105.length co14 : Value).ownBlock)) (HO113.out) (fun k_ hk => ⟨(.inr (hk.1.1.1)), hk.1.2⟩))))) (Reps.one (show Kd.FK (Kd.slice 5 (Kd.int .u8)) _ _ t114 [.slice Ao20 t114.length co20] from (Kd.FK_slice_mk (Kd.R_reads' (Kd.R_mono (ok' := (fun k_ => (P0_ k_ ∨ w.heap.size ≤ k_) ∧ some k_ ≠ (.slice Ao14 y105.length co14 : Value).ownBlock)) (HO116.out) (fun k_ hk => ⟨(.inr (hk.1.1.1)), hk.1.2⟩))).2.1 (Kd.R_F (Kd.R_mono (ok' := (fun k_ => (P0_ k_ ∨ w.heap.size ≤ k_) ∧ some k_ ≠ (.slice Ao14 y105.length co14 : Value).ownBlock)) (HO116.out) (fun k_ hk => ⟨(.inr (hk.1.1.1)), hk.1.2⟩))))) (Reps.none _ _))))); intro v118 w21 ho22 hb hg_ hnew_; clear hg_ hnew_; (first | rw [← Ny117.out] at ho22 | (simp only [Int.reduceToNat] at ho22; rw [← Ny117.out] at ho22)); have n0_ := Aside0.mk (Kd.V_elder' (by (with_reducible repeat (first | apply Kd.V_alloc | apply Kd.V_drewN | apply Kd.V_drew)); exact HO_0.out) (Kd.N_base ho22) hb); have n1_ := Aside0.mk (Kd.R_below (by (with_reducible repeat (first | apply Kd.R_alloc | apply Kd.R_drewN | apply Kd.R_drew)); exact HO107.out) hb); have n2_ := Aside0.mk (Kd.V_elder' (by (with_reducible repeat (first | apply Kd.V_alloc | apply Kd.V_drewN | apply Kd.V_drew)); exact HO110.out) (Kd.N_base ho22) hb); have n3_ := Aside0.mk (Kd.N_lower ho22 (below_size (by repeat (first | (with_reducible first | exact HB.out | apply below_alloc | apply pw_below_drewN | apply below_drew1) | exact HB.out)))); have n4_ := Aside0.mk (below_step (by repeat (first | (with_reducible first | exact HB.out | apply below_alloc | apply pw_below_drewN | apply below_drew1) | exact HB.out)) hb); clear HO_0; clear HO107; clear HO110; clear HB; clear HO113; clear HO116; have HO_0 := n0_; have HO107 := n1_; have HO110 := n2_; have HO119 := n3_; have HB := n4_; clear n0_ n1_ n2_ n3_ n4_; clear hb ho22; obtain ⟨Ao23, co23, eo23⟩ := Kd.N_slice HO119.out; subst eo23) | ((with_reducible refine gate_callee (f := 20) rfl ?_); refine goesL_ (some 33) rfl rfl Try.func20 (by kernel_rfl) rfl #[.slice Ao23 y117.length co23] rfl (by (try simp only [List.map_toArray, List.map_cons, List.map_nil]); first | done | rfl | (simp only [List.length_drop, List.length_take]; rfl)) ?_; (with_reducible refine (slices_Concat_byte_byte.calls _ _ y117 t120 _ ?side1 ?side2 A11.out).mono ?_); (case side1 => repeat (first | exact (Kd.N_reads' HO119.out).2.2 | (with_reducible refine Kd.C_alloc ?_ _) | (with_reducible refine Kd.C_drewN ?_ _) | (with_reducible refine Kd.C_drew ?_))); (case side2 => exact (Kd.N_reads' HO119.out).2.1); rintro e w24 ⟨v121, rfl, ho0, hb⟩; refine ⟨_, rfl, ?_⟩; have n0_ := Aside0.mk (Kd.V_elder' (by (with_reducible repeat (first | apply Kd.V_alloc | apply Kd.V_drewN | apply Kd.V_drew)); exact HO_0.out) (Kd.R_base ho0) hb); have n1_ := Aside0.mk (Kd.R_elder' (by (with_reducible repeat (first | apply Kd.R_alloc | apply Kd.R_drewN | apply Kd.R_drew)); exact HO107.out) (Kd.R_base ho0) hb); have n2_ := Aside0.mk (Kd.V_elder' (by (with_reducible repeat (first | apply Kd.V_alloc | apply Kd.V_drewN | apply Kd.V_drew)); exact HO110.out) (Kd.R_base ho0) hb); have n3_ := Aside0.mk (Kd.N_elder' (by (with_reducible repeat (first | apply Kd.N_alloc | apply Kd.N_drewN | apply Kd.N_drew)); exact HO119.out) (Kd.R_base ho0) hb); have n4_ := Aside0.mk (Kd.R_lower (Kd.R_new' (Kd.R_newM (M := fun k_ => (w.heap.size ≤ k_)) ho0 (below_size (by repeat (first | (with_reducible first | exact HB.out | apply below_alloc | apply pw_below_drewN | apply below_drew1) | exact HB.out))) (fun k_ h_ => h_)) (Kd.R_lt (by (with_reducible repeat (first | apply Kd.R_alloc | apply Kd.R_drewN | apply Kd.R_drew)); exact HO107.out))) (below_size (by repeat (first | (with_reducible first | exact HB.out | apply below_alloc | apply pw_below_drewN | apply below_drew1) | exact HB.out)))); have n5_ := Aside0.mk (below_step (by repeat (first | (with_reducible first | exact HB.out | apply below_alloc | apply pw_below_drewN | apply below_drew1) | exact HB.out)) hb); clear HO_0; clear HO107; clear HO110; clear HO119; clear HB; have HO_0 := n0_; have HO107 := n1_; have HO110 := n2_; have HO119 := n3_; have HO122 := n4_; have HB := n5_; clear n0_ n1_ n2_ n3_ n4_ n5_; (try clear hb); (try clear hb2); (try clear hk); (try clear hi); (try clear ho0)))
          go_ret2
          exact ⟨_, by first | rfl | (simp [errW_none, errW_some] <;> rfl) | (simp [*, errW_none, errW_some] <;> rfl), by (with_reducible repeat (first | apply Kd.R_alloc | apply Kd.R_drewN | apply Kd.R_drew)); exact Kd.R_mono HO122.out (fun _ hk => hk.1.1), by repeat (first | (with_reducible first | exact HB.out | apply below_alloc | apply pw_below_drewN | apply below_drew1) | exact HB.out)⟩

end Go.Proofs.Ytcnapbpljghfoaa.PCrc

/- Printed by a program of this session (drv.py) from the translation of this seat: functions, their contracts, rows. -/
namespace Go.Proofs.Ytcnapbpljghfoaa.PCrc
open Go.RowKit Go.Proofs.YtcnapbpljghfoaaW.PrintWords Go.Proofs.YtcnapbpljghfoaaW.PrintLast Go.Proofs.YtcnapbpljghfoaaW.PrintMore
attribute [local go_sem] max2_int min2_int max_two min_two max_three min_three max_four min_four   -- for this text's walks alone
set_option linter.unusedVariables false
set_option linter.unusedSimpArgs false

/-! ### frame_Size: function 15 -/
def frame_Size.f (a0 : Int) : Option (Int) := some (wrap64 (12 + (mx a0 0)))
set_option maxHeartbeats 8000000 in
set_option maxRecDepth 100000 in
theorem frame_Size.calls (a0 : Int) (r : Int) (w : World) (h : frame_Size.f a0 = some r) :
    Calls Try.prog 15 #[.int .i64 a0] w fun e w' => e = .returned (.int .i64 r) ∧ Below w.heap.size w w' := by
  have HB := Aside0.mk (Below.refl w.heap.size w)
  have H : (some (wrap64 (12 + (mx a0 0)))) = some r := h
  clear h
  obtain ⟨ji2, hji2⟩ : ∃ j_ : Int, (mx a0 0) = j_ := ⟨_, rfl⟩
  replace H : (some (wrap64 (12 + (ji2)))) = some r := by first | (rw [hji2] at H; exact H) | (simp only [hji2] at H ⊢; exact H)
  (try (have hji2l : 0 ≤ ji2 := by (rw [← hji2]; unfold mx; (repeat' split) <;> omega)))
  (try (have hji2m : 0 ≤ ji2 := by omega))
  have hji2_ : (if a0 < 0 then 0 else a0) = ji2 := hji2
  obtain rfl := Option.some.inj H
  go_enter Try.func15, Try.ntmps15
  go_wp2
  go_ret
  exact ⟨by first | rfl | (simp [errW_none, errW_some] <;> rfl) | (simp only [← hji2]; first | rfl | (simp [errW_none, errW_some] <;> rfl)) | (simp [*, errW_none, errW_some] <;> rfl), by repeat (first | (with_reducible first | exact HB.out | apply below_alloc | apply pw_below_drewN | apply below_drew1) | exact HB.out)⟩

end Go.Proofs.Ytcnapbpljghfoaa.PCrc

/- The contract, proved by hand, of num.Own: the bytes that came in, in memory of its own, cut to their length. -/
namespace Go.Proofs.Ytcnapbpljghfoaa.Hand
open Go.RowKit Go.Proofs.YtcnapbpljghfoaaW.PrintWords Go.Proofs.YtcnapbpljghfoaaW.PrintLast Go.Proofs.YtcnapbpljghfoaaW.PrintMore
set_option linter.unusedVariables false
set_option linter.unusedSimpArgs false

def ownF (l : List Int) : Option (List Int) := if l.length ≤ 140737488355328 then some l else none
set_option maxHeartbeats 800000 in
set_option maxRecDepth 100000 in
theorem own_calls (A0 : Option Addr) (c0 : Nat) (l0 : List Int) (r : List Int) (w : World) (hr0 : Kd.C (Kd.int .u8) w A0 l0.length l0) (hc0 : l0.length ≤ c0) (h : ownF l0 = some r) :
    Calls Try.prog 34 #[.slice A0 l0.length c0] w fun e w' => ∃ v0_ : Value, e = .returned (v0_) ∧ Kd.V (Kd.int .u8) 5 w' w.heap.size (fun k_ => (w.heap.size ≤ k_)) v0_ r ∧ Below w.heap.size w w' := by
  unfold ownF at h
  by_cases hl : l0.length ≤ 140737488355328
  · rw [if_pos hl] at h
    obtain rfl := Option.some.inj h
    clear h
    go_enter Try.func34, Try.ntmps34
    go_wp2_with (first | (go_at_call 29; refine (clone_calls _ _ l0 _ hr0 hl).mono ?_; rintro e w1 ⟨v, rfl, ho, hb⟩; have HO := Aside0.mk ho; have HB := Aside0.mk hb; clear ho hb) | (go_at_call 30; refine (clip_calls _ _ _ _ HO.out).mono ?_; rintro e w3 ⟨⟨v3, rfl, hcl⟩, rfl⟩; have HCL := Aside0.mk hcl; clear hcl))
    go_ret
    exact ⟨_, rfl, HCL.out.V, HB.out⟩
  · rw [if_neg hl] at h
    cases h
end Go.Proofs.Ytcnapbpljghfoaa.Hand

/- Printed by a program of this session (drv.py) from the translation of this seat: functions, their contracts, rows. -/
namespace Go.Proofs.Ytcnapbpljghfoaa.PCrc
open Go.RowKit Go.Proofs.YtcnapbpljghfoaaW.PrintWords Go.Proofs.YtcnapbpljghfoaaW.PrintLast Go.Proofs.YtcnapbpljghfoaaW.PrintMore
attribute [local go_sem] max2_int min2_int max_two min_two max_three min_three max_four min_four   -- for this text's walks alone
set_option linter.unusedVariables false
set_option linter.unusedSimpArgs false

/-! ### num_Own: function 34 (by hand) -/
def num_Own.f (l0 : List Int) : Option (List Int) := Go.Proofs.Ytcnapbpljghfoaa.Hand.ownF l0
theorem num_Own.calls (A0 : Option Addr) (c0 : Nat) (l0 : List Int) (r : List Int) (w : World) (hr0 : Kd.C (Kd.int .u8) w A0 l0.length l0) (hc0 : l0.length ≤ c0) (h : num_Own.f l0 = some r) :
    Calls Try.prog 34 #[.slice A0 l0.length c0] w fun e w' => ∃ v0_ : Value, e = .returned (v0_) ∧ Kd.V (Kd.int .u8) 5 w' w.heap.size (fun k_ => (w.heap.size ≤ k_)) v0_ r ∧ Below w.heap.size w w' :=
  Go.Proofs.Ytcnapbpljghfoaa.Hand.own_calls _ _ _ _ _ hr0 hc0 h

end Go.Proofs.Ytcnapbpljghfoaa.PCrc

/- Printed by a program of this session (drv.py) from the translation of this seat: functions, their contracts, rows. -/
namespace Go.Proofs.Ytcnapbpljghfoaa.PCrc
open Go.RowKit Go.Proofs.YtcnapbpljghfoaaW.PrintWords Go.Proofs.YtcnapbpljghfoaaW.PrintLast Go.Proofs.YtcnapbpljghfoaaW.PrintMore
attribute [local go_sem] max2_int min2_int max_two min_two max_three min_three max_four min_four   -- for this text's walks alone
set_option linter.unusedVariables false
set_option linter.unusedSimpArgs false

/-! ### crc_Open: function 22 -/
def crc_Open.f (l0 : List Int) : Option (List Int × Int) := if (wrap64 ((l0.length : Int) - 4)) < 0 then (some (([] : List Int), 4)) else (if 0 ≤ (wrap64 ((l0.length : Int) - 4)) then (if (wrap64 ((l0.length : Int) - 4)) ≤ (l0.length : Int) then ((crc_Sum.f (l0.take ((wrap64 ((l0.length : Int) - 4)) : Int).toNat)).bind fun t124 => ((crc_Tail.f t124).bind fun t125 => (if (strOfNums t125).toList = (strOfNums (l0.drop ((wrap64 ((l0.length : Int) - 4)) : Int).toNat)).toList then ((num_Own.f (l0.take ((wrap64 ((l0.length : Int) - 4)) : Int).toNat)).bind fun t130 => (some (t130, 0))) else (some (([] : List Int), 5))))) else (none)) else (none))
def crc_Open.T4 : Bool × List (List Nat × List Nat) := (true, [([], []), ([], []), ([0, 1], [0, 1]), ([2], [2]), ([3, 3], [3]), ([4], [4]), ([], []), ([], []), ([6, 7], [6, 7]), ([8], [8]), ([5, 9], [5, 9]), ([10, 4], [10])])
def crc_Open.B4 : List Nat := [0, 0, 3, 7, 15, 31, 0, 0, 192, 448, 1023, 2047]
theorem crc_Open.tab4 : rtab .any (opsOf Try.f22 4) = crc_Open.T4 := by kernel_rfl
theorem crc_Open.bits4 : waitsOk crc_Open.T4.2 crc_Open.B4 = true := by kernel_rfl
set_option maxHeartbeats 8000000 in
set_option maxRecDepth 100000 in
theorem crc_Open.calls (A0 : Option Addr) (c0 : Nat) (l0 : List Int) (r1 : List Int) (r2 : Int) (w : World) (hr0 : Kd.C (Kd.int .u8) w A0 l0.length l0) (hc0 : l0.length ≤ c0) (h : crc_Open.f l0 = some (r1, r2)) :
    Calls Try.prog 22 #[.slice A0 l0.length c0] w fun e w' => ∃ v0_ : Value, e = .returned (.tuple #[v0_, .int .i64 r2]) ∧ Kd.V (Kd.int .u8) 5 w' w.heap.size (fun k_ => (w.heap.size ≤ k_)) v0_ r1 ∧ Below w.heap.size w w' := by
  have HR0 := Aside0.mk hr0
  have HC0 := Aside0.mk hc0
  clear hr0 hc0
  have HB := Aside0.mk (Below.refl w.heap.size w)
  have H : (if (wrap64 ((l0.length : Int) - 4)) < 0 then (some (([] : List Int), 4)) else (if 0 ≤ (wrap64 ((l0.length : Int) - 4)) then (if (wrap64 ((l0.length : Int) - 4)) ≤ (l0.length : Int) then ((crc_Sum.f (l0.take ((wrap64 ((l0.length : Int) - 4)) : Int).toNat)).bind fun t124 => ((crc_Tail.f t124).bind fun t125 => (if (strOfNums t125).toList = (strOfNums (l0.drop ((wrap64 ((l0.length : Int) - 4)) : Int).toNat)).toList then ((num_Own.f (l0.take ((wrap64 ((l0.length : Int) - 4)) : Int).toNat)).bind fun t130 => (some (t130, 0))) else (some (([] : List Int), 5))))) else (none)) else (none))) = some (r1, r2) := h
  clear h
  by_cases c2 : (wrap64 ((l0.length : Int) - 4)) < 0
  · rw [if_pos c2] at H
    have c2b0 : decide ((wrap64 ((l0.length : Int) - 4)) < 0) = true := decide_eq_true c2
    clear c2
    simp only [Option.some.injEq, Prod.mk.injEq] at H
    obtain ⟨rfl, rfl⟩ := H
    go_enter Try.func22, Try.ntmps22
    go_wp2
    go_ret2
    exact ⟨_, by first | rfl | (simp [errW_none, errW_some] <;> rfl) | (simp [*, errW_none, errW_some] <;> rfl), Kd.V_nil _ _ _ _ _, by repeat (first | (with_reducible first | exact HB.out | apply below_alloc | apply pw_below_drewN | apply below_drew1) | exact HB.out)⟩
  · rw [if_neg c2] at H
    have c2b0 : decide ((wrap64 ((l0.length : Int) - 4)) < 0) = false := decide_eq_false c2
    clear c2
    obtain ⟨ji3, hji3⟩ : ∃ j_ : Int, (wrap64 ((l0.length : Int) - 4)) = j_ := ⟨_, rfl⟩
    replace H : (if 0 ≤ (ji3) then (if (ji3) ≤ (l0.length : Int) then ((crc_Sum.f (l0.take ((ji3) : Int).toNat)).bind fun t124 => ((crc_Tail.f t124).bind fun t125 => (if (strOfNums t125).toList = (strOfNums (l0.drop ((ji3) : Int).toNat)).toList then ((num_Own.f (l0.take ((ji3) : Int).toNat)).bind fun t130 => (some (t130, 0))) else (some (([] : List Int), 5))))) else (none)) else (none)) = some (r1, r2) := by first | (rw [hji3] at H; exact H) | (simp only [hji3] at H ⊢; exact H)
    (try rw [hji3] at c2b0)
    have hji3w : (IntKind.i64.wrap ((l0.length : Int) - 4)) = ji3 := (i64_w _).trans hji3
    by_cases c4 : 0 ≤ (ji3)
    · rw [if_pos c4] at H
      have c4b0 := eq_true c4
      have c4b1 : decide (0 ≤ (ji3)) = true := decide_eq_true c4
      clear c4
      by_cases c5 : (ji3) ≤ (l0.length : Int)
      · rw [if_pos c5] at H
        have c5b0 := eq_true c5
        have c5b1 : decide ((ji3) ≤ (l0.length : Int)) = true := decide_eq_true c5
        clear c5
        replace H := Option.bind_eq_some_iff.mp H
        obtain ⟨t124, A60, H⟩ := H
        replace H : ((crc_Tail.f t124).bind fun t125 => (if (strOfNums t125).toList = (strOfNums (l0.drop ((ji3) : Int).toNat)).toList then ((num_Own.f (l0.take ((ji3) : Int).toNat)).bind fun t130 => (some (t130, 0))) else (some (([] : List Int), 5)))) = some (r1, r2) := H
        have A6 := Aside0.mk A60
        clear A60
        replace H := Option.bind_eq_some_iff.mp H
        obtain ⟨t125, A70, H⟩ := H
        replace H : (if (strOfNums t125).toList = (strOfNums (l0.drop ((ji3) : Int).toNat)).toList then ((num_Own.f (l0.take ((ji3) : Int).toNat)).bind fun t130 => (some (t130, 0))) else (some (([] : List Int), 5))) = some (r1, r2) := H
        have A7 := Aside0.mk A70
        clear A70
        have c8b0 := eq_true (of_decide_eq_true (by first | (with_reducible assumption) | assumption) : 0 ≤ (ji3))
        have c9b0 := eq_true (of_decide_eq_true (by first | (with_reducible assumption) | assumption) : (ji3) ≤ (l0.length : Int))
        by_cases c10 : (strOfNums t125).toList = (strOfNums (l0.drop ((ji3) : Int).toNat)).toList
        · rw [if_pos c10] at H
          have c10b0 : ((strOfNums t125).toList == (strOfNums (l0.drop ((ji3) : Int).toNat)).toList) = true := beq_iff_eq.mpr c10
          have c10b1 : ((strOfNums t125).toList != (strOfNums (l0.drop ((ji3) : Int).toNat)).toList) = false := bne_eq_false_iff_eq.mpr c10
          clear c10
          have c11b0 := eq_true (of_decide_eq_true (by first | (with_reducible assumption) | assumption) : 0 ≤ (ji3))
          have c12b0 := eq_true (of_decide_eq_true (by first | (with_reducible assumption) | assumption) : (ji3) ≤ (l0.length : Int))
          replace H := Option.bind_eq_some_iff.mp H
          obtain ⟨t130, A130, H⟩ := H
          replace H : (some (t130, 0)) = some (r1, r2) := H
          have A13 := Aside0.mk A130
          clear A130
          simp only [Option.some.injEq, Prod.mk.injEq] at H
          obtain ⟨rfl, rfl⟩ := H
          go_enter Try.func22, Try.ntmps22
          try go_wp2
          have n0_ := Aside0.mk (below_drew1 HB.out)
          clear HB
          have HB := n0_
          clear n0_
          obtain ⟨i015, hi015, _, hsz15, _⟩ := info_parts info5
          obtain ⟨hcut15, hA15, hC15⟩ := print_take_of (P := Try.prog) (Value.int .u8) 0 22 5 .i64 Try.underlying22 hi015 hsz15 A0 c0 l0 (ji3) (of_decide_eq_true (by first | (with_reducible assumption) | assumption)) (of_decide_eq_true (by first | (with_reducible assumption) | assumption)) HC0.out
          have HR123 := Aside0.mk (Kd.C_of_reads (h1 := fun _ => rfl) (hA15 _ (Kd.reads_of_C HR0.out)))
          have HC123 := Aside0.mk hC15
          clear hA15 hC15 hi015 hsz15
          obtain ⟨i016, hi016, _, hsz16, _⟩ := info_parts info5
          obtain ⟨A16, hcut16, hA16, hC16⟩ := print_drop_of (P := Try.prog) (Value.int .u8) 0 22 5 .i64 Try.underlying22 hi016 hsz16 A0 c0 l0 (ji3) (of_decide_eq_true (by first | (with_reducible assumption) | assumption)) (of_decide_eq_true (by first | (with_reducible assumption) | assumption)) HC0.out
          have HR128 := Aside0.mk (Kd.C_of_reads (h1 := fun _ => rfl) (hA16 _ (Kd.reads_of_C HR0.out)))
          have HC128 := Aside0.mk hC16
          clear hA16 hC16 hi016 hsz16
          refine start_ (n := 12) (S := fun w' => Sem.run Try.prog (convert 22 9 (.slice A16 (l0.drop ((ji3) : Int).toNat).length (c0 - (ji3).toNat))) w' = Result.ok (.string (strOfNums (l0.drop ((ji3) : Int).toNat))) w') (ds := []) #[false, false, false, false, false, false, false, false, false, false, false, false] (by kernel_rfl) rfl rfl ((Kd.C_string (P := Try.prog) (A := A16) (c := (c0 - (ji3).toNat)) Try.underlying22 Try.underlying5 Try.underlying9 (Kd.C_below HR128.out (by repeat (first | exact HB.out | apply pw_below_drewN | apply below_drew1 | apply below_alloc))))) (fun hHeld => ?_); refine with_tabW crc_Open.tab4 crc_Open.bits4 (fun HT_ HW_ => ?_)
          generalize w.drew = w14 at HB HR123 HR128 hHeld ⊢
          refine pure_ (i := 0) (N := some 12) (v := ?_) (a' := ?_) #[true, false, false, false, false, false, false, false, false, false, false, false] rfl rfl (any_of HT_.out (by kernel_rfl)) (fun _ _ _ h => h) (Or.inl ⟨by rfl, ?_⟩) ?_ ?_
          rotate_left
          · intro w'
            go_simp
            with_reducible rfl
          rotate_left
          · simp only [Act.put, List.setIfInBounds_toArray, List.set_cons_zero, List.set_cons_succ, i64_w, i32_w]
            rfl
          refine pure_ (i := 1) (N := some 13) (v := ?_) (a' := ?_) #[true, true, false, false, false, false, false, false, false, false, false, false] rfl rfl (any_of HT_.out (by kernel_rfl)) (fun _ _ _ h => h) (Or.inl ⟨by rfl, ?_⟩) ?_ ?_
          rotate_left
          · intro w'
            go_simp
            with_reducible rfl
          rotate_left
          · simp only [Act.put, List.setIfInBounds_toArray, List.set_cons_zero, List.set_cons_succ, i64_w, i32_w]
            rfl
          refine pure_ (i := 2) (N := some 14) (v := ?_) (a' := ?_) #[true, true, true, false, false, false, false, false, false, false, false, false] rfl rfl (any_of HT_.out (by kernel_rfl)) (fun _ _ _ h => h) (Or.inl ⟨by rfl, ?_⟩) ?_ ?_
          rotate_left
          · intro w'
            go_simp
            with_reducible rfl
          rotate_left
          · simp only [Act.put, List.setIfInBounds_toArray, List.set_cons_zero, List.set_cons_succ, i64_w, i32_w]
            rfl
          refine pure_ (i := 6) (N := some 18) (v := ?_) (a' := ?_) #[true, true, true, false, false, false, true, false, false, false, false, false] rfl rfl (any_of HT_.out (by kernel_rfl)) (fun _ _ _ h => h) (Or.inl ⟨by rfl, ?_⟩) ?_ ?_
          rotate_left
          · intro w'
            go_simp
            with_reducible rfl
          rotate_left
          · simp only [Act.put, List.setIfInBounds_toArray, List.set_cons_zero, List.set_cons_succ, i64_w, i32_w]
            rfl
          refine pure_ (i := 7) (N := some 19) (v := ?_) (a' := ?_) #[true, true, true, false, false, false, true, true, false, false, false, false] rfl rfl (any_of HT_.out (by kernel_rfl)) (fun _ _ _ h => h) (Or.inl ⟨by rfl, ?_⟩) ?_ ?_
          rotate_left
          · intro w'
            go_simp
            with_reducible rfl
          rotate_left
          · simp only [Act.put, List.setIfInBounds_toArray, List.set_cons_zero, List.set_cons_succ, i64_w, i32_w]
            rfl
          refine pure_ (i := 8) (N := some 20) (v := ?_) (a' := ?_) #[true, true, true, false, false, false, true, true, true, false, false, false] rfl rfl (any_of HT_.out (by kernel_rfl)) (fun _ _ _ h => h) (Or.inl ⟨by rfl, ?_⟩) ?_ ?_
          rotate_left
          · intro w'
            go_simp
            with_reducible rfl
          rotate_left
          · simp only [Act.put, List.setIfInBounds_toArray, List.set_cons_zero, List.set_cons_succ, i64_w, i32_w]
            rfl
          refine take_ (i := 9) (N := some 21) (v := ?_) (a' := ?_) #[true, true, true, false, false, false, true, true, true, true, false, false] rfl rfl (take_ofW HT_.out HW_.out (by kernel_rfl)) (fun _ _ _ h => h) (Or.inl ⟨by rfl, ?_⟩) hHeld ?_ ?_
          rotate_left
          · intro w' s0
            (try rw [List.length_drop] at s0)
            go_simp
            with_reducible rfl
          rotate_left
          · simp only [Act.put, List.setIfInBounds_toArray, List.set_cons_zero, List.set_cons_succ, i64_w, i32_w]
            rfl
          refine one_ (i := 3) (N := some 15) #[true, true, true, true, false, false, true, true, true, true, false, false] rfl rfl (one_of HT_.out (by kernel_rfl)) (by decide) (fun K hK => ?_)
          refine goes_ Try.func33 (by kernel_rfl) rfl #[.slice A0 (l0.take ((ji3) : Int).toNat).length c0] (by rfl) rfl rfl (by (try simp only [List.map_toArray, List.map_cons, List.map_nil]); first | done | (rw [show (l0.take ((ji3) : Int).toNat).length = (ji3).toNat from (by rw [List.length_take]; have h_ : ((ji3) : Int) ≤ (l0.length : Int) := of_decide_eq_true (by first | (with_reducible assumption) | assumption); omega)] <;> rfl) | (simp only [hji3]; rfl) | rfl | (simp only [List.length_drop, List.length_take]; rfl)) ?_
          with_reducible refine (crc_Sum.calls _ _ (l0.take ((ji3) : Int).toNat) t124 _ ?side1 ?side2 A6.out).mono ?_
          (case side1 => repeat (first | exact (Kd.C_below HR123.out HB.out) | (with_reducible refine Kd.C_alloc ?_ _) | (with_reducible refine Kd.C_drewN ?_ _) | (with_reducible refine Kd.C_drew ?_)))
          (case side2 => exact HC123.out)
          rintro e w17 ⟨rfl, hb⟩
          refine ⟨_, rfl, ?_⟩
          have n0_ := Aside0.mk (below_step (by repeat (first | (with_reducible first | exact HB.out | apply below_alloc | apply pw_below_drewN | apply below_drew1) | exact HB.out)) hb)
          clear HB
          have HB := n0_
          clear n0_
          (try clear hb)
          (try clear hb2)
          (try clear hk)
          (try clear hi)
          refine hK.out _ _ ((Kd.C_string (P := Try.prog) (A := A16) (c := (c0 - (ji3).toNat)) Try.underlying22 Try.underlying5 Try.underlying9 (Kd.C_below HR128.out (by repeat (first | exact HB.out | apply pw_below_drewN | apply below_drew1 | apply below_alloc))))) (fun hHeld => ?_)
          clear hK K
          refine norm_ (a' := ?_) ?_ ?_
          rotate_left
          · show Act.put _ (some 15) _ = _
            simp only [Act.put, List.setIfInBounds_toArray, List.set_cons_zero, List.set_cons_succ, i64_w, i32_w]
            rfl
          refine one_ (i := 4) (N := some 16) #[true, true, true, true, true, false, true, true, true, true, false, false] rfl rfl (one_of HT_.out (by kernel_rfl)) (by decide) (fun K hK => ?_)
          refine goes_ Try.func32 (by kernel_rfl) rfl #[.int .u32 t124] (by rfl) rfl rfl (by (try simp only [List.map_toArray, List.map_cons, List.map_nil]); first | done | rfl | (simp only [List.length_drop, List.length_take]; rfl)) ?_
          with_reducible refine (crc_Tail.calls t124 t125 _ A7.out).mono ?_
          rintro e w18 ⟨v126, rfl, ho0, hb⟩
          refine ⟨_, rfl, ?_⟩
          have n0_ := Aside0.mk (Kd.R_lower (Kd.R_newM (M := fun k_ => (w.heap.size ≤ k_)) ho0 (below_size (by repeat (first | (with_reducible first | exact HB.out | apply below_alloc | apply pw_below_drewN | apply below_drew1) | exact HB.out))) (fun k_ h_ => h_)) (below_size (by repeat (first | (with_reducible first | exact HB.out | apply below_alloc | apply pw_below_drewN | apply below_drew1) | exact HB.out))))
          have n1_ := Aside0.mk (below_step (by repeat (first | (with_reducible first | exact HB.out | apply below_alloc | apply pw_below_drewN | apply below_drew1) | exact HB.out)) hb)
          clear HB
          have HO127 := n0_
          have HB := n1_
          clear n0_ n1_
          (try clear hb)
          (try clear hb2)
          (try clear hk)
          (try clear hi)
          (try clear ho0)
          refine hK.out _ _ ((Kd.C_string (P := Try.prog) (A := A16) (c := (c0 - (ji3).toNat)) Try.underlying22 Try.underlying5 Try.underlying9 (Kd.C_below HR128.out (by repeat (first | exact HB.out | apply pw_below_drewN | apply below_drew1 | apply below_alloc))))) (fun hHeld => ?_)
          clear hK K
          refine norm_ (a' := ?_) ?_ ?_
          rotate_left
          · show Act.put _ (some 16) _ = _
            simp only [Act.put, List.setIfInBounds_toArray, List.set_cons_zero, List.set_cons_succ, i64_w, i32_w]
            rfl
          refine one_ (i := 5) (N := some 17) #[true, true, true, true, true, true, true, true, true, true, false, false] rfl rfl (one_of HT_.out (by kernel_rfl)) (by decide) (fun K hK => ?_)
          have hcv19 := own_string (P := Try.prog) Try.underlying22 Try.underlying5 Try.underlying9 (Kd.own_of_R HO127.out)
          refine value_ (w1 := ?_) (v := ?_) (by rfl) rfl ?_ ?_
          rotate_left 2
          · go_simp
            constructor
            · rfl
            · rfl
          clear hcv19
          refine hK.out _ _ ((Kd.C_string (P := Try.prog) (A := A16) (c := (c0 - (ji3).toNat)) Try.underlying22 Try.underlying5 Try.underlying9 (Kd.C_below HR128.out (by repeat (first | exact HB.out | apply pw_below_drewN | apply below_drew1 | apply below_alloc))))) (fun hHeld => ?_)
          clear hK K
          refine norm_ (a' := ?_) ?_ ?_
          rotate_left
          · show Act.put _ (some 17) _ = _
            simp only [Act.put, List.setIfInBounds_toArray, List.set_cons_zero, List.set_cons_succ, i64_w, i32_w]
            rfl
          refine pure_ (i := 10) (N := some 22) (v := ?_) (a' := ?_) #[true, true, true, true, true, true, true, true, true, true, true, false] rfl rfl (any_of HT_.out (by kernel_rfl)) (fun _ _ _ h => h) (Or.inl ⟨by rfl, ?_⟩) ?_ ?_
          rotate_left
          · intro w'
            go_simp
            with_reducible rfl
          rotate_left
          · simp only [Act.put, List.setIfInBounds_toArray, List.set_cons_zero, List.set_cons_succ, i64_w, i32_w]
            rfl
          refine pure_ (i := 11) (N := some 11) (v := ?_) (a' := ?_) #[true, true, true, true, true, true, true, true, true, true, true, true] rfl rfl (any_of HT_.out (by kernel_rfl)) (fun _ _ _ h => h) (Or.inl ⟨by rfl, ?_⟩) ?_ ?_
          rotate_left
          · intro w'
            go_simp
            with_reducible rfl
          rotate_left
          · simp only [Act.put, List.setIfInBounds_toArray, List.set_cons_zero, List.set_cons_succ, i64_w, i32_w]
            rfl
          refine done_ (done_of HT_.out (by kernel_rfl)) ?_
          obtain ⟨i021, hi021, _, hsz21, _⟩ := info_parts info5
          obtain ⟨hcut21, hA21, hC21⟩ := print_take_of (P := Try.prog) (Value.int .u8) 0 22 5 .i64 Try.underlying22 hi021 hsz21 A0 c0 l0 (ji3) (of_decide_eq_true (by first | (with_reducible assumption) | assumption)) (of_decide_eq_true (by first | (with_reducible assumption) | assumption)) HC0.out
          have HR129 := Aside0.mk (Kd.C_of_reads (h1 := fun _ => rfl) (hA21 _ (Kd.reads_of_C HR0.out)))
          have HC129 := Aside0.mk hC21
          clear hA21 hC21 hi021 hsz21
          try go_wp2_with (first | ((with_reducible refine gate_callee (f := 34) rfl ?_); refine goesL_ (some 26) rfl rfl Try.func34 (by kernel_rfl) rfl #[.slice A0 (l0.take ((ji3) : Int).toNat).length c0] rfl (by (try simp only [List.map_toArray, List.map_cons, List.map_nil]); first | done | (rw [show (l0.take ((ji3) : Int).toNat).length = (ji3).toNat from (by rw [List.length_take]; have h_ : ((ji3) : Int) ≤ (l0.length : Int) := of_decide_eq_true (by first | (with_reducible assumption) | assumption); omega)] <;> rfl) | (simp only [hji3]; rfl) | rfl | (simp only [List.length_drop, List.length_take]; rfl)) ?_; (with_reducible refine (num_Own.calls _ _ (l0.take ((ji3) : Int).toNat) t130 _ ?side1 ?side2 A13.out).mono ?_); (case side1 => repeat (first | exact (Kd.C_below HR129.out HB.out) | (with_reducible refine Kd.C_alloc ?_ _) | (with_reducible refine Kd.C_drewN ?_ _) | (with_reducible refine Kd.C_drew ?_))); (case side2 => exact HC129.out); rintro e w22 ⟨v131, rfl, ho0, hb⟩; refine ⟨_, rfl, ?_⟩; have n0_ := Aside0.mk (Kd.R_below (by (with_reducible repeat (first | apply Kd.R_alloc | apply Kd.R_drewN | apply Kd.R_drew)); exact HO127.out) hb); have n1_ := Aside0.mk (Kd.V_lower (Kd.V_mono (ok' := fun k_ => (w.heap.size ≤ k_) ∧ some k_ ≠ (v126 : Value).ownBlock) ho0 (fun k_ hk_ => ⟨(Nat.le_trans (below_size (by repeat (first | (with_reducible first | exact HB.out | apply below_alloc | apply pw_below_drewN | apply below_drew1) | exact HB.out))) hk_), (Kd.fresh' (Kd.R_lt (by (with_reducible repeat (first | apply Kd.R_alloc | apply Kd.R_drewN | apply Kd.R_drew)); exact HO127.out)) k_ hk_)⟩)) (below_size (by repeat (first | (with_reducible first | exact HB.out | apply below_alloc | apply pw_below_drewN | apply below_drew1) | exact HB.out)))); have n2_ := Aside0.mk (below_step (by repeat (first | (with_reducible first | exact HB.out | apply below_alloc | apply pw_below_drewN | apply below_drew1) | exact HB.out)) hb); clear HO127; clear HB; have HO127 := n0_; have HO132 := n1_; have HB := n2_; clear n0_ n1_ n2_; (try clear hb); (try clear hb2); (try clear hk); (try clear hi); (try clear ho0)))
          go_ret2
          exact ⟨_, by first | rfl | (simp [errW_none, errW_some] <;> rfl) | (simp only [← hji3]; first | rfl | (simp [errW_none, errW_some] <;> rfl)) | (simp [*, errW_none, errW_some] <;> rfl), by (with_reducible repeat (first | apply Kd.V_alloc | apply Kd.V_drewN | apply Kd.V_drew)); exact Kd.V_mono HO132.out (fun _ hk => hk.1), by repeat (first | (with_reducible first | exact HB.out | apply below_alloc | apply pw_below_drewN | apply below_drew1) | exact HB.out)⟩
        · rw [if_neg c10] at H
          have c10b0 : ((strOfNums t125).toList == (strOfNums (l0.drop ((ji3) : Int).toNat)).toList) = false := beq_eq_false_iff_ne.mpr c10
          have c10b1 : ((strOfNums t125).toList != (strOfNums (l0.drop ((ji3) : Int).toNat)).toList) = true := bne_iff_ne.mpr c10
          simp only [Option.some.injEq, Prod.mk.injEq] at H
          obtain ⟨rfl, rfl⟩ := H
          go_enter Try.func22, Try.ntmps22
          try go_wp2
          have n0_ := Aside0.mk (below_drew1 HB.out)
          clear HB
          have HB := n0_
          clear n0_
          obtain ⟨i024, hi024, _, hsz24, _⟩ := info_parts info5
          obtain ⟨hcut24, hA24, hC24⟩ := print_take_of (P := Try.prog) (Value.int .u8) 0 22 5 .i64 Try.underlying22 hi024 hsz24 A0 c0 l0 (ji3) (of_decide_eq_true (by first | (with_reducible assumption) | assumption)) (of_decide_eq_true (by first | (with_reducible assumption) | assumption)) HC0.out
          have HR123 := Aside0.mk (Kd.C_of_reads (h1 := fun _ => rfl) (hA24 _ (Kd.reads_of_C HR0.out)))
          have HC123 := Aside0.mk hC24
          clear hA24 hC24 hi024 hsz24
          obtain ⟨i025, hi025, _, hsz25, _⟩ := info_parts info5
          obtain ⟨A25, hcut25, hA25, hC25⟩ := print_drop_of (P := Try.prog) (Value.int .u8) 0 22 5 .i64 Try.underlying22 hi025 hsz25 A0 c0 l0 (ji3) (of_decide_eq_true (by first | (with_reducible assumption) | assumption)) (of_decide_eq_true (by first | (with_reducible assumption) | assumption)) HC0.out
          have HR128 := Aside0.mk (Kd.C_of_reads (h1 := fun _ => rfl) (hA25 _ (Kd.reads_of_C HR0.out)))
          have HC128 := Aside0.mk hC25
          clear hA25 hC25 hi025 hsz25
          refine start_ (n := 12) (S := fun w' => Sem.run Try.prog (convert 22 9 (.slice A25 (l0.drop ((ji3) : Int).toNat).length (c0 - (ji3).toNat))) w' = Result.ok (.string (strOfNums (l0.drop ((ji3) : Int).toNat))) w') (ds := []) #[false, false, false, false, false, false, false, false, false, false, false, false] (by kernel_rfl) rfl rfl ((Kd.C_string (P := Try.prog) (A := A25) (c := (c0 - (ji3).toNat)) Try.underlying22 Try.underlying5 Try.underlying9 (Kd.C_below HR128.out (by repeat (first | exact HB.out | apply pw_below_drewN | apply below_drew1 | apply below_alloc))))) (fun hHeld => ?_); refine with_tabW crc_Open.tab4 crc_Open.bits4 (fun HT_ HW_ => ?_)
          generalize w.drew = w23 at HB HR123 HR128 hHeld ⊢
          refine pure_ (i := 0) (N := some 12) (v := ?_) (a' := ?_) #[true, false, false, false, false, false, false, false, false, false, false, false] rfl rfl (any_of HT_.out (by kernel_rfl)) (fun _ _ _ h => h) (Or.inl ⟨by rfl, ?_⟩) ?_ ?_
          rotate_left
          · intro w'
            go_simp
            with_reducible rfl
          rotate_left
          · simp only [Act.put, List.setIfInBounds_toArray, List.set_cons_zero, List.set_cons_succ, i64_w, i32_w]
            rfl
          refine pure_ (i := 1) (N := some 13) (v := ?_) (a' := ?_) #[true, true, false, false, false, false, false, false, false, false, false, false] rfl rfl (any_of HT_.out (by kernel_rfl)) (fun _ _ _ h => h) (Or.inl ⟨by rfl, ?_⟩) ?_ ?_
          rotate_left
          · intro w'
            go_simp
            with_reducible rfl
          rotate_left
          · simp only [Act.put, List.setIfInBounds_toArray, List.set_cons_zero, List.set_cons_succ, i64_w, i32_w]
            rfl
          refine pure_ (i := 2) (N := some 14) (v := ?_) (a' := ?_) #[true, true, true, false, false, false, false, false, false, false, false, false] rfl rfl (any_of HT_.out (by kernel_rfl)) (fun _ _ _ h => h) (Or.inl ⟨by rfl, ?_⟩) ?_ ?_
          rotate_left
          · intro w'
            go_simp
            with_reducible rfl
          rotate_left
          · simp only [Act.put, List.setIfInBounds_toArray, List.set_cons_zero, List.set_cons_succ, i64_w, i32_w]
            rfl
          refine pure_ (i := 6) (N := some 18) (v := ?_) (a' := ?_) #[true, true, true, false, false, false, true, false, false, false, false, false] rfl rfl (any_of HT_.out (by kernel_rfl)) (fun _ _ _ h => h) (Or.inl ⟨by rfl, ?_⟩) ?_ ?_
          rotate_left
          · intro w'
            go_simp
            with_reducible rfl
          rotate_left
          · simp only [Act.put, List.setIfInBounds_toArray, List.set_cons_zero, List.set_cons_succ, i64_w, i32_w]
            rfl
          refine pure_ (i := 7) (N := some 19) (v := ?_) (a' := ?_) #[true, true, true, false, false, false, true, true, false, false, false, false] rfl rfl (any_of HT_.out (by kernel_rfl)) (fun _ _ _ h => h) (Or.inl ⟨by rfl, ?_⟩) ?_ ?_
          rotate_left
          · intro w'
            go_simp
            with_reducible rfl
          rotate_left
          · simp only [Act.put, List.setIfInBounds_toArray, List.set_cons_zero, List.set_cons_succ, i64_w, i32_w]
            rfl
          refine pure_ (i := 8) (N := some 20) (v := ?_) (a' := ?_) #[true, true, true, false, false, false, true, true, true, false, false, false] rfl rfl (any_of HT_.out (by kernel_rfl)) (fun _ _ _ h => h) (Or.inl ⟨by rfl, ?_⟩) ?_ ?_
          rotate_left
          · intro w'
            go_simp
            with_reducible rfl
          rotate_left
          · simp only [Act.put, List.setIfInBounds_toArray, List.set_cons_zero, List.set_cons_succ, i64_w, i32_w]
            rfl
          refine take_ (i := 9) (N := some 21) (v := ?_) (a' := ?_) #[true, true, true, false, false, false, true, true, true, true, false, false] rfl rfl (take_ofW HT_.out HW_.out (by kernel_rfl)) (fun _ _ _ h => h) (Or.inl ⟨by rfl, ?_⟩) hHeld ?_ ?_
          rotate_left
          · intro w' s0
            (try rw [List.length_drop] at s0)
            go_simp
            with_reducible rfl
          rotate_left
          · simp only [Act.put, List.setIfInBounds_toArray, List.set_cons_zero, List.set_cons_succ, i64_w, i32_w]
            rfl
          refine one_ (i := 3) (N := some 15) #[true, true, true, true, false, false, true, true, true, true, false, false] rfl rfl (one_of HT_.out (by kernel_rfl)) (by decide) (fun K hK => ?_)
          refine goes_ Try.func33 (by kernel_rfl) rfl #[.slice A0 (l0.take ((ji3) : Int).toNat).length c0] (by rfl) rfl rfl (by (try simp only [List.map_toArray, List.map_cons, List.map_nil]); first | done | (rw [show (l0.take ((ji3) : Int).toNat).length = (ji3).toNat from (by rw [List.length_take]; have h_ : ((ji3) : Int) ≤ (l0.length : Int) := of_decide_eq_true (by first | (with_reducible assumption) | assumption); omega)] <;> rfl) | (simp only [hji3]; rfl) | rfl | (simp only [List.length_drop, List.length_take]; rfl)) ?_
          with_reducible refine (crc_Sum.calls _ _ (l0.take ((ji3) : Int).toNat) t124 _ ?side1 ?side2 A6.out).mono ?_
          (case side1 => repeat (first | exact (Kd.C_below HR123.out HB.out) | (with_reducible refine Kd.C_alloc ?_ _) | (with_reducible refine Kd.C_drewN ?_ _) | (with_reducible refine Kd.C_drew ?_)))
          (case side2 => exact HC123.out)
          rintro e w26 ⟨rfl, hb⟩
          refine ⟨_, rfl, ?_⟩
          have n0_ := Aside0.mk (below_step (by repeat (first | (with_reducible first | exact HB.out | apply below_alloc | apply pw_below_drewN | apply below_drew1) | exact HB.out)) hb)
          clear HB
          have HB := n0_
          clear n0_
          (try clear hb)
          (try clear hb2)
          (try clear hk)
          (try clear hi)
          refine hK.out _ _ ((Kd.C_string (P := Try.prog) (A := A25) (c := (c0 - (ji3).toNat)) Try.underlying22 Try.underlying5 Try.underlying9 (Kd.C_below HR128.out (by repeat (first | exact HB.out | apply pw_below_drewN | apply below_drew1 | apply below_alloc))))) (fun hHeld => ?_)
          clear hK K
          refine norm_ (a' := ?_) ?_ ?_
          rotate_left
          · show Act.put _ (some 15) _ = _
            simp only [Act.put, List.setIfInBounds_toArray, List.set_cons_zero, List.set_cons_succ, i64_w, i32_w]
            rfl
          refine one_ (i := 4) (N := some 16) #[true, true, true, true, true, false, true, true, true, true, false, false] rfl rfl (one_of HT_.out (by kernel_rfl)) (by decide) (fun K hK => ?_)
          refine goes_ Try.func32 (by kernel_rfl) rfl #[.int .u32 t124] (by rfl) rfl rfl (by (try simp only [List.map_toArray, List.map_cons, List.map_nil]); first | done | rfl | (simp only [List.length_drop, List.length_take]; rfl)) ?_
          with_reducible refine (crc_Tail.calls t124 t125 _ A7.out).mono ?_
          rintro e w27 ⟨v126, rfl, ho0, hb⟩
          refine ⟨_, rfl, ?_⟩
          have n0_ := Aside0.mk (Kd.R_lower (Kd.R_newM (M := fun k_ => (w.heap.size ≤ k_)) ho0 (below_size (by repeat (first | (with_reducible first | exact HB.out | apply below_alloc | apply pw_below_drewN | apply below_drew1) | exact HB.out))) (fun k_ h_ => h_)) (below_size (by repeat (first | (with_reducible first | exact HB.out | apply below_alloc | apply pw_below_drewN | apply below_drew1) | exact HB.out))))
          have n1_ := Aside0.mk (below_step (by repeat (first | (with_reducible first | exact HB.out | apply below_alloc | apply pw_below_drewN | apply below_drew1) | exact HB.out)) hb)
          clear HB
          have HO127 := n0_
          have HB := n1_
          clear n0_ n1_
          (try clear hb)
          (try clear hb2)
          (try clear hk)
          (try clear hi)
          (try clear ho0)
          refine hK.out _ _ ((Kd.C_string (P := Try.prog) (A := A25) (c := (c0 - (ji3).toNat)) Try.underlying22 Try.underlying5 Try.underlying9 (Kd.C_below HR128.out (by repeat (first | exact HB.out | apply pw_below_drewN | apply below_drew1 | apply below_alloc))))) (fun hHeld => ?_)
          clear hK K
          refine norm_ (a' := ?_) ?_ ?_
          rotate_left
          · show Act.put _ (some 16) _ = _
            simp only [Act.put, List.setIfInBounds_toArray, List.set_cons_zero, List.set_cons_succ, i64_w, i32_w]
            rfl
          refine one_ (i := 5) (N := some 17) #[true, true, true, true, true, true, true, true, true, true, false, false] rfl rfl (one_of HT_.out (by kernel_rfl)) (by decide) (fun K hK => ?_)
          have hcv28 := own_string (P := Try.prog) Try.underlying22 Try.underlying5 Try.underlying9 (Kd.own_of_R HO127.out)
          refine value_ (w1 := ?_) (v := ?_) (by rfl) rfl ?_ ?_
          rotate_left 2
          · go_simp
            constructor
            · rfl
            · rfl
          clear hcv28
          refine hK.out _ _ ((Kd.C_string (P := Try.prog) (A := A25) (c := (c0 - (ji3).toNat)) Try.underlying22 Try.underlying5 Try.underlying9 (Kd.C_below HR128.out (by repeat (first | exact HB.out | apply pw_below_drewN | apply below_drew1 | apply below_alloc))))) (fun hHeld => ?_)
          clear hK K
          refine norm_ (a' := ?_) ?_ ?_
          rotate_left
          · show Act.put _ (some 17) _ = _
            simp only [Act.put, List.setIfInBounds_toArray, List.set_cons_zero, List.set_cons_succ, i64_w, i32_w]
            rfl
          refine pure_ (i := 10) (N := some 22) (v := ?_) (a' := ?_) #[true, true, true, true, true, true, true, true, true, true, true, false] rfl rfl (any_of HT_.out (by kernel_rfl)) (fun _ _ _ h => h) (Or.inl ⟨by rfl, ?_⟩) ?_ ?_
          rotate_left
          · intro w'
            go_simp
            with_reducible rfl
          rotate_left
          · simp only [Act.put, List.setIfInBounds_toArray, List.set_cons_zero, List.set_cons_succ, i64_w, i32_w]
            rfl
          refine pure_ (i := 11) (N := some 11) (v := ?_) (a' := ?_) #[true, true, true, true, true, true, true, true, true, true, true, true] rfl rfl (any_of HT_.out (by kernel_rfl)) (fun _ _ _ h => h) (Or.inl ⟨by rfl, ?_⟩) ?_ ?_
          rotate_left
          · intro w'
            go_simp
            with_reducible rfl
          rotate_left
          · simp only [Act.put, List.setIfInBounds_toArray, List.set_cons_zero, List.set_cons_succ, i64_w, i32_w]
            rfl
          refine done_ (done_of HT_.out (by kernel_rfl)) ?_
          try go_wp2
          go_ret2
          exact ⟨_, by first | rfl | (simp [errW_none, errW_some] <;> rfl) | (simp only [← hji3]; first | rfl | (simp [errW_none, errW_some] <;> rfl)) | (simp [*, errW_none, errW_some] <;> rfl), Kd.V_nil _ _ _ _ _, by repeat (first | (with_reducible first | exact HB.out | apply below_alloc | apply pw_below_drewN | apply below_drew1) | exact HB.out)⟩
      · rw [if_neg c5] at H
        exact absurd H (by simp)
    · rw [if_neg c4] at H
      exact absurd H (by simp)

end Go.Proofs.Ytcnapbpljghfoaa.PCrc

/- Plain facts on sums: a row of bytes as one number; two unlike rows of which only four bytes in a row differ have unlike sums. -/
namespace Go.Proofs.Ytcnapbpljghfoaa.Plain

theorem bitN_inj {a b : Nat} (ha : a < 4294967296) (hb : b < 4294967296) (h : bitN a = bitN b) : a = b := by
  have h31 : ∀ n : Nat, n < 4294967296 → (bitN n).testBit 31 = decide (n % 2 = 1) := by
    intro n hn
    unfold bitN
    rw [Nat.testBit_xor, Nat.testBit_lt_two_pow (x := n / 2) (i := 31) (by omega)]
    by_cases h2 : n % 2 = 1
    · rw [if_pos h2, decide_eq_true h2, show polyN.testBit 31 = true from by decide]
      rfl
    · rw [if_neg h2, decide_eq_false h2, Nat.zero_testBit]
      rfl
  have e1 := h31 a ha
  rw [h, h31 b hb] at e1
  have hm : a % 2 = b % 2 := by
    rcases Nat.mod_two_eq_zero_or_one a with h1 | h1 <;> rcases Nat.mod_two_eq_zero_or_one b with h2 | h2 <;> rw [h1, h2] at e1 <;> first | omega | (exact absurd e1 (by decide))
  unfold bitN at h
  rw [hm] at h
  have h9 := congrArg (fun x => x ^^^ (if b % 2 = 1 then polyN else 0)) h
  simp only [Nat.xor_assoc, Nat.xor_self, Nat.xor_zero] at h9
  omega
theorem bitsN_inj (k : Nat) : ∀ {a b : Nat}, a < 4294967296 → b < 4294967296 → bitsN k a = bitsN k b → a = b := by
  induction k with
  | zero => intro a b _ _ h; exact h
  | succ k ih => intro a b ha hb h; exact bitN_inj ha hb (ih (bitN_lt ha) (bitN_lt hb) h)
theorem bitsN_zero (k : Nat) : bitsN k 0 = 0 := by
  induction k with
  | zero => rfl
  | succ k ih => exact ih
theorem xor_cancel_right {a b c : Nat} (h : a ^^^ c = b ^^^ c) : a = b := by
  have h9 := congrArg (fun x => x ^^^ c) h
  simpa only [Nat.xor_assoc, Nat.xor_self, Nat.xor_zero] using h9
theorem xor_cancel_left {a b c : Nat} (h : c ^^^ a = c ^^^ b) : a = b := by
  rw [Nat.xor_comm c a, Nat.xor_comm c b] at h
  exact xor_cancel_right h
theorem stepN_inj {n m c : Nat} (hn : n < 4294967296) (hm : m < 4294967296) (hc : c < 4294967296) (h : stepN n c = stepN m c) : n = m :=
  xor_cancel_right (bitsN_inj 8 (Nat.xor_lt_two_pow (n := 32) hn hc) (Nat.xor_lt_two_pow (n := 32) hm hc) h)
theorem sumN_inj (l : List Int) : ∀ {n m : Nat}, n < 4294967296 → m < 4294967296 → (∀ x ∈ l, 0 ≤ x ∧ x < 256) → sumN n l = sumN m l → n = m := by
  induction l with
  | nil => intro n m _ _ _ h; exact h
  | cons c l ih =>
    intro n m hn hm hl h
    have hc := hl c (.head _)
    have hc' : c.toNat < 4294967296 := by omega
    exact stepN_inj hn hm hc' (ih (stepN_lt hn hc') (stepN_lt hm hc') (fun x hx => hl x (.tail _ hx)) h)

/-- A row of bytes as one number, the least byte first. -/
def numL : List Int → Nat
  | [] => 0
  | c :: r => c.toNat + 256 * numL r
theorem add_xor (c m : Nat) (hc : c < 256) : c + 256 * m = c ^^^ (m * 2 ^ 8) := by
  have h1 := Go.nat_join 8 (m * 2 ^ 8) c (Nat.mul_mod_left _ _) hc
  have h3 : (m * 2 ^ 8) ||| c = (m * 2 ^ 8) ^^^ c := by
    apply Nat.eq_of_testBit_eq
    intro i
    rw [Nat.testBit_or, Nat.testBit_xor, Nat.testBit_mul_two_pow]
    by_cases hi : 8 ≤ i
    · rw [Nat.testBit_lt_two_pow (x := c) (i := i) (Nat.lt_of_lt_of_le hc (Nat.pow_le_pow_right (by omega) hi : 2 ^ 8 ≤ 2 ^ i))]
      simp
    · simp [hi]
  rw [h3, Nat.xor_comm] at h1
  rw [h1]
  omega
theorem sumN_num (l : List Int) : ∀ n : Nat, (∀ x ∈ l, 0 ≤ x ∧ x < 256) → sumN n l = bitsN (8 * l.length) (n ^^^ numL l) := by
  induction l with
  | nil => intro n _; simp [sumN, numL, bitsN]
  | cons c l ih =>
    intro n hl
    have hc := hl c (.head _)
    show sumN (stepN n c.toNat) l = _
    rw [ih _ (fun x hx => hl x (.tail _ hx)), numL, add_xor _ _ (by omega), ← Nat.xor_assoc, List.length_cons, show 8 * (l.length + 1) = 8 + 8 * l.length from by omega, bitsN_add, bitsN_xor 8, bitsN_shl]
    rfl
theorem numL_lt (l : List Int) : (∀ x ∈ l, 0 ≤ x ∧ x < 256) → numL l < 2 ^ (8 * l.length) := by
  induction l with
  | nil => intro _; simp [numL]
  | cons c l ih =>
    intro hl
    have hc := hl c (.head _)
    have := ih (fun x hx => hl x (.tail _ hx))
    rw [numL, List.length_cons, show 8 * (l.length + 1) = 8 * l.length + 8 from by omega, Nat.pow_add]
    omega
theorem numL_append (l r : List Int) : numL (l ++ r) = numL l + 2 ^ (8 * l.length) * numL r := by
  induction l with
  | nil => simp [numL]
  | cons c l ih =>
    rw [List.cons_append, numL, numL, ih, List.length_cons, show 8 * (l.length + 1) = 8 * l.length + 8 from by omega, Nat.pow_add]
    rw [Nat.mul_add, Nat.add_assoc]
    congr 2
    rw [← Nat.mul_assoc, Nat.mul_comm 256, show (2 : Nat) ^ 8 = 256 from rfl]
/-- One bit turned. -/
theorem numL_turn (l : List Int) : ∀ (j b v : Nat), j < l.length → b < 8 → (∀ x ∈ l, 0 ≤ x ∧ x < 256) → v = (l.getD j 0).toNat ^^^ 2 ^ b → numL (l.set j (v : Int)) = numL l ^^^ 2 ^ (8 * j + b) := by
  induction l with
  | nil => intro j b v hj; simp at hj
  | cons c l ih =>
    intro j b v hj hb hl hv
    have hc := hl c (.head _)
    have hp : 2 ^ b ≤ 2 ^ 7 := Nat.pow_le_pow_right (by omega) (by omega)
    cases j with
    | zero =>
      have hv' : v < 256 := by
        rw [hv]
        exact Nat.xor_lt_two_pow (n := 8) (by simp; omega) (by omega)
      rw [List.set_cons_zero, numL, numL, Int.toNat_natCast, add_xor _ _ hv', add_xor _ _ (by omega), hv]
      simp only [List.getD_cons_zero, Nat.mul_zero, Nat.zero_add]
      rw [Nat.xor_assoc, Nat.xor_comm (2 ^ b), ← Nat.xor_assoc]
    | succ j =>
      have := ih j b v (by simpa using hj) hb (fun x hx => hl x (.tail _ hx)) (by simpa using hv)
      rw [List.set_cons_succ, numL, numL, this, add_xor _ _ (by omega), add_xor _ _ (by omega)]
      have e : (numL l ^^^ 2 ^ (8 * j + b)) * 2 ^ 8 = numL l * 2 ^ 8 ^^^ 2 ^ (8 * (j + 1) + b) := by
        have h9 := Nat.shiftLeft_xor_distrib (a := numL l) (b := 2 ^ (8 * j + b)) (i := 8)
        simp only [Nat.shiftLeft_eq] at h9
        rw [h9, ← Nat.pow_add, show 8 * j + b + 8 = 8 * (j + 1) + b from by omega]
      rw [e, Nat.xor_assoc]
/-- What is not nought and no longer than 32 bits is found, wherever it lies. -/
theorem burst_found {P k L : Nat} (hP : P < 4294967296) (hk : k ≤ L) (h : bitsN L (P * 2 ^ k) = 0) : P = 0 := by
  obtain ⟨m, rfl⟩ : ∃ m, L = k + m := ⟨L - k, by omega⟩
  rw [bitsN_add, bitsN_shl] at h
  exact bitsN_inj m hP (by omega) (by rw [h, bitsN_zero])
end Go.Proofs.Ytcnapbpljghfoaa.Plain

/- What the printed crc.Sum, crc.Seal, crc.Open tell, in plain words. -/
namespace Go.Proofs.Ytcnapbpljghfoaa.Plain
open Go.RowKit Go.Proofs.YtcnapbpljghfoaaW.PrintWords Go.Proofs.YtcnapbpljghfoaaW.PrintLast Go.Proofs.YtcnapbpljghfoaaW.PrintMore
open Go.Proofs.Ytcnapbpljghfoaa.PCrc
open Go.Proofs.Ytcnapbpljghfoaa.Hand (moreF sealF ownF tailL sum_f tail_f)
set_option linter.unusedVariables false
set_option linter.unusedSimpArgs false

theorem tailL_isB (n : Nat) : isB (tailL n) := by
  intro x hx
  simp only [tailL, List.mem_cons, List.not_mem_nil, or_false] at hx
  omega
theorem tailL_length (n : Nat) : (tailL n).length = 4 := rfl
theorem numL_tail {n : Nat} (h : n < 4294967296) : numL (tailL n) = n := by
  simp only [tailL, numL, Int.toNat_natCast]
  omega
theorem tail_numL {t : List Int} (h : isB t) (hl : t.length = 4) : tailL (numL t) = t := by
  obtain ⟨a, b, c, d, rfl⟩ : ∃ a b c d, t = [a, b, c, d] := by
    match t, hl with
    | [a, b, c, d], _ => exact ⟨a, b, c, d, rfl⟩
  have ha := h a (by simp)
  have hb := h b (by simp)
  have hc := h c (by simp)
  have hd := h d (by simp)
  simp only [tailL, numL, List.cons.injEq, and_true]
  omega
theorem ones_lt : ones < 4294967296 := by decide
theorem moreN0 (l : List Int) : moreN 0 l = sumN ones l ^^^ ones := by
  unfold moreN
  rw [Nat.zero_xor]
/-- When four bytes are the sum of what lies ahead of them. -/
theorem sealed_iff {p t : List Int} (hp : isB p) (ht : isB t) (hl : t.length = 4) : tailL (moreN 0 p) = t ↔ sumN ones (p ++ t) = bitsN 32 ones := by
  have hm := moreN_lt (s := 0) (by omega) hp
  have hs : sumN ones p < 4294967296 := sumN_lt p ones_lt hp
  have hn : numL t < 4294967296 := by have := numL_lt t ht; rw [hl] at this; exact this
  have e : sumN ones (p ++ t) = bitsN 32 (sumN ones p ^^^ numL t) := by
    rw [sumN_append, sumN_num t _ ht, hl]
  rw [e]
  constructor
  · intro h
    rw [← h, numL_tail hm, moreN0, ← Nat.xor_assoc, Nat.xor_self, Nat.zero_xor]
  · intro h
    have h9 := bitsN_inj 32 (Nat.xor_lt_two_pow (n := 32) hs hn) ones_lt h
    have h8 : moreN 0 p = numL t := by
      have h7 := congrArg (fun x => sumN ones p ^^^ x) h9
      simp only [← Nat.xor_assoc, Nat.xor_self, Nat.zero_xor] at h7
      rw [moreN0, h7]
    rw [h8, tail_numL ht hl]

/-- What crc.Open tells. -/
def openL (l : List Int) : List Int × Int := if l.length < 4 then ([], 4) else if tailL (moreN 0 (l.take (l.length - 4))) = l.drop (l.length - 4) then (l.take (l.length - 4), 0) else ([], 5)
theorem open_f {l : List Int} (hb : isB l) (hl : l.length ≤ 140737488355328) : crc_Open.f l = some (openL l) := by
  unfold crc_Open.f openL
  rw [w64 (by omega) (by omega)]
  by_cases h4 : l.length < 4
  · rw [if_pos (by omega), if_pos h4]
  · have e : ((l.length : Int) - 4).toNat = l.length - 4 := by omega
    have e0 : (l.length : Int) - 4 = ((l.length - 4 : Nat) : Int) := by omega
    rw [if_neg (by omega), if_pos (by omega), if_pos (by omega), if_neg h4, e, sum_f (isB_take hb _) (by rw [List.length_take]; omega), Option.bind_some, tail_f, Option.bind_some]
    by_cases ht : tailL (moreN 0 (l.take (l.length - 4))) = l.drop (l.length - 4)
    · rw [if_pos ht, ht, if_pos rfl]
      unfold num_Own.f ownF
      rw [if_pos (by rw [List.length_take]; omega)]
      rfl
    · rw [if_neg ht, if_neg]
      intro h
      exact ht (strOfNums_inj (tailL_isB _) (isB_drop hb _) h)
theorem openL_seal (l : List Int) : openL (l ++ tailL (moreN 0 l)) = (l, 0) := by
  unfold openL
  have e : (l ++ tailL (moreN 0 l)).length = l.length + 4 := by rw [List.length_append, tailL_length]
  rw [if_neg (by omega), e, show l.length + 4 - 4 = l.length from by omega, List.take_left, List.drop_left, if_pos rfl]
theorem seal_f {l : List Int} (hb : isB l) (hl : l.length ≤ 140737488355000) : crc_Seal.f l = some (l ++ tailL (moreN 0 l)) := by
  unfold crc_Seal.f sealF
  rw [if_pos ⟨hb, hl⟩]
theorem sealed_isB {l : List Int} (hb : isB l) : isB (l ++ tailL (moreN 0 l)) := isB_append hb (tailL_isB _)
end Go.Proofs.Ytcnapbpljghfoaa.Plain

/- The contract, proved by hand, of crc.Open: what was sealed, in new memory of bytes; and of num.Own likewise. -/
namespace Go.Proofs.Ytcnapbpljghfoaa.Hand
open Go.RowKit Go.Proofs.YtcnapbpljghfoaaW.PrintWords Go.Proofs.YtcnapbpljghfoaaW.PrintLast Go.Proofs.YtcnapbpljghfoaaW.PrintMore
open Go.Proofs.Ytcnapbpljghfoaa.Plain Go.Proofs.Ytcnapbpljghfoaa.PCrc
set_option linter.unusedVariables false
set_option linter.unusedSimpArgs false
theorem str_eq1 {l r : List Int} (h : isB l) (h' : isB r) : (strOfNums l).toList = (strOfNums r).toList ↔ l = r := ⟨strOfNums_inj h h', fun e => by rw [e]⟩
/-- A block of bytes, from base on. -/
def OkB (W : World) (base : Nat) (k : Nat) : Prop := base ≤ k ∧ ∃ cells, W.heap[k]? = some (.cells cells 5 (0, 0))
/-- A row that reads as xs, its memory a block of bytes from base on. -/
def B5 (W : World) (base : Nat) (v : Value) (xs : List Int) : Prop := ∃ A c, v = .slice A xs.length c ∧ xs.length ≤ c ∧ Kd.F (Kd.int .u8) W (OkB W base) A xs.length xs
theorem B5.nil (W : World) (base : Nat) : B5 W base (.slice none 0 0) [] := ⟨none, 0, rfl, Nat.le_refl _, Kd.F_nil _ _ _⟩
theorem B5.V {e base' : Nat} {W : World} {base : Nat} {v : Value} {xs : List Int} (h : B5 W base v xs) : Kd.V (Kd.int .u8) e W base' (fun k => base ≤ k) v xs := by
  obtain ⟨A, c, rfl, hl, hF⟩ := h
  exact ⟨A, c, rfl, hl, Kd.F_mono hF (fun k hk => hk.1)⟩
/-- Whatever keeps the blocks of bytes. -/
theorem B5.step {W W1 : World} {base base' : Nat} {v : Value} {xs : List Int} (h : B5 W base v xs) (hb : base' ≤ base) (hk : ∀ k, OkB W base k → W1.heap[k]? = W.heap[k]?) : B5 W1 base' v xs := by
  obtain ⟨A, c, rfl, hl, hF⟩ := h
  refine ⟨A, c, rfl, hl, Kd.F_mono (Kd.F_step (Kd.F_bound hF) (fun k hk' _ => hk k hk'.1)) (fun k hk' => ⟨Nat.le_trans hb hk'.1.1, ?_⟩)⟩
  obtain ⟨cells, hc⟩ := hk'.1.2
  exact ⟨cells, (hk k hk'.1).trans hc⟩
theorem B5.below {W W1 : World} {base : Nat} {v : Value} {xs : List Int} (h : B5 W base v xs) (hb : Below W.heap.size W W1) : B5 W1 base v xs :=
  h.step (Nat.le_refl _) (fun k hk => by obtain ⟨c, hc⟩ := hk.2; exact hb.block k (blk_lt hc))
theorem Clipped.B5 {w : World} {base : Nat} {v : Value} {xs : List Int} (h : Clipped 5 w base v xs) : B5 w base v xs := by
  obtain ⟨A, c, rfl, h⟩ := h
  refine ⟨A, xs.length, rfl, Nat.le_refl _, Kd.R_F (Kd.R_mono (Kd.R_bound h) (fun k hk => ⟨hk.2.1, ?_⟩))⟩
  obtain ⟨_, _, _, q, hq, cells, hc⟩ := hk
  have : q = 5 := by simpa [Kd.int, Kd.scalar] using hq
  subst this
  exact ⟨cells, hc⟩

set_option maxHeartbeats 800000 in
set_option maxRecDepth 100000 in
theorem own5_calls (A0 : Option Addr) (c0 : Nat) (l0 : List Int) (w : World) (hr0 : Kd.C (Kd.int .u8) w A0 l0.length l0) (hl : l0.length ≤ 140737488355328) :
    Calls Try.prog 34 #[.slice A0 l0.length c0] w fun e w' => ∃ v0_ : Value, e = .returned (v0_) ∧ B5 w' w.heap.size v0_ l0 ∧ Below w.heap.size w w' := by
  go_enter Try.func34, Try.ntmps34
  go_wp2_with (first | (go_at_call 29; refine (clone_calls _ _ l0 _ hr0 hl).mono ?_; rintro e w1 ⟨v, rfl, ho, hb⟩; have HO := Aside0.mk ho; have HB := Aside0.mk hb; clear ho hb) | (go_at_call 30; refine (clip_calls _ _ _ _ HO.out).mono ?_; rintro e w3 ⟨⟨v3, rfl, hcl⟩, rfl⟩; have HCL := Aside0.mk hcl; clear hcl))
  go_ret
  exact ⟨_, rfl, HCL.out.B5, HB.out⟩

def opn.T4 : Bool × List (List Nat × List Nat) := (true, [([], []), ([], []), ([0, 1], [0, 1]), ([2], [2]), ([3, 3], [3]), ([4], [4]), ([], []), ([], []), ([6, 7], [6, 7]), ([8], [8]), ([5, 9], [5, 9]), ([10, 4], [10])])
def opn.B4 : List Nat := [0, 0, 3, 7, 15, 31, 0, 0, 192, 448, 1023, 2047]
theorem opn.tab4 : rtab .any (opsOf Try.f22 4) = opn.T4 := by kernel_rfl
theorem opn.bits4 : waitsOk opn.T4.2 opn.B4 = true := by kernel_rfl

set_option maxHeartbeats 1600000 in
set_option maxRecDepth 100000 in
theorem open5_calls (A0 : Option Addr) (c0 : Nat) (l0 : List Int) (w : World) (hr0 : Kd.C (Kd.int .u8) w A0 l0.length l0) (hc0 : l0.length ≤ c0) (hby : isB l0) (hl : l0.length ≤ 140737488355328) :
    Calls Try.prog 22 #[.slice A0 l0.length c0] w fun e w' => ∃ v0_ : Value, e = .returned (.tuple #[v0_, .int .i64 (openL l0).2]) ∧ B5 w' w.heap.size v0_ (openL l0).1 ∧ Below w.heap.size w w' := by
  have HR := Aside0.mk hr0
  have HBY := Aside0.mk hby
  have HL := Aside0.mk hl
  clear hr0 hby
  unfold openL
  by_cases c1 : l0.length < 4
  · rw [if_pos c1]
    have d1 : decide ((l0.length : Int) - 4 < 0) = true := decide_eq_true (by omega)
    go_enter Try.func22, Try.ntmps22
    go_wp2
    go_ret2
    exact ⟨_, rfl, B5.nil _ _, Below.refl _ _⟩
  · rw [if_neg c1]
    obtain ⟨m, hm⟩ : ∃ m, l0.length - 4 = m := ⟨_, rfl⟩
    rw [hm]
    have hm4 : (l0.length : Int) - 4 = (m : Int) := by omega
    have hml : m ≤ l0.length := by omega
    have d1 : decide ((m : Int) < 0) = false := decide_eq_false (by omega)
    obtain ⟨i0, hi0, _, hsz0, _⟩ := info_parts hinfo_u8
    obtain ⟨hcut1, hA1, hC1⟩ := print_take_of (P := Try.prog) (Value.int .u8) 0 22 5 .i64 Try.underlying22 hi0 hsz0 A0 c0 l0 (m : Int) (by omega) (by omega) hc0
    obtain ⟨A2, hcut2, hA2, hC2⟩ := print_drop_of (P := Try.prog) (Value.int .u8) 0 22 5 .i64 Try.underlying22 hi0 hsz0 A0 c0 l0 (m : Int) (by omega) (by omega) hc0
    have hR1 := Kd.C_of_reads (h1 := fun _ => rfl) (hA1 _ (Kd.reads_of_C HR.out))
    have hR2 := Kd.C_of_reads (h1 := fun _ => rfl) (hA2 _ (Kd.reads_of_C HR.out))
    rw [Int.toNat_natCast] at hcut1 hcut2 hR1 hR2 hC1 hC2
    have hlt := List.length_take (i := m) (l := l0)
    have hb1 := isB_take HBY.out m
    have hb2 := isB_drop HBY.out m
    obtain ⟨x1, ex1⟩ : ∃ x, l0.take m = x := ⟨_, rfl⟩
    obtain ⟨x2, ex2⟩ : ∃ x, l0.drop m = x := ⟨_, rfl⟩
    rw [ex1] at hcut1 hR1 hC1 hb1 hlt
    rw [ex2] at hcut2 hR2 hC2 hb2
    rw [ex1, ex2]
    have HR1 : Aside0 (Kd.C (Kd.int .u8) w A0 x1.length x1) := ⟨hR1⟩
    have HR2 : Aside0 (Kd.C (Kd.int .u8) w A2 x2.length x2) := ⟨hR2⟩
    have HSUM := Aside0.mk (sum_f hb1 (by have := HL.out; omega))
    have HTAIL := Aside0.mk (tail_f (moreN 0 x1))
    have HX1 := Aside0.mk (show x1.length ≤ 140737488355328 by have := HL.out; omega)
    have HC1 := Aside0.mk hC1
    have hiff := str_eq1 (tailL_isB (moreN 0 x1)) hb2
    clear hR1 hR2 hA1 hA2 hC1 hC2 hi0 hsz0 hlt hb1 ex1 ex2 hml
    have hlm : (l0.length : Int) ≤ 140737488355328 := by have := HL.out; omega
    obtain ⟨q, e1⟩ : ∃ q : Bool, ((strOfNums (tailL (moreN 0 x1))).toList == (strOfNums x2).toList) = q := ⟨_, rfl⟩
    have hq : q = true ↔ tailL (moreN 0 x1) = x2 := by rw [← e1, beq_iff_eq]; exact hiff
    obtain ⟨rv, re, hres⟩ : ∃ rv re, (if tailL (moreN 0 x1) = x2 then (x1, (0 : Int)) else ([], 5)) = (rv, re) := ⟨_, _, rfl⟩
    rw [hres]
    have HQ : Aside0 ((q = true → rv = x1 ∧ re = 0) ∧ (q = false → rv = [] ∧ re = 5)) := ⟨by
      refine ⟨fun h => ?_, fun h => ?_⟩
      · rw [if_pos (hq.1 h)] at hres
        injection hres with e1 e2
        exact ⟨e1.symm, e2.symm⟩
      · rw [if_neg (fun h2 => by rw [hq.2 h2] at h; cases h)] at hres
        injection hres with e1 e2
        exact ⟨e1.symm, e2.symm⟩⟩
    clear hq hres
    clear hiff hb2
    go_enter Try.func22, Try.ntmps22
    go_wp2
    refine start_ (n := 12) (S := fun w' => Below w.heap.size w w') (ds := []) #[false, false, false, false, false, false, false, false, false, false, false, false] (by kernel_rfl) rfl rfl (below_drew1 (Below.refl _ w)) (fun hHeld => ?_)
    refine with_tabW opn.tab4 opn.bits4 (fun HT_ HW_ => ?_)
    refine pure_ (i := 0) (N := some 12) (v := ?_) (a' := ?_) #[true, false, false, false, false, false, false, false, false, false, false, false] rfl rfl (any_of HT_.out (by kernel_rfl)) (fun _ _ _ h => h) (Or.inl ⟨by rfl, ?_⟩) ?_ ?_
    rotate_left
    · intro w'
      go_simp
      with_reducible rfl
    rotate_left
    · simp only [Act.put, List.setIfInBounds_toArray, List.set_cons_zero, List.set_cons_succ, i64_w, i32_w]
      rfl
    refine pure_ (i := 1) (N := some 13) (v := ?_) (a' := ?_) #[true, true, false, false, false, false, false, false, false, false, false, false] rfl rfl (any_of HT_.out (by kernel_rfl)) (fun _ _ _ h => h) (Or.inl ⟨by rfl, ?_⟩) ?_ ?_
    rotate_left
    · intro w'
      go_simp
      with_reducible rfl
    rotate_left
    · simp only [Act.put, List.setIfInBounds_toArray, List.set_cons_zero, List.set_cons_succ, i64_w, i32_w]
      rfl
    refine pure_ (i := 2) (N := some 14) (v := ?_) (a' := ?_) #[true, true, true, false, false, false, false, false, false, false, false, false] rfl rfl (any_of HT_.out (by kernel_rfl)) (fun _ _ _ h => h) (Or.inl ⟨by rfl, ?_⟩) ?_ ?_
    rotate_left
    · intro w'
      go_simp
      with_reducible rfl
    rotate_left
    · simp only [Act.put, List.setIfInBounds_toArray, List.set_cons_zero, List.set_cons_succ, i64_w, i32_w]
      rfl
    refine pure_ (i := 6) (N := some 18) (v := ?_) (a' := ?_) #[true, true, true, false, false, false, true, false, false, false, false, false] rfl rfl (any_of HT_.out (by kernel_rfl)) (fun _ _ _ h => h) (Or.inl ⟨by rfl, ?_⟩) ?_ ?_
    rotate_left
    · intro w'
      go_simp
      with_reducible rfl
    rotate_left
    · simp only [Act.put, List.setIfInBounds_toArray, List.set_cons_zero, List.set_cons_succ, i64_w, i32_w]
      rfl
    refine pure_ (i := 7) (N := some 19) (v := ?_) (a' := ?_) #[true, true, true, false, false, false, true, true, false, false, false, false] rfl rfl (any_of HT_.out (by kernel_rfl)) (fun _ _ _ h => h) (Or.inl ⟨by rfl, ?_⟩) ?_ ?_
    rotate_left
    · intro w'
      go_simp
      with_reducible rfl
    rotate_left
    · simp only [Act.put, List.setIfInBounds_toArray, List.set_cons_zero, List.set_cons_succ, i64_w, i32_w]
      rfl
    refine pure_ (i := 8) (N := some 20) (v := ?_) (a' := ?_) #[true, true, true, false, false, false, true, true, true, false, false, false] rfl rfl (any_of HT_.out (by kernel_rfl)) (fun _ _ _ h => h) (Or.inl ⟨by rfl, ?_⟩) ?_ ?_
    rotate_left
    · intro w'
      go_simp
      with_reducible rfl
    rotate_left
    · simp only [Act.put, List.setIfInBounds_toArray, List.set_cons_zero, List.set_cons_succ, i64_w, i32_w]
      rfl
    refine take_ (i := 9) (N := some 21) (v := ?_) (a' := ?_) #[true, true, true, false, false, false, true, true, true, true, false, false] rfl rfl (take_ofW HT_.out HW_.out (by kernel_rfl)) (fun _ _ _ h => h) (Or.inl ⟨by rfl, ?_⟩) hHeld ?_ ?_
    rotate_left
    · intro w' hS
      have hcv := Kd.C_string (P := Try.prog) (A := A2) (c := c0 - m) Try.underlying22 Try.underlying5 Try.underlying9 (Kd.C_below HR2.out hS)
      go_simp
      with_reducible rfl
    rotate_left
    · simp only [Act.put, List.setIfInBounds_toArray, List.set_cons_zero, List.set_cons_succ, i64_w, i32_w]
      rfl
    refine one_ (i := 3) (N := some 15) #[true, true, true, true, false, false, true, true, true, true, false, false] rfl rfl (one_of HT_.out (by kernel_rfl)) (by decide) (fun K hK => ?_)
    refine goes_ Try.func33 (by kernel_rfl) rfl #[.slice A0 x1.length c0] (by rfl) rfl rfl (by (try simp only [List.map_toArray, List.map_cons, List.map_nil]); first | done | rfl) ?_
    with_reducible refine (crc_Sum.calls _ _ x1 _ _ (Kd.C_below HR1.out hHeld) HC1.out HSUM.out).mono ?_
    rintro e w4 ⟨rfl, hb⟩
    refine ⟨_, rfl, ?_⟩
    have hS_ := below_step hHeld hb
    refine hK.out _ _ hS_ (fun hHeld => ?_)
    clear hK K
    refine norm_ (a' := ?_) ?_ ?_
    rotate_left
    · show Act.put _ (some 15) _ = _
      simp only [Act.put, List.setIfInBounds_toArray, List.set_cons_zero, List.set_cons_succ, i64_w, i32_w]
      rfl
    refine one_ (i := 4) (N := some 16) #[true, true, true, true, true, false, true, true, true, true, false, false] rfl rfl (one_of HT_.out (by kernel_rfl)) (by decide) (fun K hK => ?_)
    refine goes_ Try.func32 (by kernel_rfl) rfl #[.int .u32 ((moreN 0 x1 : Nat) : Int)] (by rfl) rfl rfl (by (try simp only [List.map_toArray, List.map_cons, List.map_nil]); first | done | rfl) ?_
    with_reducible refine (crc_Tail.calls _ _ _ HTAIL.out).mono ?_
    rintro e w5 ⟨v2, rfl, ho2, hb5⟩
    obtain ⟨A5, c5, rfl⟩ := Kd.R_slice ho2
    have HT := Aside0.mk (Kd.R_reads' ho2).2.2
    refine ⟨_, rfl, ?_⟩
    have hS_ := below_step hHeld hb5
    refine hK.out _ _ hS_ (fun hHeld => ?_)
    clear hK K
    refine norm_ (a' := ?_) ?_ ?_
    rotate_left
    · show Act.put _ (some 16) _ = _
      simp only [Act.put, List.setIfInBounds_toArray, List.set_cons_zero, List.set_cons_succ, i64_w, i32_w]
      rfl
    refine one_ (i := 5) (N := some 17) #[true, true, true, true, true, true, true, true, true, true, false, false] rfl rfl (one_of HT_.out (by kernel_rfl)) (by decide) (fun K hK => ?_)
    have hcv := Kd.C_string (P := Try.prog) (A := A5) (c := c5) Try.underlying22 Try.underlying5 Try.underlying9 HT.out
    refine value_ (v := .string (strOfNums (tailL (moreN 0 x1)))) (w1 := w5) (by rfl) rfl ?_ ?_
    · go_simp
    have hS_ := hHeld
    refine hK.out _ _ hS_ (fun hHeld => ?_)
    clear hK K
    refine norm_ (a' := ?_) ?_ ?_
    rotate_left
    · show Act.put _ (some 17) _ = _
      simp only [Act.put, List.setIfInBounds_toArray, List.set_cons_zero, List.set_cons_succ, i64_w, i32_w]
      rfl
    refine pure_ (i := 10) (N := some 22) (v := ?_) (a' := ?_) #[true, true, true, true, true, true, true, true, true, true, true, false] rfl rfl (any_of HT_.out (by kernel_rfl)) (fun _ _ _ h => h) (Or.inl ⟨by rfl, ?_⟩) ?_ ?_
    rotate_left
    · intro w'
      go_simp
      with_reducible rfl
    rotate_left
    · simp only [Act.put, List.setIfInBounds_toArray, List.set_cons_zero, List.set_cons_succ, i64_w, i32_w]
      rfl
    refine pure_ (i := 11) (N := some 11) (v := ?_) (a' := ?_) #[true, true, true, true, true, true, true, true, true, true, true, true] rfl rfl (any_of HT_.out (by kernel_rfl)) (fun _ _ _ h => h) (Or.inl ⟨by rfl, ?_⟩) ?_ ?_
    rotate_left
    · intro w'
      go_simp
      with_reducible rfl
    rotate_left
    · simp only [Act.put, List.setIfInBounds_toArray, List.set_cons_zero, List.set_cons_succ, i64_w, i32_w]
      rfl
    refine done_ (done_of HT_.out (by kernel_rfl)) ?_
    have HB := Aside0.mk hHeld
    cases q with
    | true =>
      go_wp2_with (go_at_call 34; refine (own5_calls _ _ x1 _ (Kd.C_below HR1.out HB.out) HX1.out).mono ?_; rintro e w6 ⟨v6, rfl, ho, hb⟩; have HO := Aside0.mk ho; have n1_ := Aside0.mk (below_step HB.out hb); have HS := Aside0.mk HB.out.size; clear HB; have HB := n1_; clear ho hb)
      go_ret2
      obtain ⟨rfl, rfl⟩ := HQ.out.1 (by simp)
      exact ⟨_, rfl, HO.out.step HS.out (fun _ _ => rfl), HB.out⟩
    | false =>
      go_wp2
      go_ret2
      obtain ⟨rfl, rfl⟩ := HQ.out.2 (by simp)
      exact ⟨_, rfl, B5.nil _ _, HB.out⟩
end Go.Proofs.Ytcnapbpljghfoaa.Hand
