/- Contracts, proved by hand, of slices.Clone and slices.Clip at bytes: Clone hands back a row of the call's own with the same bytes (no more than 2^47 of them); Clip hands back what it is given, its capacity cut to its length. -/
import Derived.Test.YtgkdigaieelopaaProg
import Derived.Below
import Derived.Deep.Draws
import Derived.OwnWalk
import Derived.Laws.MakeOwn
import Derived.Laws.OwnMore
import Derived.Tactics
import Derived.WalkKit
import Derived.KernelRfl
import Derived.RowKit3
import Derived.Deep.LoopGhost
import Derived.Deep.DeepCutAuto
import Derived.WalkSpells
import Derived.Laws.BitsLemmas
import Derived.Laws.BitsAllLaws
import Derived.RowKit
import Derived.Test.YtgkdigaieelopaaWWords
import Derived.Test.YtgkdigaieelopaaWLast
import Derived.Test.YtgkdigaieelopaaWMore
namespace Go.Proofs.Ytgkdigaieelopaa.Hand
open Go.RowKit Go.Proofs.YtgkdigaieelopaaW.PrintWords Go.Proofs.YtgkdigaieelopaaW.PrintLast Go.Proofs.YtgkdigaieelopaaW.PrintMore
set_option linter.unusedVariables false
set_option linter.unusedSimpArgs false

theorem hinfo_u8 : (Try.prog.info? 5).map (fun i => (i.zero, i.size, i.bytes)) = some (some (.int .u8 0), 1, 1) := by kernel_rfl

theorem C_none {α : Type} {d : Kd α} {w : World} {n : Nat} {xs : List α} (h : d.C w none n xs) : n = 0 := by
  rcases Nat.eq_zero_or_pos n with h0 | h0
  · exact h0
  · obtain ⟨ad, e, _⟩ := h.2.2 h0
    cases e

set_option maxHeartbeats 800000 in
set_option maxRecDepth 100000 in
theorem clone_calls (A0 : Option Addr) (c0 : Nat) (l0 : List Int) (w : World) (hr0 : Kd.C (Kd.int .u8) w A0 l0.length l0) (hl : l0.length ≤ 140737488355328) :
    Calls Try.prog 23 #[.slice A0 l0.length c0] w fun e w' => ∃ v0_ : Value, e = .returned v0_ ∧ Kd.R (Kd.int .u8) 5 w' w.heap.size (fun _ => True) v0_ l0 ∧ Below w.heap.size w w' := by
  cases A0 with
  | none =>
    have h0 := C_none hr0
    obtain rfl : l0 = [] := List.eq_nil_of_length_eq_zero h0
    clear h0
    have hnil := fun W => Lib.run_eql_slice_nil (P := Try.prog) W 22 5 none 0 c0 0 0 Try.underlying22
    go_enter Try.func23, Try.ntmps23
    go_wp2
    go_ret
    exact ⟨_, rfl, Kd.R_nil _ _ _ _ _, Below.refl _ _⟩
  | some ad =>
    have hnil := fun W => Lib.run_eql_slice_nil (P := Try.prog) W 22 5 (some ad) l0.length c0 0 0 Try.underlying22
    have HR0 := Aside0.mk hr0
    have HL := Aside0.mk hl
    have HB := Aside0.mk (Below.refl w.heap.size w)
    clear hr0 hl
    go_enter Try.func23, Try.ntmps23
    go_wp2_with (first | ((with_reducible refine gate_dst (N := 5) rfl ?_); refine Kd.R_lit (Kd.int .u8) _ 5 ?hg (N := 5) ?hd (xs := ([] : List Int)) (inner := []) (ok := fun _ => True) (okp := fun _ => True) ?hr ?hp (fun _ hk => hk) trivial (Below.refl _ _) (Nat.le_refl _) (by simp) ?_; (case hd => rfl); (case hg => rfl); (case hr => first | (go_simp; done) | (go_simp; rfl)); (case hp => exact Reps.none _ _); intro v1 w1 ho hb hg_ hnew_; clear hg_ hnew_; have HO := Aside0.mk ho; clear HB; have HB := Aside0.mk hb; clear ho hb) | ((with_reducible refine gate_builtin (b := .append) (xs := #[.tmp 5, .tmp 6]) rfl ?_); at_builtin; refine Kd.R_append_rows (Kd.int .u8) (w0 := w) w.heap.size rfl (.tmp 5) (.tmp 6) 22 5 (.int .u8 0) 1 rfl Try.underlying22 hinfo_u8 rfl (by decide) (by omega) v1 [] l0 _ _ _ (fun _ => True) (fun _ => False) rfl rfl ?aO ?aR (fun _ _ h => h) (fun _ h => h.elim) ?aF ?aB ?aS ?aL ?_; (case aR => exact (Kd.C_below HR0.out HB.out)); (case aB => exact HB.out); (case aF => exact (fun _ _ => trivial)); (case aO => exact HO.out); (case aS => exact (below_size HB.out)); (case aL => have := HL.out; simp only [List.length_nil]; omega); intro v2 w2 ho hb hg hat; clear HB HO; have HO := Aside0.mk ho; have HB := Aside0.mk hb; clear ho hb hg hat))
    go_ret
    exact ⟨_, rfl, HO.out, HB.out⟩

/-- What a row of one's own becomes by Clip: the same cells, the capacity cut to the length. -/
def Clipped (e : Nat) (w : World) (base : Nat) (v : Value) (xs : List Int) : Prop :=
  ∃ A c, v = .slice A xs.length xs.length ∧ Kd.R (Kd.int .u8) e w base (fun _ => True) (.slice A xs.length c) xs

theorem Clipped.V {e : Nat} {w : World} {base base' : Nat} {v : Value} {xs : List Int} (h : Clipped e w base v xs) : Kd.V (Kd.int .u8) e w base' (fun k_ => base ≤ k_) v xs := by
  obtain ⟨A, c, rfl, h⟩ := h
  have h2 := Kd.R_mono (Kd.R_bound h) (ok' := fun k_ => base ≤ k_) (fun k hk => hk.2.1)
  exact ⟨A, xs.length, rfl, Nat.le_refl _, Kd.R_F h2⟩

/-- A string made of a row that is only read. -/
theorem V_string {P : Program} {w : World} {src dst e : TypeId} {ok : Nat → Prop} {v : Value} {xs : List Int} (hs : P.underlying src = some (.slice e)) (he : P.underlying e = some (.int .u8)) (hd : P.underlying dst = some .string)
    (h : Kd.V (Kd.int .u8) 0 w 0 ok v xs) : (convert src dst v).run P w = .ok (.string (strOfNums xs)) w := by
  obtain ⟨A, c, rfl, _, hf⟩ := h
  exact Kd.C_string hs he hd (Kd.F_now hf)

set_option maxHeartbeats 800000 in
set_option maxRecDepth 100000 in
theorem clip_calls (v : Value) (xs : List Int) (w : World) (base : Nat) (ho : Kd.R (Kd.int .u8) 5 w base (fun _ => True) v xs) :
    Calls Try.prog 22 #[v] w fun e w' => (∃ v0_ : Value, e = .returned v0_ ∧ Clipped 5 w' base v0_ xs) ∧ w = w' := by
  obtain ⟨A, c, rfl⟩ := Kd.R_slice ho
  have hrd := Kd.R_reads' ho
  have hle : xs.length ≤ c := hrd.2.1
  have hmax : xs.length ≤ 9223372036854775807 := Kd.C_max hrd.2.2
  have HO := Aside0.mk ho
  clear ho hrd
  go_enter Try.func22, Try.ntmps22
  go_wp2
  go_ret
  exact ⟨⟨_, rfl, A, c, rfl, HO.out⟩, rfl⟩

end Go.Proofs.Ytgkdigaieelopaa.Hand
