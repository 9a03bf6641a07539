/- The contract, proved by hand, of num.Own: the bytes that came in, in memory of its own, cut to their length. -/
import Derived.Test.YtgkdigaieelopaaHa
namespace Go.Proofs.Ytgkdigaieelopaa.Hand
open Go.RowKit Go.Proofs.YtgkdigaieelopaaW.PrintWords Go.Proofs.YtgkdigaieelopaaW.PrintLast Go.Proofs.YtgkdigaieelopaaW.PrintMore
set_option linter.unusedVariables false
set_option linter.unusedSimpArgs false

def ownF (l : List Int) : Option (List Int) := if l.length ≤ 140737488355328 then some l else none
set_option maxHeartbeats 800000 in
set_option maxRecDepth 100000 in
theorem own_calls (A0 : Option Addr) (c0 : Nat) (l0 : List Int) (r : List Int) (w : World) (hr0 : Kd.C (Kd.int .u8) w A0 l0.length l0) (hc0 : l0.length ≤ c0) (h : ownF l0 = some r) :
    Calls Try.prog 19 #[.slice A0 l0.length c0] w fun e w' => ∃ v0_ : Value, e = .returned (v0_) ∧ Kd.V (Kd.int .u8) 5 w' w.heap.size (fun k_ => (w.heap.size ≤ k_)) v0_ r ∧ Below w.heap.size w w' := by
  unfold ownF at h
  by_cases hl : l0.length ≤ 140737488355328
  · rw [if_pos hl] at h
    obtain rfl := Option.some.inj h
    clear h
    go_enter Try.func19, Try.ntmps19
    go_wp2_with (first | (go_at_call 23; refine (clone_calls _ _ l0 _ hr0 hl).mono ?_; rintro e w1 ⟨v, rfl, ho, hb⟩; have HO := Aside0.mk ho; have HB := Aside0.mk hb; clear ho hb) | (go_at_call 22; refine (clip_calls _ _ _ _ HO.out).mono ?_; rintro e w3 ⟨⟨v3, rfl, hcl⟩, rfl⟩; have HCL := Aside0.mk hcl; clear hcl))
    go_ret
    exact ⟨_, rfl, HCL.out.V, HB.out⟩
  · rw [if_neg hl] at h
    cases h
end Go.Proofs.Ytgkdigaieelopaa.Hand
