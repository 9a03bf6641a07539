/- The contract, proved by hand, of crc.Seal: the bytes that came in and behind them the four bytes of their sum, in a row of the call's own. -/
import Derived.Test.YtgkdigaieelopaaPCrcx3
import Derived.Test.YtgkdigaieelopaaPCrcx4
import Derived.Laws.MakeOwn
namespace Go.Proofs.Ytgkdigaieelopaa.Hand
open Go.RowKit Go.Proofs.YtgkdigaieelopaaW.PrintWords Go.Proofs.YtgkdigaieelopaaW.PrintLast Go.Proofs.YtgkdigaieelopaaW.PrintMore
open Go.Proofs.Ytgkdigaieelopaa.Plain Go.Proofs.Ytgkdigaieelopaa.PCrc
set_option linter.unusedVariables false
set_option linter.unusedSimpArgs false

/-- The four bytes of a sum, the least first. -/
def tailL (n : Nat) : List Int := [((n % 256 : Nat) : Int), ((n / 256 % 256 : Nat) : Int), ((n / 65536 % 256 : Nat) : Int), ((n / 16777216 % 256 : Nat) : Int)]
def sealF (l : List Int) : Option (List Int) := if (∀ x ∈ l, 0 ≤ x ∧ x < 256) ∧ l.length ≤ 140737488355000 then some (l ++ tailL (moreN 0 l)) else none
theorem sum_f {l : List Int} (hb : ∀ x ∈ l, 0 ≤ x ∧ x < 256) (hl : l.length ≤ 140737488355328) : crc_Sum.f l = some ((moreN 0 l : Nat) : Int) := by
  unfold crc_Sum.f crc_More.f moreF
  rw [if_pos ⟨⟨by omega, by omega⟩, hb, hl⟩]
  rfl
theorem tail_f (n : Nat) : crc_Tail.f (n : Int) = some (tailL n) := by
  unfold crc_Tail.f tailL
  congr 1

set_option maxHeartbeats 800000 in
set_option maxRecDepth 100000 in
theorem seal_calls (A0 : Option Addr) (c0 : Nat) (l0 : List Int) (r : List Int) (w : World) (hr0 : Kd.C (Kd.int .u8) w A0 l0.length l0) (hc0 : l0.length ≤ c0) (h : sealF l0 = some r) :
    Calls Try.prog 11 #[.slice A0 l0.length c0] w fun e w' => ∃ v0_ : Value, e = .returned (v0_) ∧ Kd.R (Kd.int .u8) 5 w' w.heap.size (fun _ => True) v0_ r ∧ Below w.heap.size w w' := by
  unfold sealF at h
  by_cases hc : (∀ x ∈ l0, 0 ≤ x ∧ x < 256) ∧ l0.length ≤ 140737488355000
  · rw [if_pos hc] at h
    obtain ⟨hl, hm⟩ := hc
    obtain rfl := Option.some.inj h
    clear h
    have hsum := sum_f hl (by omega)
    have htail := tail_f (moreN 0 l0)
    have hw4 : wrap64 ((l0.length : Int) + 4) = ((l0.length + 4 : Nat) : Int) := by unfold wrap64; omega
    obtain ⟨i, hi, hz, h1, h2⟩ : ∃ i, Try.prog.info? 5 = some i ∧ i.zero = some (.int .u8 0) ∧ i.size = 1 ∧ i.bytes = 1 := ⟨_, rfl, rfl, rfl, rfl⟩
    obtain ⟨w1, hmk, hown, hgr⟩ := run_make_own (P := Try.prog) w w.heap.size 22 5 i (.int .u8 0) 1 Try.underlying22 hi hz h1 .i64 .i64 (l0.length + 4) (by rw [h2]; omega) (by simp only [maxLen]; omega) (Nat.le_refl _)
    have HO := Aside0.mk (Kd.R_of_own (enc := fun x => Value.int .u8 x) (h1 := fun _ => rfl) (xs := ([] : List Int)) (ok := fun _ => True) hown (fun _ _ => trivial))
    have hb1 : Below w.heap.size w w1 := pw_below_grown (Below.refl _ _) none (Nat.le_refl _) hgr (fun k hk => by cases hk)
    have HB := Aside0.mk hb1
    have HR := Aside0.mk hr0
    have HM := Aside0.mk hm
    rw [← hw4] at hmk
    clear hown hgr hi hz h1 h2 hm hw4 hb1 hr0 hl
    go_enter Try.func11, Try.ntmps11
    go_wp2_with (first | ((with_reducible refine gate_builtin (b := .append) (xs := #[.tmp 8, .tmp 9]) rfl ?_); at_builtin; refine Kd.R_append_rows (Kd.int .u8) (w0 := w) w.heap.size rfl (.tmp 8) (.tmp 9) 22 5 (.int .u8 0) 1 rfl Try.underlying22 hinfo_u8 rfl (by decide) (by omega) (.slice (some ⟨w.heap.size, 0, none⟩) 0 (l0.length + 4)) ([] : List Int) l0 _ _ _ (fun _ => True) (fun _ => False) rfl rfl ?aO ?aR (fun _ _ h => h) (fun _ h => h.elim) ?aF ?aB ?aS ?aL ?_; (case aR => exact (Kd.C_below HR.out HB.out)); (case aO => exact HO.out); (case aB => exact HB.out); (case aF => exact (fun _ _ => trivial)); (case aS => exact HB.out.size); (case aL => have := HM.out; first | (simp only [List.length_nil]; omega) | (simp only [List.nil_append, tailL, List.length_cons, List.length_nil]; omega)); intro v1 w2 ho hb hg hat; have n0_ := Aside0.mk ho; have n1_ := Aside0.mk hb; clear HO HB; have HO := n0_; have HB := n1_; clear n0_ n1_ ho hb hg hat) | (go_at_call 10; refine (crc_Sum.calls _ _ l0 _ _ (Kd.C_below HR.out HB.out) hc0 hsum).mono ?_; rintro e w3 ⟨rfl, hb⟩; have n0_ := Aside0.mk (Kd.R_below HO.out hb); have n1_ := Aside0.mk (below_step HB.out hb); clear HO HB; have HO := n0_; have HB := n1_; clear n0_ n1_ hb) | (go_at_call 18; refine (crc_Tail.calls _ _ _ htail).mono ?_; rintro e w4 ⟨v2, rfl, ho2, hb⟩; obtain ⟨A2, c2, eo2⟩ := Kd.R_slice ho2; subst eo2; have n0_ := Aside0.mk (Kd.R_below HO.out hb); have n1_ := Aside0.mk (below_step HB.out hb); clear HO HB; have HO := n0_; have HB := n1_; have HT := Aside0.mk (Kd.R_reads' ho2).2.2; clear n0_ n1_ hb ho2) | ((with_reducible refine gate_builtin (b := .append) (xs := #[.tmp 10, .tmp 13]) rfl ?_); at_builtin; refine Kd.R_append_rows (Kd.int .u8) (w0 := w) w.heap.size rfl (.tmp 10) (.tmp 13) 22 5 (.int .u8 0) 1 rfl Try.underlying22 hinfo_u8 rfl (by decide) (by omega) v1 ([] ++ l0) (tailL (moreN 0 l0)) _ _ _ (fun _ => True) (fun _ => False) rfl rfl ?aO ?aR (fun _ _ h => h) (fun _ h => h.elim) ?aF ?aB ?aS ?aL ?_; (case aR => exact HT.out); (case aO => exact HO.out); (case aB => exact HB.out); (case aF => exact (fun _ _ => trivial)); (case aS => exact HB.out.size); (case aL => have := HM.out; first | (simp only [List.length_nil]; omega) | (simp only [List.nil_append, tailL, List.length_cons, List.length_nil]; omega)); intro v3 w5 ho hb hg hat; have n0_ := Aside0.mk ho; have n1_ := Aside0.mk hb; clear HO HB; have HO := n0_; have HB := n1_; clear n0_ n1_ ho hb hg hat))
    go_ret
    rw [List.nil_append] at HO
    exact ⟨_, rfl, HO.out, HB.out⟩
  · rw [if_neg hc] at h
    cases h
end Go.Proofs.Ytgkdigaieelopaa.Hand
