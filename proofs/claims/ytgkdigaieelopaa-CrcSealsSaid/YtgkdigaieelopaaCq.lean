/- concordancelaw2.CrcSeals, walked by hand: what is sealed so many times is opened as many times. -/
import Derived.Test.YtgkdigaieelopaaPCrcx5
import Derived.Test.YtgkdigaieelopaaPCrcx9
import Derived.Test.YtgkdigaieelopaaPCrcx10
import Derived.Test.YtgkdigaieelopaaCd
namespace Go.Proofs.Ytgkdigaieelopaa.Hand
open Go.RowKit Go.Proofs.YtgkdigaieelopaaW.PrintWords Go.Proofs.YtgkdigaieelopaaW.PrintLast Go.Proofs.YtgkdigaieelopaaW.PrintMore
open Go.Proofs.Ytgkdigaieelopaa.Plain Go.Proofs.Ytgkdigaieelopaa.PCrc
attribute [local go_sem] max2_int min2_int max_two min_two
set_option linter.unusedVariables false
set_option linter.unusedSimpArgs false

/-- Sealed so many times. -/
def sealK : Nat → List Int → List Int
  | 0, l => l
  | i + 1, l => sealK i l ++ tailL (moreN 0 (sealK i l))
theorem sealK_length (i : Nat) (l : List Int) : (sealK i l).length = l.length + 4 * i := by
  induction i with
  | zero => rfl
  | succ i ih =>
    rw [sealK, List.length_append, ih]
    show l.length + 4 * i + 4 = _
    omega
theorem sealK_isB {l : List Int} (h : isB l) (i : Nat) : isB (sealK i l) := by
  induction i with
  | zero => exact h
  | succ i ih => exact sealed_isB ih
def sealsF (l : List Int) (n : Int) : Option Bool := if ∀ x ∈ l, 0 ≤ x ∧ x < 256 then some true else none

set_option maxHeartbeats 1600000 in
set_option maxRecDepth 100000 in
theorem seals_calls (A0 : Option Addr) (c0 : Nat) (l0 : List Int) (a1 : Int) (r : Bool) (w : World) (hr0 : Kd.C (Kd.int .u8) w A0 l0.length l0) (hc0 : l0.length ≤ c0) (h : sealsF l0 a1 = some r) :
    Calls Try.prog 4 #[.slice A0 l0.length c0, .int .i64 a1] w fun e w' => e = .returned (.bool r) ∧ Below w.heap.size w w' := by
  unfold sealsF at h
  by_cases hb : ∀ x ∈ l0, 0 ≤ x ∧ x < 256
  · rw [if_pos hb] at h
    obtain rfl := Option.some.inj h
    clear h
    have hb : isB l0 := hb
    have HBY := Aside0.mk hb
    have HR := Aside0.mk hr0
    clear hb hr0
    by_cases hl : (l0.length : Int) > 2000
    · have d1 : decide (2000 < (l0.length : Int)) = true := decide_eq_true hl
      go_enter Try.func4, Try.ntmps4
      go_wp2_with (go_at_call 9; refine (concordancelaw2_awake.calls _ _ awake_f).mono ?_; rintro e w1 ⟨rfl, hb⟩; have HB := Aside0.mk hb; clear hb)
      go_ret
      exact ⟨rfl, HB.out⟩
    · have d1 : decide (2000 < (l0.length : Int)) = false := decide_eq_false hl
      obtain ⟨N, hN, hN5⟩ : ∃ N : Nat, Int.tmod (Go.bits .and .i64 a1 255) 6 = (N : Int) ∧ N ≤ 5 := by
        have e := and_low a1 8 (by omega)
        rw [show ((2 ^ 8 - 1 : Nat) : Int) = 255 from rfl, show ((2 ^ 8 : Nat) : Int) = 256 from rfl] at e
        rw [e, Int.tmod_eq_emod_of_nonneg (by omega)]
        exact ⟨(a1 % 256 % 6).toNat, by omega, by omega⟩
      have HL := Aside0.mk (show l0.length ≤ 2000 by omega)
      have HN5 := Aside0.mk hN5
      clear hl hN5
      go_enter Try.func4, Try.ntmps4
      go_wp2
      go_loopg [5, 6] N (fun kq v5 v6 w' => ∃ (i : Nat) (A : Option Addr) (c : Nat), v6 = .int .i64 (i : Int) ∧ v5 = .slice A (sealK i l0).length c ∧ Aside0 (i ≤ N ∧ N - i ≤ kq ∧ (sealK i l0).length ≤ c) ∧ Aside0 (Kd.C (Kd.int .u8) w' A (sealK i l0).length (sealK i l0)) ∧ Aside0 (Below w.heap.size w w'))
      case atStart => exact ⟨0, A0, c0, rfl, rfl, ⟨by omega, by omega, hc0⟩, ⟨HR.out⟩, ⟨Below.refl _ _⟩⟩
      case round =>
        obtain ⟨i, A, c, rfl, rfl, HI, HC, HB⟩ := hrel
        by_cases c1 : (i : Int) < (N : Int)
        · have d2 : decide ((i : Int) < (N : Int)) = true := decide_eq_true c1
          have hsl := sealK_length i l0
          have hse : crc_Seal.f (sealK i l0) = some (sealK (i + 1) l0) := seal_f (sealK_isB HBY.out i) (by have := HL.out; have := HN5.out; omega)
          clear hsl
          have HLT := Aside0.mk (show i < N by omega)
          go_wp2_with (go_at_call 11; refine (crc_Seal.calls _ _ (sealK i l0) _ _ HC.out HI.out.2.2 hse).mono ?_; rintro e w1 ⟨v1, rfl, ho, hb⟩; obtain ⟨A2, c2, rfl⟩ := Kd.R_slice ho; have HO := Aside0.mk (Kd.R_reads' ho).2; have n1_ := Aside0.mk (below_step HB.out hb); clear HB; have HB := n1_; clear n1_ hb ho)
          rw [show wrap64 ((i : Int) + 1) = ((i + 1 : Nat) : Int) from by have := HN5.out; clear HO; rw [w64 (by omega) (by omega)]; omega]
          go_roundg (N - 1 - i)
          case measure => have := HI.out; have := HLT.out; omega
          case rel => exact ⟨i + 1, A2, c2, rfl, rfl, ⟨HLT.out, by omega, HO.out.1⟩, ⟨HO.out.2⟩, ⟨HB.out⟩⟩
        · have d2 : decide ((i : Int) < (N : Int)) = false := decide_eq_false c1
          obtain rfl : i = N := by have := HI.out.1; omega
          have hsl := sealK_length i l0
          have hm : wrap64 ((l0.length : Int) + wrap64 (4 * (i : Int))) = (((sealK i l0).length : Nat) : Int) := by
            have := HL.out
            have := HN5.out
            rw [w64 (x := 4 * (i : Int)) (by omega) (by omega), w64 (by omega) (by omega), hsl]
            omega
          clear hsl
          go_wp2
          have HI2 := HI.out.2.2
          clear HI
          go_loopg [5, 7] i (fun kq v5 v7 w' => ∃ (j : Nat) (A : Option Addr) (c : Nat), v7 = .int .i64 (j : Int) ∧ v5 = .slice A (sealK (i - j) l0).length c ∧ Aside0 (j ≤ i ∧ i - j ≤ kq ∧ (sealK (i - j) l0).length ≤ c) ∧ Aside0 (Kd.C (Kd.int .u8) w' A (sealK (i - j) l0).length (sealK (i - j) l0)) ∧ Aside0 (Below w.heap.size w w'))
          case atStart => exact ⟨0, A, c, rfl, rfl, ⟨by omega, by omega, HI2⟩, ⟨HC.out⟩, ⟨HB.out⟩⟩
          case round =>
            clear HC HB
            obtain ⟨j, A, c, rfl, rfl, HJ, HC, HB⟩ := hrel
            by_cases c2 : (j : Int) < (i : Int)
            · have d3 : decide ((j : Int) < (i : Int)) = true := decide_eq_true c2
              have HLT := Aside0.mk (show j < i by omega)
              have hsl := sealK_length (i - j) l0
              have hop : crc_Open.f (sealK (i - j) l0) = some (sealK (i - (j + 1)) l0, 0) := by
                rw [open_f (sealK_isB HBY.out _) (by have := HL.out; have := HN5.out; omega)]
                obtain ⟨q, hq⟩ : ∃ q, i - j = q + 1 := ⟨i - j - 1, by omega⟩
                rw [hq, show i - (j + 1) = q from by omega, sealK, openL_seal]
              clear hsl
              go_wp2_with (go_at_call 12; refine (crc_Open.calls _ _ (sealK (i - j) l0) _ _ _ HC.out HJ.out.2.2 hop).mono ?_; rintro e w1 ⟨v1, rfl, ho, hb⟩; obtain ⟨A2, c2', rfl, hle, hF⟩ := ho; have HO := Aside0.mk (And.intro hle (Kd.F_now hF)); have n1_ := Aside0.mk (below_step HB.out hb); clear HB; have HB := n1_; clear n1_ hb hle hF)
              rw [show wrap64 ((j : Int) + 1) = ((j + 1 : Nat) : Int) from by have := HN5.out; have := HLT.out; clear HO; rw [w64 (by omega) (by omega)]; omega]
              go_roundg (i - 1 - j)
              case measure => have := HJ.out; have := HLT.out; omega
              case rel => exact ⟨j + 1, A2, c2', rfl, rfl, ⟨HLT.out, by omega, HO.out.1⟩, ⟨HO.out.2⟩, ⟨HB.out⟩⟩
            · have d3 : decide ((j : Int) < (i : Int)) = false := decide_eq_false c2
              obtain rfl : j = i := by have := HJ.out.1; omega
              rw [Nat.sub_self] at HC HJ
              have hop : ∀ m : Nat, m ≤ 3 → m ≤ l0.length → Calls Try.prog 12 #[.slice A0 m c0] wr fun e w' => ∃ v : Value, e = .returned (.tuple #[v, .int .i64 4]) ∧ Below wr.heap.size wr w' := by
                intro m hm3 hml
                have hlen : (l0.take m).length = m := by rw [List.length_take]; omega
                have hC := Kd.C_take (m := m) (Kd.C_below HR.out HB.out) hml
                have ho : crc_Open.f (l0.take m) = some ([], 4) := by
                  rw [open_f (isB_take HBY.out m) (by rw [hlen]; omega)]
                  unfold openL
                  rw [if_pos (by rw [hlen]; omega)]
                have hcall := crc_Open.calls A0 c0 (l0.take m) [] 4 wr hC (by rw [hlen]; omega) ho
                rw [hlen] at hcall
                exact hcall.mono fun e w' ⟨v, he, _, hb⟩ => ⟨v, he, hb⟩
              have HL2 := HL.out
              go_wp2_with (first | (go_at_call 9; refine (concordancelaw2_awake.calls _ _ awake_f).mono ?_; rintro e w9 ⟨rfl, hb⟩; have n1_ := Aside0.mk (below_step HB.out hb); clear HB; have HB := n1_; clear n1_ hb) | (go_at_call 12; refine (hop _ (by omega) (by omega)).mono ?_; rintro e w8 ⟨v8, rfl, hb⟩; have hcv1 : (convert 22 9 (.slice A (sealK 0 l0).length c)).run Try.prog w8 = .ok (.string (strOfNums l0)) w8 := Kd.C_string (P := Try.prog) (c := c) Try.underlying22 Try.underlying5 Try.underlying9 (Kd.C_below HC.out hb); have hcv2 := Kd.C_string (P := Try.prog) (c := c0) Try.underlying22 Try.underlying5 Try.underlying9 (Kd.C_below HR.out (below_step HB.out hb)); have n1_ := Aside0.mk (below_step HB.out hb); clear HB; have HB := n1_; clear n1_ hb))
              all_goals (go_ret; exact ⟨rfl, HB.out⟩)
  · rw [if_neg hb] at h
    cases h
end Go.Proofs.Ytgkdigaieelopaa.Hand
