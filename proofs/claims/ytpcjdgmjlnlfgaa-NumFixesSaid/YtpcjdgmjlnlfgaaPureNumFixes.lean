/- concordancelaw1.NumFixes: what it computes is true, in plain words. -/
import Derived.Test.YtpcjdgmjlnlfgaaFixes
import Derived.Test.YtpcjdgmjlnlfgaaPb
namespace Go.Proofs.Ytpcjdgmjlnlfgaa.Pure
open Go.RowKit Go.Proofs.Ytpcjdgmjlnlfgaa.PNum Go.Proofs.YtpcjdgmjlnlfgaaW.PrintWords Go.Proofs.YtpcjdgmjlnlfgaaW.PrintMore Go.Proofs.Ytpcjdgmjlnlfgaa.Plain
open Go.Proofs.Ytpcjdgmjlnlfgaa.Hand (fixF fixedF fixedV clamp)

theorem fold_fixL (n s : Nat) : ∀ acc : Nat, acc < 256 ^ (8 - s) → s ≤ 8 →
    (fixL n s).foldl (fun n c => Go.bits .or .u64 (IntKind.u64.wrap (n * 256)) (IntKind.u64.wrap c)) (acc : Int) = ((acc * 256 ^ s + n % 256 ^ s : Nat) : Int) := by
  induction s with
  | zero =>
    intro acc _ _
    simp [fixL, Nat.mod_one]
  | succ s ih =>
    intro acc ha hs
    have hp : 256 ^ (8 - (s + 1)) ≤ 256 ^ 7 := Nat.pow_le_pow_right (by omega) (by omega)
    have e8 : (256 : Nat) ^ 7 = 72057594037927936 := by decide
    rw [e8] at hp
    clear e8
    have es : 256 ^ (8 - s) = 256 ^ (8 - (s + 1)) * 256 := by rw [← Nat.pow_succ]; congr 1; omega
    generalize 256 ^ (8 - (s + 1)) = P at ha hp es
    have hstep : Go.bits .or .u64 (IntKind.u64.wrap ((acc : Int) * 256)) (IntKind.u64.wrap ((n / 256 ^ s % 256 : Nat) : Int)) = ((acc * 256 + n / 256 ^ s % 256 : Nat) : Int) := by
      have hc : n / 256 ^ s % 256 < 256 := Nat.mod_lt _ (by omega)
      generalize n / 256 ^ s % 256 = c at hc ⊢
      have hb : acc * 256 < 18446744073709551616 := by
        clear ih es
        omega
      have hb2 : acc * 256 + c < 18446744073709551616 := by
        have h1 : acc < 72057594037927936 := Nat.lt_of_lt_of_le ha hp
        clear ih es ha hp hs hb
        omega
      rw [wrap_u64, wrap_u64, show ((acc : Int) * 256) % 18446744073709551616 = ((acc * 256 : Nat) : Int) from by clear ih es ha hp; omega, show (c : Int) % 18446744073709551616 = ((c : Nat) : Int) from by clear ih es ha hp; omega, Go.u64_or_nat _ _ hb (by clear ih es ha hp; omega), Go.nat_join 8 _ _ (Nat.mul_mod_left _ _) hc]
    have hlt : acc * 256 + n / 256 ^ s % 256 < 256 ^ (8 - s) := by
      have hc : n / 256 ^ s % 256 < 256 := Nat.mod_lt _ (by omega)
      rw [es]
      clear ih hstep es
      omega
    rw [fixL, List.foldl_cons, hstep, ih _ hlt (by omega)]
    congr 1
    have e1 : 256 ^ (s + 1) = 256 * 256 ^ s := by rw [Nat.pow_succ, Nat.mul_comm]
    have e2 : n % 256 ^ (s + 1) = n / 256 ^ s % 256 * 256 ^ s + n % 256 ^ s := by
      rw [e1, Nat.mul_comm 256, Nat.mod_mul, Nat.add_comm, Nat.mul_comm]
    rw [e2, e1, ← Nat.add_assoc, Nat.add_mul, Nat.mul_assoc]
theorem and255' (a : Int) : Go.bits .and .i64 a 255 = a % 256 := by
  show IntKind.i64.wrap ((BitVec.ofInt 64 a &&& BitVec.ofInt 64 255).toNat : Int) = _
  have e : (BitVec.ofInt 64 a &&& BitVec.ofInt 64 255).toNat = (a % 18446744073709551616).toNat % 256 := by
    rw [BitVec.toNat_and, BitVec.toNat_ofInt]
    exact Nat.and_two_pow_sub_one_eq_mod _ 8
  rw [e, Go.IntKind.wrap_i64]
  omega
theorem NumFixes : concordancelaw1_NumFixes.Pure := by
  intro a0 a1 l2 h0 _ _ _ _
  have h0 := wf_u64 h0
  refine ⟨30, ?_⟩
  have haw : concordancelaw1_awake.f 30 = some true := awake_tells (by omega)
  unfold concordancelaw1_NumFixes.f
  rw [and255', Int.tmod_eq_emod_of_nonneg (by omega)]
  obtain ⟨s, hs, hs8⟩ : ∃ s : Nat, a1 % 256 % 9 = (s : Int) ∧ s ≤ 8 := ⟨(a1 % 256 % 9).toNat, by omega, by omega⟩
  rw [hs]
  obtain ⟨n, rfl⟩ := Int.eq_ofNat_of_zero_le h0.1
  by_cases hl : (l2.length : Int) > 100
  · rw [if_pos hl, haw]
    rfl
  · have hcl : clamp (s : Int) = s := by
      unfold clamp
      split
      · omega
      · split <;> omega
    have hfix : num_Fix.f [] (n : Int) (s : Int) = some (fixL n s) := by
      unfold num_Fix.f fixF
      rw [if_pos ⟨by simp, h0.1, h0.2⟩, hcl, Int.toNat_natCast, List.nil_append]
    have hlen : (fixL n s ++ l2).length = s + l2.length := by rw [List.length_append, fixL_length]
    have hval : num_Fixed.f (fixL n s ++ l2) (s : Int) = some (((n % 256 ^ s : Nat) : Int), 0) := by
      unfold num_Fixed.f fixedF
      rw [if_neg (by omega), if_neg (by omega), Int.toNat_natCast, List.take_left' (fixL_length n s)]
      have := fold_fixL n s 0 (Nat.pow_pos (by omega)) hs8
      rw [Nat.zero_mul, Nat.zero_add] at this
      unfold fixedV
      rw [show (0 : Int) = ((0 : Nat) : Int) from rfl, this]
    have hnine : num_Fixed.f (fixL n s ++ l2) 9 = some (0, 1) := by
      unfold num_Fixed.f fixedF
      rw [if_pos (by omega)]
    have hm : mx (wrap64 ((s : Int) - 1)) 0 = ((s - 1 : Nat) : Int) := by
      rw [w64 (by omega) (by omega)]
      unfold mx
      split <;> omega
    have hshort : s ≠ 0 → num_Fixed.f ((fixL n s ++ l2).take (s - 1)) (s : Int) = some (0, 4) := by
      intro h
      unfold num_Fixed.f fixedF
      rw [if_neg (by omega), if_pos (by rw [List.length_take, hlen]; omega)]
    have hsome : ∃ p : Int × Int, num_Fixed.f ((fixL n s ++ l2).take (s - 1)) (s : Int) = some p := by
      unfold num_Fixed.f fixedF
      rw [if_neg (by omega)]
      split <;> exact ⟨_, rfl⟩
    obtain ⟨p, hp⟩ := hsome
    have hp4 : s ≠ 0 → p.2 = 4 := fun h => by
      rw [hshort h] at hp
      rw [← Option.some.inj hp]
    rw [if_neg hl, hfix, Option.bind_some, fixL_length, if_pos (by omega), Option.bind_some, hval, Option.bind_some, hnine, hm, hlen, Int.toNat_natCast, hp]
    simp only [Option.bind_some]
    have hq1 : (0 : Int) ≤ ((s - 1 : Nat) : Int) := by omega
    have hq2 : ((s - 1 : Nat) : Int) ≤ ((s + l2.length : Nat) : Int) := by omega
    by_cases h8 : (s : Int) < 8
    · have hp8 : 2 ^ (8 * s) ≤ 2 ^ 56 := Nat.pow_le_pow_right (by omega) (by omega)
      have hp0 : 0 < 2 ^ (8 * s) := Nat.pow_pos (by omega)
      have hsh : shl .u64 1 (8 * (s : Int)) = ((2 ^ (8 * s) : Nat) : Int) := by
        unfold shl
        rw [show IntKind.u64.bits = 64 from rfl, show min (8 * (s : Int)).toNat 64 = 8 * s from by omega, wrap_u64, Int.one_mul, show (2 : Int) ^ (8 * s) = ((2 ^ (8 * s) : Nat) : Int) from by rw [Int.natCast_pow]; rfl]
        omega
      have hand : Go.bits .and .u64 (n : Int) (IntKind.u64.wrap (((2 ^ (8 * s) : Nat) : Int) - 1)) = ((n % 256 ^ s : Nat) : Int) := by
        rw [wrap_u64, show (((2 ^ (8 * s) : Nat) : Int) - 1) % 18446744073709551616 = ((2 ^ (8 * s) - 1 : Nat) : Int) from by omega, Go.u64_and_nat n _ (by omega) (by omega), Nat.and_two_pow_sub_one_eq_mod, Nat.pow_mul]
      rw [if_pos h8, w64 (by omega) (by omega), if_pos (by omega), if_pos hq1, if_pos hq2, hsh, hand]
      simp only [if_true]
      by_cases hz : (s : Int) = 0
      · rw [if_pos hz, haw]
        rfl
      · rw [if_neg hz, if_pos (hp4 (by omega)), haw]
        rfl
    · have hs88 : s = 8 := by omega
      have e8 : (256 : Nat) ^ 8 = 18446744073709551616 := by decide
      rw [if_neg h8, if_pos hq1, if_pos hq2]
      simp only [if_true]
      rw [hs88, e8, if_pos (by omega), if_neg (by omega), if_pos (hp4 (by omega)), haw]
      rfl

end Go.Proofs.Ytpcjdgmjlnlfgaa.Pure
