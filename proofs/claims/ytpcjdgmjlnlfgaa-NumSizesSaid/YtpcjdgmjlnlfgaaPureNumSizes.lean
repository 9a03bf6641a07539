/- concordancelaw1.NumSizes: what it computes is true, in plain words. -/
import Derived.Test.YtpcjdgmjlnlfgaaPNumx11
import Derived.Test.YtpcjdgmjlnlfgaaPb
namespace Go.Proofs.Ytpcjdgmjlnlfgaa.Pure
open Go.RowKit Go.Proofs.Ytpcjdgmjlnlfgaa.PNum Go.Proofs.YtpcjdgmjlnlfgaaW.PrintWords Go.Proofs.YtpcjdgmjlnlfgaaW.PrintLast Go.Proofs.YtpcjdgmjlnlfgaaW.PrintMore Go.Proofs.Ytpcjdgmjlnlfgaa.Plain

theorem encN_len_eq (k : Nat) : ∀ n : Nat, n < 2 ^ (7 * k + 7) → (k = 0 ∨ 2 ^ (7 * k) ≤ n) → (encN n).length = k + 1 := by
  induction k with
  | zero =>
    intro n h _
    rw [encN_lt (by omega)]
    rfl
  | succ k ih =>
    intro n h h0
    have h0 : 2 ^ (7 * (k + 1)) ≤ n := h0.resolve_left (by omega)
    have e : 2 ^ (7 * (k + 1) + 7) = 2 ^ (7 * k + 7) * 128 := by rw [show 7 * (k + 1) + 7 = (7 * k + 7) + 7 from by omega, Nat.pow_add]
    have e2 : 2 ^ (7 * (k + 1)) = 2 ^ (7 * k) * 128 := by rw [show 7 * (k + 1) = 7 * k + 7 from by omega, Nat.pow_add]
    have hp : 0 < 2 ^ (7 * k) := Nat.pow_pos (by omega)
    rw [encN_ge (by omega), List.length_cons, ih (n / 128) (by rw [Nat.div_lt_iff_lt_mul (by omega)]; omega) (.inr (by rw [Nat.le_div_iff_mul_le (by omega)]; omega))]
theorem encN_len_mono (m : Nat) : ∀ n : Nat, n ≤ m → (encN n).length ≤ (encN m).length := by
  induction m using Nat.strongRecOn with
  | _ m ih =>
    intro n hn
    by_cases h : n < 128
    · rw [encN_lt h]
      exact encN_pos m
    · rw [encN_ge (by omega), encN_ge (n := m) (by omega)]
      have := ih (m / 128) (by omega) (n / 128) (by omega)
      simpa using this
theorem encN_inj {n m : Nat} (hn : n < 18446744073709551616) (hm : m < 18446744073709551616) (h : encN n = encN m) : n = m := by
  have h1 := encN_take hn []
  have h2 := encN_take hm []
  rw [h, h2] at h1
  have := (Prod.mk.inj h1).1
  omega
theorem and63 (a : Int) : Go.bits .and .i64 a 63 = a % 64 := by
  show IntKind.i64.wrap ((BitVec.ofInt 64 a &&& BitVec.ofInt 64 63).toNat : Int) = _
  have e : (BitVec.ofInt 64 a &&& BitVec.ofInt 64 63).toNat = (a % 18446744073709551616).toNat % 64 := by
    rw [BitVec.toNat_and, BitVec.toNat_ofInt]
    exact Nat.and_two_pow_sub_one_eq_mod _ 6
  rw [e, Go.IntKind.wrap_i64]
  omega

theorem sizes_one (b : Nat) : (encN (2 ^ b)).length = b / 7 + 1 :=
  encN_len_eq (b / 7) _ (Nat.pow_lt_pow_right (by omega) (by omega)) (.inr (Nat.pow_le_pow_right (by omega) (by omega)))
theorem sizes_ones (b : Nat) (hb : 1 ≤ b) : (encN (2 ^ b - 1)).length = (b + 6) / 7 := by
  have hp : 0 < 2 ^ b := Nat.pow_pos (by omega)
  have h1 : 2 ^ b ≤ 2 ^ (7 * ((b - 1) / 7) + 7) := Nat.pow_le_pow_right (by omega) (by omega)
  have h2 : 2 ^ (7 * ((b - 1) / 7)) ≤ 2 ^ (b - 1) := Nat.pow_le_pow_right (by omega) (by omega)
  have h3 : 2 ^ b = 2 ^ (b - 1) * 2 := by rw [← Nat.pow_succ]; congr 1; omega
  have hp' : 0 < 2 ^ (b - 1) := Nat.pow_pos (by omega)
  rw [encN_len_eq ((b - 1) / 7) _ (by omega) (.inr (by omega))]
  omega

theorem sizes_j1 {x y : Int} (hx0 : 0 ≤ x) (hxy : x ≤ y) (hy1 : y < 18446744073709551616) {k : Nat} (hk : 21 ≤ k) :
    concordancelaw1_NumSizes.j1 (k + 1) x y = some true := by
  simp only [concordancelaw1_NumSizes.j1]
  have hm := encN_len_mono y.toNat x.toNat (by omega)
  rw [size_tells hx0 (by omega) (by omega), Option.bind_some, size_tells (by omega) hy1 (by omega), Option.bind_some, if_pos (by omega), put_nil hx0 (by omega), Option.bind_some, put_nil (by omega) hy1, Option.bind_some, if_pos, awake_tells hk]
  · rfl
  · by_cases h : x = y
    · subst h
      simp
    · have e : ((strOfNums (encN x.toNat)).toList == (strOfNums (encN y.toNat)).toList) = false := by
        rw [beq_eq_false_iff_ne]
        intro he
        have := encN_inj (by omega) (by omega) (strOfNums_inj (encN_bytes _) (encN_bytes _) he)
        omega
      rw [e, show (x == y) = false from by simpa using h]
      rfl
theorem sizes_j0 {x y : Int} (hx0 : 0 ≤ x) (hx1 : x < 18446744073709551616) (hy0 : 0 ≤ y) (hy1 : y < 18446744073709551616) {k : Nat} (hk : 22 ≤ k) :
    concordancelaw1_NumSizes.j0 (k + 1) x y false = some true := by
  obtain ⟨k, rfl⟩ : ∃ m, k = m + 1 := ⟨k - 1, by omega⟩
  simp only [concordancelaw1_NumSizes.j0]
  rw [if_neg (by decide)]
  by_cases h : x > y
  · rw [if_pos h]
    exact sizes_j1 hy0 (by omega) hx1 (by omega)
  · rw [if_neg h]
    exact sizes_j1 hx0 (by omega) hy1 (by omega)
theorem NumSizes : concordancelaw1_NumSizes.Pure := by
  intro a0 a1 a2 _ h1 h2
  have h1 := wf_u64 h1
  have h2 := wf_u64 h2
  refine ⟨30, ?_⟩
  unfold concordancelaw1_NumSizes.f
  rw [and63]
  obtain ⟨b, hb, hb1⟩ : ∃ b : Nat, a0 % 64 = (b : Int) ∧ b < 64 := ⟨(a0 % 64).toNat, by omega, by omega⟩
  rw [hb]
  have hp : 2 ^ b ≤ 2 ^ 63 := Nat.pow_le_pow_right (by omega) (by omega)
  have hp0 : 0 < 2 ^ b := Nat.pow_pos (by omega)
  have hs : shl .u64 1 (b : Int) = ((2 ^ b : Nat) : Int) := by
    unfold shl
    rw [show IntKind.u64.bits = 64 from rfl, Int.toNat_natCast, Nat.min_eq_left (by omega), wrap_u64, Int.one_mul, show (2 : Int) ^ b = ((2 ^ b : Nat) : Int) from by rw [Int.natCast_pow]; rfl]
    omega
  have ht : Int.tdiv (b : Int) 7 = (b : Int) / 7 := Int.tdiv_eq_ediv_of_nonneg (by omega)
  have ht2 : Int.tdiv (wrap64 ((b : Int) + 6)) 7 = ((b : Int) + 6) / 7 := by rw [w64 (by omega) (by omega)]; exact Int.tdiv_eq_ediv_of_nonneg (by omega)
  rw [if_pos (by omega), hs, ht, ht2, size_tells (by omega) (by omega) (by omega), Option.bind_some, Int.toNat_natCast, sizes_one b, w64 (x := (b : Int) / 7) (by omega) (by omega), w64 (by omega) (by omega), if_pos (by omega), w64 (x := ((b : Int) + 6) / 7) (by omega) (by omega), wrap_u64,
    show (((2 ^ b : Nat) : Int) - 1) % 18446744073709551616 = ((2 ^ b - 1 : Nat) : Int) from by omega, size_tells (by omega) (by omega) (by omega), Option.bind_some, Int.toNat_natCast]
  have hfin : ((((encN (2 ^ b - 1)).length : Nat) : Int) != mx (((b : Int) + 6) / 7) 1) = false := by
    rw [bne_eq_false_iff_eq]
    unfold mx
    by_cases h0 : b = 0
    · subst h0
      rw [show 2 ^ 0 - 1 = 0 from rfl, encN_lt (by omega)]
      rfl
    · rw [sizes_ones b (by omega), if_neg (by omega)]
      omega
  rw [hfin]
  exact sizes_j0 (k := 29) h1.1 h1.2 h2.1 h2.2 (by omega)

end Go.Proofs.Ytpcjdgmjlnlfgaa.Pure
