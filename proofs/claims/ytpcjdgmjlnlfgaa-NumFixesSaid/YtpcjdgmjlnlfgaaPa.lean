/- Plain facts on numbers as bytes, without any program: the groups of seven bits of a number (encN), the bytes of a fixed size (fixL), and what reads them again. -/
import Derived.Laws.BitsAllLaws
import Derived.Laws.BitsLemmas
namespace Go.Proofs.Ytpcjdgmjlnlfgaa.Plain

/-- The document's encoding: groups of seven bits, the least first. -/
def encN (n : Nat) : List Int := if h : n < 128 then [(n : Int)] else ((n % 128 + 128 : Nat) : Int) :: encN (n / 128)
termination_by n
decreasing_by omega

theorem encN_lt {n : Nat} (h : n < 128) : encN n = [(n : Int)] := by rw [encN, dif_pos h]
theorem encN_ge {n : Nat} (h : 128 ≤ n) : encN n = ((n % 128 + 128 : Nat) : Int) :: encN (n / 128) := by rw [encN, dif_neg (by omega)]
theorem or128 (x : Int) (h : 0 ≤ x) : Go.bits .or .u8 (x % 256) 128 = ((x.toNat % 128 + 128 : Nat) : Int) := by
  obtain ⟨n, rfl⟩ := Int.eq_ofNat_of_zero_le h
  have e : ((n : Int) % 256) = ((n % 256 : Nat) : Int) := by omega
  rw [e, show (128 : Int) = ((128 : Nat) : Int) from rfl, Go.u8_or_nat _ 128 (by omega) (by omega), Int.toNat_natCast]
  have k : ∀ m : Nat, m < 256 → m ||| 128 = m % 128 + 128 := by decide +kernel
  rw [k _ (by omega)]
  congr 2
  omega
theorem encN_step {x : Int} (h : 128 ≤ x) : encN x.toNat = Go.bits .or .u8 (x % 256) 128 :: encN (x / 128).toNat := by
  rw [encN_ge (by omega), or128 x (by omega)]
  congr 2
  omega
theorem encN_last {x : Int} (h0 : 0 ≤ x) (h : x < 128) : encN x.toNat = [x % 256] := by
  rw [encN_lt (by omega)]
  congr 1
  omega

theorem encN_length_le (k : Nat) : ∀ n : Nat, n < 2 ^ (7 * k + 7) → (encN n).length ≤ k + 1 := by
  induction k with
  | zero =>
    intro n h
    rw [encN_lt (by omega)]
    simp
  | succ k ih =>
    intro n h
    by_cases hn : n < 128
    · rw [encN_lt hn]; simp
    · rw [encN_ge (by omega)]
      have := ih (n / 128) (by
        rw [Nat.div_lt_iff_lt_mul (by omega)]
        have e : 2 ^ (7 * (k + 1) + 7) = 2 ^ (7 * k + 7) * 128 := by rw [show 7 * (k + 1) + 7 = (7 * k + 7) + 7 from by omega, Nat.pow_add]
        omega)
      simp only [List.length_cons]
      omega
theorem encN_len64 {n : Nat} (h : n < 18446744073709551616) : (encN n).length ≤ 10 := encN_length_le 9 n (by omega)
theorem encN_pos (n : Nat) : 0 < (encN n).length := by
  rw [encN]
  split <;> simp

/-- The size lowest bytes of a number, the greatest first. -/
def fixL (n : Nat) : Nat → List Int
  | 0 => []
  | s + 1 => ((n / 256 ^ s % 256 : Nat) : Int) :: fixL n s
theorem fixL_length (n s : Nat) : (fixL n s).length = s := by
  induction s with
  | zero => rfl
  | succ s ih => simp [fixL, ih]

theorem fixL_step (n : Nat) {i : Int} (h : 0 ≤ i) : fixL n (i + 1).toNat = ((n : Int) / 2 ^ (8 * i).toNat % 256) :: fixL n i.toNat := by
  obtain ⟨m, rfl⟩ := Int.eq_ofNat_of_zero_le h
  rw [show ((m : Int) + 1).toNat = m + 1 from by omega, show (8 * (m : Int)).toNat = 8 * m from by omega, Int.toNat_natCast]
  show ((n / 256 ^ m % 256 : Nat) : Int) :: fixL n m = _
  congr 1
  rw [show (256 : Nat) = 2 ^ 8 from rfl, ← Nat.pow_mul]
  rw [Int.natCast_emod, Int.natCast_ediv, Int.natCast_pow]
  rfl
/-- What a row of bytes tells, the greatest first, behind n. -/
def valB (n : Nat) : List Int → Nat
  | [] => n
  | c :: r => valB (n * 256 + c.toNat) r

/-- What a row of bytes begins with, from group i on, n being told so far: the number, its size, the error (4: it ends; 3: it is none). -/
def takeL : Nat → Nat → List Int → Int × Int × Int
  | _, _, [] => (0, 0, 4)
  | i, n, c :: r => if i = 9 ∧ c > 1 then (0, 0, 3) else if c < 128 then (if c = 0 ∧ i > 0 then (0, 0, 3) else (((n + c.toNat * 128 ^ i : Nat) : Int), (i : Int) + 1, 0)) else takeL (i + 1) (n + c.toNat % 128 * 128 ^ i) r
def takeT (l : List Int) : Int × Int × Int := takeL 0 0 l

theorem encN_take_go (m : Nat) : ∀ (i n : Nat) (r : List Int), n < 128 ^ i → i ≤ 9 → n + m * 128 ^ i < 18446744073709551616 → (0 < m ∨ i = 0) → takeL i n (encN m ++ r) = (((n + m * 128 ^ i : Nat) : Int), (i : Int) + (encN m).length, 0) := by
  induction m using Nat.strongRecOn with
  | _ m ih =>
    intro i n r hn hi hlt hpos
    have hp : 0 < 128 ^ i := Nat.pow_pos (by omega)
    by_cases hm : m < 128
    · rw [encN_lt hm]
      simp only [List.cons_append, List.nil_append, takeL]
      rw [if_neg (by
        rintro ⟨rfl, h1⟩
        have : m * 128 ^ 9 < 18446744073709551616 := by omega
        have e : (128 : Nat) ^ 9 = 9223372036854775808 := by decide
        rw [e] at this
        omega), if_pos (by omega), if_neg (by omega), Int.toNat_natCast]
      simp
    · rw [encN_ge (by omega)]
      simp only [List.cons_append, takeL]
      have hi9 : i < 9 := by
        rcases Nat.lt_or_ge i 9 with h | h
        · exact h
        · have : i = 9 := by omega
          subst this
          have e : (128 : Nat) ^ 9 = 9223372036854775808 := by decide
          rw [e] at hlt
          omega
      rw [if_neg (by omega), if_neg (by omega), Int.toNat_natCast]
      have e1 : (m % 128 + 128) % 128 = m % 128 := by omega
      have e2 : 128 ^ (i + 1) = 128 * 128 ^ i := by rw [Nat.pow_succ, Nat.mul_comm]
      have e3 : n + m % 128 * 128 ^ i + m / 128 * 128 ^ (i + 1) = n + m * 128 ^ i := by
        rw [e2, ← Nat.mul_assoc, Nat.add_assoc, ← Nat.add_mul]
        congr 2
        omega
      rw [e1, ih (m / 128) (by omega) (i + 1) _ r ?_ (by omega) (by rw [e3]; exact hlt) (by omega), e3]
      · simp only [List.length_cons, Prod.mk.injEq, true_and, and_true]
        omega
      · rw [e2]
        have : m % 128 * 128 ^ i ≤ 127 * 128 ^ i := Nat.mul_le_mul_right _ (by omega)
        omega
/-- Taken is what was put. -/
theorem encN_take {m : Nat} (h : m < 18446744073709551616) (r : List Int) : takeT (encN m ++ r) = ((m : Int), ((encN m).length : Int), 0) := by
  unfold takeT
  rw [encN_take_go m 0 0 r (by simp) (by omega) (by simpa using h) (.inr rfl)]
  simp

/-- An encoding that is cut is torn. -/
theorem encN_torn_go (m : Nat) : ∀ (i n : Nat) (k : Nat), i ≤ 9 → n + m * 128 ^ i < 18446744073709551616 → k < (encN m).length → takeL i n ((encN m).take k) = (0, 0, 4) := by
  induction m using Nat.strongRecOn with
  | _ m ih =>
    intro i n k hi hlt hk
    cases k with
    | zero => rw [List.take_zero]; rfl
    | succ k =>
      by_cases hm : m < 128
      · rw [encN_lt hm] at hk
        simp at hk
      · rw [encN_ge (by omega)] at hk ⊢
        simp only [List.take_succ_cons, takeL]
        have hi9 : i < 9 := by
          rcases Nat.lt_or_ge i 9 with h | h
          · exact h
          · have : i = 9 := by omega
            subst this
            have e : (128 : Nat) ^ 9 = 9223372036854775808 := by decide
            rw [e] at hlt
            omega
        rw [if_neg (by omega), if_neg (by omega), Int.toNat_natCast]
        have e1 : (m % 128 + 128) % 128 = m % 128 := by omega
        have e2 : 128 ^ (i + 1) = 128 * 128 ^ i := by rw [Nat.pow_succ, Nat.mul_comm]
        have e3 : n + m % 128 * 128 ^ i + m / 128 * 128 ^ (i + 1) = n + m * 128 ^ i := by
          rw [e2, ← Nat.mul_assoc, Nat.add_assoc, ← Nat.add_mul]
          congr 2
          omega
        rw [e1]
        exact ih (m / 128) (by omega) (i + 1) _ k (by omega) (by rw [e3]; exact hlt) (by simpa using hk)
theorem encN_torn {m : Nat} (h : m < 18446744073709551616) {k : Nat} (hk : k < (encN m).length) : takeT ((encN m).take k) = (0, 0, 4) :=
  encN_torn_go m 0 0 k (by omega) (by simpa using h) hk

theorem encN_bytes (m : Nat) : ∀ x ∈ encN m, 0 ≤ x ∧ x < 256 := by
  induction m using Nat.strongRecOn with
  | _ m ih =>
    intro x hx
    by_cases hm : m < 128
    · rw [encN_lt hm] at hx
      simp at hx
      omega
    · rw [encN_ge (by omega)] at hx
      rcases List.mem_cons.1 hx with rfl | hx
      · omega
      · exact ih (m / 128) (by omega) x hx
end Go.Proofs.Ytpcjdgmjlnlfgaa.Plain
