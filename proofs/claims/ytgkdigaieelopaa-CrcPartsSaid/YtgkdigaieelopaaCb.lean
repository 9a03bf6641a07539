/- Plain facts on sums: a row of bytes as one number; two unlike rows of which only four bytes in a row differ have unlike sums. -/
import Derived.Test.YtgkdigaieelopaaCa
namespace Go.Proofs.Ytgkdigaieelopaa.Plain

theorem bitN_inj {a b : Nat} (ha : a < 4294967296) (hb : b < 4294967296) (h : bitN a = bitN b) : a = b := by
  have h31 : ∀ n : Nat, n < 4294967296 → (bitN n).testBit 31 = decide (n % 2 = 1) := by
    intro n hn
    unfold bitN
    rw [Nat.testBit_xor, Nat.testBit_lt_two_pow (x := n / 2) (i := 31) (by omega)]
    by_cases h2 : n % 2 = 1
    · rw [if_pos h2, decide_eq_true h2, show polyN.testBit 31 = true from by decide]
      rfl
    · rw [if_neg h2, decide_eq_false h2, Nat.zero_testBit]
      rfl
  have e1 := h31 a ha
  rw [h, h31 b hb] at e1
  have hm : a % 2 = b % 2 := by
    rcases Nat.mod_two_eq_zero_or_one a with h1 | h1 <;> rcases Nat.mod_two_eq_zero_or_one b with h2 | h2 <;> rw [h1, h2] at e1 <;> first | omega | (exact absurd e1 (by decide))
  unfold bitN at h
  rw [hm] at h
  have h9 := congrArg (fun x => x ^^^ (if b % 2 = 1 then polyN else 0)) h
  simp only [Nat.xor_assoc, Nat.xor_self, Nat.xor_zero] at h9
  omega
theorem bitsN_inj (k : Nat) : ∀ {a b : Nat}, a < 4294967296 → b < 4294967296 → bitsN k a = bitsN k b → a = b := by
  induction k with
  | zero => intro a b _ _ h; exact h
  | succ k ih => intro a b ha hb h; exact bitN_inj ha hb (ih (bitN_lt ha) (bitN_lt hb) h)
theorem bitsN_zero (k : Nat) : bitsN k 0 = 0 := by
  induction k with
  | zero => rfl
  | succ k ih => exact ih
theorem xor_cancel_right {a b c : Nat} (h : a ^^^ c = b ^^^ c) : a = b := by
  have h9 := congrArg (fun x => x ^^^ c) h
  simpa only [Nat.xor_assoc, Nat.xor_self, Nat.xor_zero] using h9
theorem xor_cancel_left {a b c : Nat} (h : c ^^^ a = c ^^^ b) : a = b := by
  rw [Nat.xor_comm c a, Nat.xor_comm c b] at h
  exact xor_cancel_right h
theorem stepN_inj {n m c : Nat} (hn : n < 4294967296) (hm : m < 4294967296) (hc : c < 4294967296) (h : stepN n c = stepN m c) : n = m :=
  xor_cancel_right (bitsN_inj 8 (Nat.xor_lt_two_pow (n := 32) hn hc) (Nat.xor_lt_two_pow (n := 32) hm hc) h)
theorem sumN_inj (l : List Int) : ∀ {n m : Nat}, n < 4294967296 → m < 4294967296 → (∀ x ∈ l, 0 ≤ x ∧ x < 256) → sumN n l = sumN m l → n = m := by
  induction l with
  | nil => intro n m _ _ _ h; exact h
  | cons c l ih =>
    intro n m hn hm hl h
    have hc := hl c (.head _)
    have hc' : c.toNat < 4294967296 := by omega
    exact stepN_inj hn hm hc' (ih (stepN_lt hn hc') (stepN_lt hm hc') (fun x hx => hl x (.tail _ hx)) h)

/-- A row of bytes as one number, the least byte first. -/
def numL : List Int → Nat
  | [] => 0
  | c :: r => c.toNat + 256 * numL r
theorem add_xor (c m : Nat) (hc : c < 256) : c + 256 * m = c ^^^ (m * 2 ^ 8) := by
  have h1 := Go.nat_join 8 (m * 2 ^ 8) c (Nat.mul_mod_left _ _) hc
  have h3 : (m * 2 ^ 8) ||| c = (m * 2 ^ 8) ^^^ c := by
    apply Nat.eq_of_testBit_eq
    intro i
    rw [Nat.testBit_or, Nat.testBit_xor, Nat.testBit_mul_two_pow]
    by_cases hi : 8 ≤ i
    · rw [Nat.testBit_lt_two_pow (x := c) (i := i) (Nat.lt_of_lt_of_le hc (Nat.pow_le_pow_right (by omega) hi : 2 ^ 8 ≤ 2 ^ i))]
      simp
    · simp [hi]
  rw [h3, Nat.xor_comm] at h1
  rw [h1]
  omega
theorem sumN_num (l : List Int) : ∀ n : Nat, (∀ x ∈ l, 0 ≤ x ∧ x < 256) → sumN n l = bitsN (8 * l.length) (n ^^^ numL l) := by
  induction l with
  | nil => intro n _; simp [sumN, numL, bitsN]
  | cons c l ih =>
    intro n hl
    have hc := hl c (.head _)
    show sumN (stepN n c.toNat) l = _
    rw [ih _ (fun x hx => hl x (.tail _ hx)), numL, add_xor _ _ (by omega), ← Nat.xor_assoc, List.length_cons, show 8 * (l.length + 1) = 8 + 8 * l.length from by omega, bitsN_add, bitsN_xor 8, bitsN_shl]
    rfl
theorem numL_lt (l : List Int) : (∀ x ∈ l, 0 ≤ x ∧ x < 256) → numL l < 2 ^ (8 * l.length) := by
  induction l with
  | nil => intro _; simp [numL]
  | cons c l ih =>
    intro hl
    have hc := hl c (.head _)
    have := ih (fun x hx => hl x (.tail _ hx))
    rw [numL, List.length_cons, show 8 * (l.length + 1) = 8 * l.length + 8 from by omega, Nat.pow_add]
    omega
theorem numL_append (l r : List Int) : numL (l ++ r) = numL l + 2 ^ (8 * l.length) * numL r := by
  induction l with
  | nil => simp [numL]
  | cons c l ih =>
    rw [List.cons_append, numL, numL, ih, List.length_cons, show 8 * (l.length + 1) = 8 * l.length + 8 from by omega, Nat.pow_add]
    rw [Nat.mul_add, Nat.add_assoc]
    congr 2
    rw [← Nat.mul_assoc, Nat.mul_comm 256, show (2 : Nat) ^ 8 = 256 from rfl]
/-- One bit turned. -/
theorem numL_turn (l : List Int) : ∀ (j b v : Nat), j < l.length → b < 8 → (∀ x ∈ l, 0 ≤ x ∧ x < 256) → v = (l.getD j 0).toNat ^^^ 2 ^ b → numL (l.set j (v : Int)) = numL l ^^^ 2 ^ (8 * j + b) := by
  induction l with
  | nil => intro j b v hj; simp at hj
  | cons c l ih =>
    intro j b v hj hb hl hv
    have hc := hl c (.head _)
    have hp : 2 ^ b ≤ 2 ^ 7 := Nat.pow_le_pow_right (by omega) (by omega)
    cases j with
    | zero =>
      have hv' : v < 256 := by
        rw [hv]
        exact Nat.xor_lt_two_pow (n := 8) (by simp; omega) (by omega)
      rw [List.set_cons_zero, numL, numL, Int.toNat_natCast, add_xor _ _ hv', add_xor _ _ (by omega), hv]
      simp only [List.getD_cons_zero, Nat.mul_zero, Nat.zero_add]
      rw [Nat.xor_assoc, Nat.xor_comm (2 ^ b), ← Nat.xor_assoc]
    | succ j =>
      have := ih j b v (by simpa using hj) hb (fun x hx => hl x (.tail _ hx)) (by simpa using hv)
      rw [List.set_cons_succ, numL, numL, this, add_xor _ _ (by omega), add_xor _ _ (by omega)]
      have e : (numL l ^^^ 2 ^ (8 * j + b)) * 2 ^ 8 = numL l * 2 ^ 8 ^^^ 2 ^ (8 * (j + 1) + b) := by
        have h9 := Nat.shiftLeft_xor_distrib (a := numL l) (b := 2 ^ (8 * j + b)) (i := 8)
        simp only [Nat.shiftLeft_eq] at h9
        rw [h9, ← Nat.pow_add, show 8 * j + b + 8 = 8 * (j + 1) + b from by omega]
      rw [e, Nat.xor_assoc]
/-- What is not nought and no longer than 32 bits is found, wherever it lies. -/
theorem burst_found {P k L : Nat} (hP : P < 4294967296) (hk : k ≤ L) (h : bitsN L (P * 2 ^ k) = 0) : P = 0 := by
  obtain ⟨m, rfl⟩ : ∃ m, L = k + m := ⟨L - k, by omega⟩
  rw [bitsN_add, bitsN_shl] at h
  exact bitsN_inj m hP (by omega) (by rw [h, bitsN_zero])
end Go.Proofs.Ytgkdigaieelopaa.Plain
