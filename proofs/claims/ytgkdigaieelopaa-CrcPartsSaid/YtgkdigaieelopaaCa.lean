/- Plain facts on the sums of layer 2, without any program: one bit, four bits, eight bits of a sum; a sum of bytes. -/
import Derived.Laws.BitsAllLaws
import Derived.Laws.BitsLemmas
namespace Go.Proofs.Ytgkdigaieelopaa.Plain

def polyN : Nat := 2197175160
/-- One bit of a sum. -/
def bitN (n : Nat) : Nat := n / 2 ^^^ (if n % 2 = 1 then polyN else 0)
def bitsN : Nat → Nat → Nat
  | 0, n => n
  | k + 1, n => bitsN k (bitN n)
theorem bitsN_add (j k n : Nat) : bitsN (j + k) n = bitsN k (bitsN j n) := by
  induction j generalizing n with
  | zero => rw [Nat.zero_add]; rfl
  | succ j ih => rw [Nat.succ_add]; exact ih _
theorem bitsN_snoc (k n : Nat) : bitsN (k + 1) n = bitN (bitsN k n) := bitsN_add k 1 n
theorem lt32 {n : Nat} (h : n < 4294967296) : n < 2 ^ 32 := h
theorem bitN_lt {n : Nat} (h : n < 4294967296) : bitN n < 4294967296 := by
  unfold bitN
  refine Nat.xor_lt_two_pow (n := 32) (by omega) ?_
  split <;> decide
theorem bitsN_lt (k : Nat) : ∀ {n : Nat}, n < 4294967296 → bitsN k n < 4294967296 := by
  induction k with
  | zero => intro n h; exact h
  | succ k ih => intro n h; exact ih (bitN_lt h)
theorem xor_mod2 (a b : Nat) : (a ^^^ b) % 2 = (a % 2 + b % 2) % 2 := by
  have h := Nat.testBit_xor (x := a) (y := b) (i := 0)
  simp only [Nat.testBit_zero] at h
  rcases Nat.mod_two_eq_zero_or_one a with ha | ha <;> rcases Nat.mod_two_eq_zero_or_one b with hb | hb <;> rcases Nat.mod_two_eq_zero_or_one (a ^^^ b) with hc | hc <;> rw [ha, hb, hc] at h <;> rw [ha, hb, hc] <;> first | rfl | (exact absurd h (by decide))
theorem xor_div2 (a b : Nat) : (a ^^^ b) / 2 = a / 2 ^^^ b / 2 := by
  have := Nat.shiftRight_xor_distrib (a := a) (b := b) (i := 1)
  simpa [Nat.shiftRight_eq_div_pow] using this
theorem bitN_xor (a b : Nat) : bitN (a ^^^ b) = bitN a ^^^ bitN b := by
  unfold bitN
  rw [xor_div2, xor_mod2]
  have ac : ∀ p q r s : Nat, (p ^^^ q) ^^^ (r ^^^ s) = (p ^^^ r) ^^^ (q ^^^ s) := fun p q r s => by
    rw [Nat.xor_assoc, ← Nat.xor_assoc q r s, Nat.xor_comm q r, Nat.xor_assoc r q s, ← Nat.xor_assoc]
  rcases Nat.mod_two_eq_zero_or_one a with ha | ha <;> rcases Nat.mod_two_eq_zero_or_one b with hb | hb <;> rw [ha, hb, ac] <;> simp
theorem bitsN_xor (k : Nat) : ∀ a b : Nat, bitsN k (a ^^^ b) = bitsN k a ^^^ bitsN k b := by
  induction k with
  | zero => intro a b; rfl
  | succ k ih => intro a b; simp only [bitsN]; rw [bitN_xor, ih]
theorem bitN_two (n : Nat) : bitN (2 * n) = n := by
  unfold bitN
  rw [if_neg (by omega), Nat.xor_zero]
  omega
theorem bitsN_shl (k : Nat) : ∀ n : Nat, bitsN k (n * 2 ^ k) = n := by
  induction k with
  | zero => intro n; simp [bitsN]
  | succ k ih =>
    intro n
    simp only [bitsN]
    rw [Nat.pow_succ, show n * (2 ^ k * 2) = 2 * (n * 2 ^ k) from by rw [← Nat.mul_assoc, Nat.mul_comm], bitN_two, ih]
/-- So many bits at once: what lies above, and what the low bits make. -/
theorem bitsN_low (k n : Nat) : bitsN k n = n / 2 ^ k ^^^ bitsN k (n % 2 ^ k) := by
  have e : n = (n / 2 ^ k * 2 ^ k) ^^^ (n % 2 ^ k) := by
    have h1 : n / 2 ^ k * 2 ^ k + n % 2 ^ k = n / 2 ^ k * 2 ^ k ||| n % 2 ^ k := (Go.nat_join k _ _ (Nat.mul_mod_left _ _) (Nat.mod_lt _ (Nat.pow_pos (by omega)))).symm
    have h2 : (n / 2 ^ k * 2 ^ k) &&& (n % 2 ^ k) = 0 := by
      apply Nat.eq_of_testBit_eq
      intro i
      rw [Nat.testBit_and, Nat.testBit_mul_two_pow, Nat.testBit_mod_two_pow]
      by_cases hi : k ≤ i
      · simp [show ¬ i < k from by omega]
      · simp [hi]
    have h3 : (n / 2 ^ k * 2 ^ k) ||| (n % 2 ^ k) = (n / 2 ^ k * 2 ^ k) ^^^ (n % 2 ^ k) := by
      apply Nat.eq_of_testBit_eq
      intro i
      have := congrArg (fun x => x.testBit i) h2
      simp only [Nat.testBit_and, Nat.zero_testBit] at this
      rw [Nat.testBit_or, Nat.testBit_xor]
      cases h4 : (n / 2 ^ k * 2 ^ k).testBit i <;> cases h5 : (n % 2 ^ k).testBit i <;> rw [h4, h5] at this <;> simp_all
    rw [← h3, ← h1]
    exact (Nat.div_add_mod' n (2 ^ k)).symm
  conv => lhs; rw [e, bitsN_xor, bitsN_shl]
def stepN (n c : Nat) : Nat := bitsN 8 (n ^^^ c)
def sumN (n : Nat) (l : List Int) : Nat := l.foldl (fun n c => stepN n c.toNat) n
def ones : Nat := 4294967295
/-- The sum of what a sum is of, and more. -/
def moreN (s : Nat) (l : List Int) : Nat := sumN (s ^^^ ones) l ^^^ ones
theorem stepN_lt {n c : Nat} (h : n < 4294967296) (hc : c < 4294967296) : stepN n c < 4294967296 := bitsN_lt 8 (Nat.xor_lt_two_pow (n := 32) h hc)
theorem sumN_lt (l : List Int) : ∀ {n : Nat}, n < 4294967296 → (∀ x ∈ l, 0 ≤ x ∧ x < 256) → sumN n l < 4294967296 := by
  induction l with
  | nil => intro n h _; exact h
  | cons c l ih =>
    intro n h hl
    have := hl c (.head _)
    exact ih (stepN_lt h (by omega)) (fun x hx => hl x (.tail _ hx))
theorem moreN_lt {s : Nat} {l : List Int} (h : s < 4294967296) (hl : ∀ x ∈ l, 0 ≤ x ∧ x < 256) : moreN s l < 4294967296 :=
  Nat.xor_lt_two_pow (n := 32) (sumN_lt l (Nat.xor_lt_two_pow (n := 32) h (by decide)) hl) (by decide)
theorem sumN_append (l r : List Int) (n : Nat) : sumN n (l ++ r) = sumN (sumN n l) r := List.foldl_append
theorem moreN_append (s : Nat) (l r : List Int) : moreN (moreN s l) r = moreN s (l ++ r) := by
  unfold moreN
  rw [Nat.xor_assoc, Nat.xor_self, Nat.xor_zero, sumN_append]
end Go.Proofs.Ytgkdigaieelopaa.Plain
