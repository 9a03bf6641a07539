/- Plain facts on the printed num.Take: it always tells something, within thirty rounds; and the numbers of a row of bytes, one by one (items). -/
import Derived.Test.YtpcjdgmjlnlfgaaPNumx4
namespace Go.Proofs.Ytpcjdgmjlnlfgaa.Hand
open Go.RowKit Go.Proofs.YtpcjdgmjlnlfgaaW.PrintWords Go.Proofs.YtpcjdgmjlnlfgaaW.PrintLast Go.Proofs.YtpcjdgmjlnlfgaaW.PrintMore
open Go.Proofs.Ytpcjdgmjlnlfgaa.PNum
set_option linter.unusedVariables false
set_option linter.unusedSimpArgs false

theorem w64 {x : Int} (h0 : -9223372036854775808 ≤ x) (h1 : x < 9223372036854775808) : wrap64 x = x := by unfold wrap64; omega

theorem take_l0_some (l : List Int) (hl : l.length ≤ 140737488355328) : ∀ (d k : Nat) (n i : Int), 0 ≤ i → i + d = 10 → 2 * d < k →
    ∃ r1 r2 r3, num_Take.l0 k l n i = some (r1, r2, r3) ∧ (r3 = 0 → 1 ≤ r2 ∧ r2 ≤ l.length ∧ r2 ≤ 10) := by
  intro d
  induction d with
  | zero =>
    intro k n i h0 hd hk
    obtain ⟨k, rfl⟩ : ∃ m, k = m + 1 := ⟨k - 1, by omega⟩
    simp only [num_Take.l0]
    rw [if_neg (by omega)]
    exact ⟨_, _, _, rfl, fun h => absurd h (by decide)⟩
  | succ d ih =>
    intro k n i h0 hd hk
    obtain ⟨k, rfl⟩ : ∃ m, k = m + 1 := ⟨k - 1, by omega⟩
    obtain ⟨k, rfl⟩ : ∃ m, k = m + 1 := ⟨k - 1, by omega⟩
    simp only [num_Take.l0]
    rw [if_pos (by omega)]
    by_cases h1 : i ≥ (l.length : Int)
    · rw [if_pos h1]
      exact ⟨_, _, _, rfl, fun h => absurd h (by decide)⟩
    · rw [if_neg h1, if_pos h0, if_pos (by omega)]
      have hj : ∀ b : Bool, ∃ r1 r2 r3, num_Take.j1 (k + 1) l n i (rd l i) i b = some (r1, r2, r3) ∧ (r3 = 0 → 1 ≤ r2 ∧ r2 ≤ l.length ∧ r2 ≤ 10) := by
        intro b
        simp only [num_Take.j1]
        have e1 : wrap64 (7 * i) = 7 * i := w64 (by omega) (by omega)
        have e2 : wrap64 (i + 1) = i + 1 := w64 (by omega) (by omega)
        cases b with
        | true => exact ⟨_, _, _, rfl, fun h => absurd h (by decide)⟩
        | false =>
          rw [if_neg (by decide), e1, e2, if_pos (by omega)]
          by_cases h2 : rd l i < 128
          · rw [if_pos h2]
            by_cases h3 : rd l i = 0
            · rw [if_pos h3]
              by_cases h4 : i > 0
              · rw [if_pos h4]
                exact ⟨_, _, _, rfl, fun h => absurd h (by decide)⟩
              · rw [if_neg h4]
                exact ⟨_, _, _, rfl, fun _ => by omega⟩
            · rw [if_neg h3]
              exact ⟨_, _, _, rfl, fun _ => by omega⟩
          · rw [if_neg h2]
            exact ih k _ (i + 1) (by omega) (by omega) (by omega)
      by_cases h5 : i = 9
      · rw [if_pos h5]; exact hj _
      · rw [if_neg h5]; exact hj _

theorem take_some (l : List Int) (hl : l.length ≤ 140737488355328) : ∃ r1 r2 r3, num_Take.f 30 l = some (r1, r2, r3) ∧ (r3 = 0 → 1 ≤ r2 ∧ r2 ≤ l.length ∧ r2 ≤ 10) :=
  take_l0_some l hl 10 30 0 0 (by omega) (by omega) (by omega)

/-- The numbers of a row of bytes, each with its place, up to the first that is none. -/
def itemsF : Nat → Int → List Int → List (Int × Int)
  | 0, _, _ => []
  | k + 1, a, l => if l.length = 0 then [] else match num_Take.f 30 l with
    | some (n, s, e) => if e = 0 then (a, n) :: itemsF k (a + s) (l.drop s.toNat) else []
    | none => []
def items (l : List Int) : List (Int × Int) := itemsF (l.length + 1) 0 l
/-- told: the places and the numbers, at most so many. -/
def toldF (l : List Int) (most : Int) : Option (List Int × List Int) :=
  if l.length ≤ 1000000 then some (((items l).take most.toNat).map (·.1), ((items l).take most.toNat).map (·.2)) else none

theorem itemsF_nil (k : Nat) (a : Int) (l : List Int) (h : l.length = 0) : itemsF k a l = [] := by
  cases k with
  | zero => rfl
  | succ k => simp [itemsF, h]
theorem itemsF_stop (k : Nat) (a : Int) (l : List Int) {n s e : Int} (ht : num_Take.f 30 l = some (n, s, e)) (he : e ≠ 0) : itemsF k a l = [] := by
  cases k with
  | zero => rfl
  | succ k =>
    simp only [itemsF]
    split
    · rfl
    · rw [ht]
      simp [he]
theorem itemsF_step (k : Nat) (a : Int) (l : List Int) {n s : Int} (h : l.length ≠ 0) (ht : num_Take.f 30 l = some (n, s, 0)) : itemsF (k + 1) a l = (a, n) :: itemsF k (a + s) (l.drop s.toNat) := by
  simp only [itemsF]
  rw [if_neg h, ht]
  simp
theorem itemsF_length (k : Nat) : ∀ (a : Int) (l : List Int), (itemsF k a l).length ≤ k := by
  induction k with
  | zero => intro a l; simp [itemsF]
  | succ k ih =>
    intro a l
    simp only [itemsF]
    split
    · simp
    · split
      · split
        · exact Nat.succ_le_succ (ih _ _)
        · simp
      · simp
end Go.Proofs.Ytpcjdgmjlnlfgaa.Hand
