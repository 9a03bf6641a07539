/- concordancelaw1.NumZigs: what it computes is true, in plain words. -/
import Derived.Test.YtpcjdgmjlnlfgaaPNumx10
import Derived.Test.YtpcjdgmjlnlfgaaPb
namespace Go.Proofs.Ytpcjdgmjlnlfgaa.Pure
open Go.RowKit Go.Proofs.Ytpcjdgmjlnlfgaa.PNum Go.Proofs.YtpcjdgmjlnlfgaaW.PrintWords Go.Proofs.YtpcjdgmjlnlfgaaW.PrintLast Go.Proofs.Ytpcjdgmjlnlfgaa.Plain

theorem zigs_j2 {a : Int} (h0 : -4611686018427387904 < a) (h1 : a < 4611686018427387904) {k : Nat} (hk : 21 ≤ k) :
    concordancelaw1_NumZigs.j2 (k + 1) a false = some true := by
  simp only [concordancelaw1_NumZigs.j2]
  have hz := zig_range (a := a) (by omega) (by omega)
  rw [if_neg (by decide), zig_tells (by omega) (by omega), Option.bind_some, zag_tells hz.1 hz.2, Option.bind_some, if_pos (zag_zig a), zig_tells (by omega) (by omega), Option.bind_some, if_pos (by decide)]
  by_cases h : a ≤ 0
  · rw [if_pos h, awake_tells hk]
    rfl
  · rw [if_neg h, Option.bind_some, w64 (by omega) (by omega), zig_tells (by omega) (by omega), Option.bind_some, if_pos (by
      rw [wrap_u64]
      unfold zigZ
      rw [if_pos (by omega), if_neg (by omega)]
      omega), awake_tells hk]
    rfl
theorem zigs_j1 {a b c d : Int} (ha0 : -4611686018427387904 < a) (ha1 : a < 4611686018427387904) (hb0 : -4611686018427387904 < b) (hb1 : b < 4611686018427387904)
    (hc : c = if a < 0 then -a else a) (hd : d = if b < 0 then -b else b) {k : Nat} (hk : 22 ≤ k) :
    concordancelaw1_NumZigs.j1 (k + 1) a b c d = some true := by
  obtain ⟨k, rfl⟩ : ∃ m, k = m + 1 := ⟨k - 1, by omega⟩
  have hj := zigs_j2 ha0 ha1 (k := k) (by omega)
  simp only [concordancelaw1_NumZigs.j1, zig_tells (a := a) (by omega) (by omega), zig_tells (a := b) (by omega) (by omega), Option.bind_some]
  have hlt : c < d → ¬ (zigZ a ≥ zigZ b) := by
    unfold zigZ
    split at hc <;> split at hd <;> split <;> split <;> omega
  have hne : c = d → a ≠ b → zigZ a ≠ zigZ b := by
    unfold zigZ
    split at hc <;> split at hd <;> split <;> split <;> omega
  by_cases h : c < d
  · rw [if_pos h, if_neg (hlt h), if_neg (by omega)]
    exact hj
  · rw [if_neg h]
    by_cases he : c = d
    · rw [if_pos he]
      by_cases hab : a = b
      · rw [if_pos hab]
        exact hj
      · rw [if_neg hab, show (zigZ a == zigZ b) = false from by simpa using hne he hab]
        exact hj
    · rw [if_neg he]
      exact hj
theorem NumZigs : concordancelaw1_NumZigs.Pure := by
  intro a0 a1 _ _
  refine ⟨30, ?_⟩
  have ha0 := Int.lt_tmod_of_pos a0 (b := 4611686018427387904) (by omega)
  have ha1 := Int.tmod_lt_of_pos a0 (b := 4611686018427387904) (by omega)
  have hb0 := Int.lt_tmod_of_pos a1 (b := 4611686018427387904) (by omega)
  have hb1 := Int.tmod_lt_of_pos a1 (b := 4611686018427387904) (by omega)
  unfold concordancelaw1_NumZigs.f
  generalize Int.tmod a0 4611686018427387904 = a at *
  generalize Int.tmod a1 4611686018427387904 = b at *
  have hj : ∀ c, c = (if a < 0 then -a else a) → concordancelaw1_NumZigs.j0 30 a b c b = some true := by
    intro c hc
    show concordancelaw1_NumZigs.j0 (29 + 1) a b c b = some true
    simp only [concordancelaw1_NumZigs.j0]
    by_cases h : b < 0
    · rw [if_pos h, w64 (by omega) (by omega)]
      exact zigs_j1 (k := 28) ha0 ha1 hb0 hb1 hc (by rw [if_pos h]) (by omega)
    · rw [if_neg h]
      exact zigs_j1 (k := 28) ha0 ha1 hb0 hb1 hc (by rw [if_neg h]) (by omega)
  by_cases h : a < 0
  · rw [if_pos h, w64 (by omega) (by omega)]
    exact hj _ (by rw [if_pos h])
  · rw [if_neg h]
    exact hj _ (by rw [if_neg h])

end Go.Proofs.Ytpcjdgmjlnlfgaa.Pure
