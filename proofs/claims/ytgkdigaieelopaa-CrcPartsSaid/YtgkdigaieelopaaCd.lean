/- What the printed crc.Sum, crc.Seal, crc.Open and awake tell, in plain words. -/
import Derived.Test.YtgkdigaieelopaaPCrcx9
import Derived.Test.YtgkdigaieelopaaPCrcx10
import Derived.Test.YtgkdigaieelopaaPCrcx5
import Derived.Test.YtgkdigaieelopaaPz
import Derived.Test.YtgkdigaieelopaaCb
import Derived.Test.YtgkdigaieelopaaCs
namespace Go.Proofs.Ytgkdigaieelopaa.Plain
open Go.RowKit Go.Proofs.YtgkdigaieelopaaW.PrintWords Go.Proofs.YtgkdigaieelopaaW.PrintLast Go.Proofs.YtgkdigaieelopaaW.PrintMore
open Go.Proofs.Ytgkdigaieelopaa.PCrc
open Go.Proofs.Ytgkdigaieelopaa.Hand (moreF sealF ownF tailL sum_f tail_f)
set_option linter.unusedVariables false
set_option linter.unusedSimpArgs false

theorem tailL_isB (n : Nat) : isB (tailL n) := by
  intro x hx
  simp only [tailL, List.mem_cons, List.not_mem_nil, or_false] at hx
  omega
theorem tailL_length (n : Nat) : (tailL n).length = 4 := rfl
theorem numL_tail {n : Nat} (h : n < 4294967296) : numL (tailL n) = n := by
  simp only [tailL, numL, Int.toNat_natCast]
  omega
theorem tail_numL {t : List Int} (h : isB t) (hl : t.length = 4) : tailL (numL t) = t := by
  obtain ⟨a, b, c, d, rfl⟩ : ∃ a b c d, t = [a, b, c, d] := by
    match t, hl with
    | [a, b, c, d], _ => exact ⟨a, b, c, d, rfl⟩
  have ha := h a (by simp)
  have hb := h b (by simp)
  have hc := h c (by simp)
  have hd := h d (by simp)
  simp only [tailL, numL, List.cons.injEq, and_true]
  omega
theorem ones_lt : ones < 4294967296 := by decide
theorem moreN0 (l : List Int) : moreN 0 l = sumN ones l ^^^ ones := by
  unfold moreN
  rw [Nat.zero_xor]
/-- When four bytes are the sum of what lies ahead of them. -/
theorem sealed_iff {p t : List Int} (hp : isB p) (ht : isB t) (hl : t.length = 4) : tailL (moreN 0 p) = t ↔ sumN ones (p ++ t) = bitsN 32 ones := by
  have hm := moreN_lt (s := 0) (by omega) hp
  have hs : sumN ones p < 4294967296 := sumN_lt p ones_lt hp
  have hn : numL t < 4294967296 := by have := numL_lt t ht; rw [hl] at this; exact this
  have e : sumN ones (p ++ t) = bitsN 32 (sumN ones p ^^^ numL t) := by
    rw [sumN_append, sumN_num t _ ht, hl]
  rw [e]
  constructor
  · intro h
    rw [← h, numL_tail hm, moreN0, ← Nat.xor_assoc, Nat.xor_self, Nat.zero_xor]
  · intro h
    have h9 := bitsN_inj 32 (Nat.xor_lt_two_pow (n := 32) hs hn) ones_lt h
    have h8 : moreN 0 p = numL t := by
      have h7 := congrArg (fun x => sumN ones p ^^^ x) h9
      simp only [← Nat.xor_assoc, Nat.xor_self, Nat.zero_xor] at h7
      rw [moreN0, h7]
    rw [h8, tail_numL ht hl]

/-- What crc.Open tells. -/
def openL (l : List Int) : List Int × Int := if l.length < 4 then ([], 4) else if tailL (moreN 0 (l.take (l.length - 4))) = l.drop (l.length - 4) then (l.take (l.length - 4), 0) else ([], 5)
theorem open_f {l : List Int} (hb : isB l) (hl : l.length ≤ 140737488355328) : crc_Open.f l = some (openL l) := by
  unfold crc_Open.f openL
  rw [w64 (by omega) (by omega)]
  by_cases h4 : l.length < 4
  · rw [if_pos (by omega), if_pos h4]
  · have e : ((l.length : Int) - 4).toNat = l.length - 4 := by omega
    have e0 : (l.length : Int) - 4 = ((l.length - 4 : Nat) : Int) := by omega
    rw [if_neg (by omega), if_pos (by omega), if_pos (by omega), if_neg h4, e, sum_f (isB_take hb _) (by rw [List.length_take]; omega), Option.bind_some, tail_f, Option.bind_some]
    by_cases ht : tailL (moreN 0 (l.take (l.length - 4))) = l.drop (l.length - 4)
    · rw [if_pos ht, ht, if_pos rfl]
      unfold num_Own.f ownF
      rw [if_pos (by rw [List.length_take]; omega)]
      rfl
    · rw [if_neg ht, if_neg]
      intro h
      exact ht (strOfNums_inj (tailL_isB _) (isB_drop hb _) h)
theorem openL_seal (l : List Int) : openL (l ++ tailL (moreN 0 l)) = (l, 0) := by
  unfold openL
  have e : (l ++ tailL (moreN 0 l)).length = l.length + 4 := by rw [List.length_append, tailL_length]
  rw [if_neg (by omega), e, show l.length + 4 - 4 = l.length from by omega, List.take_left, List.drop_left, if_pos rfl]
theorem seal_f {l : List Int} (hb : isB l) (hl : l.length ≤ 140737488355000) : crc_Seal.f l = some (l ++ tailL (moreN 0 l)) := by
  unfold crc_Seal.f sealF
  rw [if_pos ⟨hb, hl⟩]
theorem sealed_isB {l : List Int} (hb : isB l) : isB (l ++ tailL (moreN 0 l)) := isB_append hb (tailL_isB _)
/-- awake tells true. -/
theorem awake_f : concordancelaw2_awake.f = some true := by
  unfold concordancelaw2_awake.f
  have h1 : isB [120] := by intro x hx; simp at hx; omega
  have h2 : isB [49, 50, 51, 52, 53, 54, 55, 56, 57] := by intro x hx; simp at hx; omega
  have e : moreN 0 [49, 50, 51, 52, 53, 54, 55, 56, 57] = 3808858755 := by decide +kernel
  rw [seal_f h1 (by simp), Option.bind_some, open_f (sealed_isB h1) (by rw [List.length_append, tailL_length]; simp), Option.bind_some, openL_seal, sum_f h2 (by simp), e, Option.bind_some, if_pos (by decide), sum_f (by intro x hx; simp at hx) (by simp), Option.bind_some, if_pos (by decide)]
  decide +kernel
end Go.Proofs.Ytgkdigaieelopaa.Plain
