/- concordancelaw2.CrcApart: what it computes is true, in plain words. -/
import Derived.Test.YtgkdigaieelopaaPCrcx11
import Derived.Test.YtgkdigaieelopaaCd
namespace Go.Proofs.Ytgkdigaieelopaa.Pure
open Go.RowKit Go.Proofs.Ytgkdigaieelopaa.PCrc Go.Proofs.YtgkdigaieelopaaW.PrintWords Go.Proofs.YtgkdigaieelopaaW.PrintMore Go.Proofs.Ytgkdigaieelopaa.Plain
open Go.Proofs.Ytgkdigaieelopaa.Hand (sum_f)

theorem apart_sum {l : List Int} (hb : isB l) {i : Nat} (hi : i < l.length) {v : Int} (hv0 : 0 ≤ v) (hv1 : v < 256) (h : moreN 0 (l.set i v) = moreN 0 l) : v = l[i] := by
  have hx := hb l[i] (List.getElem_mem hi)
  rw [moreN0, moreN0] at h
  have h := xor_cancel_right h
  have e1 : l.set i v = l.take i ++ v :: l.drop (i + 1) := by rw [List.set_eq_take_append_cons_drop, if_pos hi]
  have e2 : l = l.take i ++ l[i] :: l.drop (i + 1) := by
    conv => lhs; rw [← List.take_append_drop i l, List.drop_eq_getElem_cons hi]
  rw [e1] at h
  conv at h => rhs; rw [e2]
  rw [sumN_append, sumN_append] at h
  have hm : sumN ones (l.take i) < 4294967296 := sumN_lt _ ones_lt (isB_take hb i)
  generalize sumN ones (l.take i) = m at h hm
  have h2 : stepN m v.toNat = stepN m l[i].toNat := sumN_inj (l.drop (i + 1)) (stepN_lt hm (by omega)) (stepN_lt hm (by omega)) (isB_drop hb _) h
  have h3 := xor_cancel_left (bitsN_inj 8 (Nat.xor_lt_two_pow (n := 32) hm (by omega)) (Nat.xor_lt_two_pow (n := 32) hm (by omega)) h2)
  omega
theorem xor_self_iff {x y : Nat} (h : x ^^^ y = x) : y = 0 := by
  have h9 := congrArg (fun q => x ^^^ q) h
  simpa only [← Nat.xor_assoc, Nat.xor_self, Nat.zero_xor] using h9
theorem CrcApart : concordancelaw2_CrcApart.Pure := by
  intro l0 a1 a2 _ _ hb _ h2
  have hb : isB l0 := fun x hx => wf_u8 (hb x hx)
  have h2 := wf_u8 h2
  refine ⟨2, ?_⟩
  unfold concordancelaw2_CrcApart.f
  by_cases h0 : (l0.length : Int) = 0
  · rw [if_pos h0]
    simp only [concordancelaw2_CrcApart.j0]
    rw [if_pos trivial, awake_f]
    rfl
  · rw [if_neg h0]
    simp only [concordancelaw2_CrcApart.j0]
    by_cases h3 : (l0.length : Int) > 3000
    · rw [if_pos (by simpa using h3), awake_f]
      rfl
    · obtain ⟨i, hi, hil⟩ : ∃ i : Nat, Int.tmod (Go.bits .and .i64 a1 65535) (l0.length : Int) = (i : Int) ∧ i < l0.length := by
        have e := and_low a1 16 (by omega)
        rw [show ((2 ^ 16 - 1 : Nat) : Int) = 65535 from rfl, show ((2 ^ 16 : Nat) : Int) = 65536 from rfl] at e
        rw [e, Int.tmod_eq_emod_of_nonneg (by omega)]
        have q0 := Int.emod_nonneg (a1 % 65536) h0
        have q1 := Int.emod_lt_of_pos (a1 % 65536) (b := (l0.length : Int)) (by omega)
        exact ⟨(a1 % 65536 % (l0.length : Int)).toNat, by omega, by omega⟩
      rw [if_neg (by simpa using h3)]
      simp only [Option.bind_some, List.nil_append, List.length_nil]
      rw [hi, if_pos (by omega), if_neg h0, if_pos (by omega), if_pos (by omega), Int.toNat_natCast, rd_at l0 i hil]
      have hx := hb l0[i] (List.getElem_mem hil)
      have hv : Go.bits .xor .u8 l0[i] a2 = ((l0[i].toNat ^^^ a2.toNat : Nat) : Int) := Go.u8_xor _ _ hx.1 hx.2 h2.1 h2.2
      have hlt : l0[i].toNat ^^^ a2.toNat < 256 := Nat.xor_lt_two_pow (n := 8) (by omega) (by omega)
      have hs : isB (l0.set i (Go.bits .xor .u8 l0[i] a2)) := by
        intro y hy
        rcases List.mem_or_eq_of_mem_set hy with hy | rfl
        · exact hb y hy
        · rw [hv]; omega
      rw [sum_f hb (by omega), Option.bind_some, sum_f hs (by rw [List.length_set]; omega), Option.bind_some, if_pos, awake_f]
      · rfl
      · by_cases hz : a2 = 0
        · have e : l0.set i (Go.bits .xor .u8 l0[i] a2) = l0 := by
            rw [hv, hz, show (0 : Int).toNat = 0 from rfl, Nat.xor_zero, show ((l0[i].toNat : Nat) : Int) = l0[i] from by omega, List.set_getElem_self]
          rw [e, hz]
          simp
        · have hne : ((moreN 0 l0 : Nat) : Int) ≠ ((moreN 0 (l0.set i (Go.bits .xor .u8 l0[i] a2)) : Nat) : Int) := by
            intro he
            have h5 := apart_sum hb hil (by rw [hv]; omega) (by rw [hv]; omega) (Int.ofNat_inj.1 he).symm
            rw [hv] at h5
            have := xor_self_iff (x := l0[i].toNat) (y := a2.toNat) (by omega)
            omega
          rw [beq_eq_false_iff_ne.2 hne, beq_eq_false_iff_ne.2 hz]
          rfl

end Go.Proofs.Ytgkdigaieelopaa.Pure
