/- concordancelaw2.CrcBursts: what it computes is true, in plain words. -/
import Derived.Test.YtgkdigaieelopaaPCrcx12
import Derived.Test.YtgkdigaieelopaaCd
namespace Go.Proofs.Ytgkdigaieelopaa.Pure
open Go.RowKit Go.Proofs.Ytgkdigaieelopaa.PCrc Go.Proofs.YtgkdigaieelopaaW.PrintWords Go.Proofs.YtgkdigaieelopaaW.PrintMore Go.Proofs.Ytgkdigaieelopaa.Plain
open Go.Proofs.Ytgkdigaieelopaa.Hand (sum_f tailL)

theorem numL_inj : ∀ {l m : List Int}, isB l → isB m → l.length = m.length → numL l = numL m → l = m
  | [], m, _, _, h, _ => (List.length_eq_zero_iff.1 h.symm).symm
  | a :: l, [], _, _, h, _ => by simp at h
  | a :: l, b :: m, hl, hm, h, e => by
    have ha := hl a (.head _)
    have hb := hm b (.head _)
    simp only [numL] at e
    have e1 : a = b := by omega
    have e2 : numL l = numL m := by omega
    rw [e1, numL_inj (fun x hx => hl x (.tail _ hx)) (fun x hx => hm x (.tail _ hx)) (by simpa using h) e2]
/-- The turned text is refused when any bit was turned. -/
theorem burst_open {s t : List Int} (hs : isB s) (ht : isB t) (hl : t.length = s.length) (h4 : 4 ≤ s.length) {K Q : Nat} (hK : K ≤ 8 * s.length) (hQ : Q < 4294967296) (hQ0 : Q ≠ 0)
    (hsum : sumN ones s = bitsN 32 ones) (hn : numL t = numL s ^^^ Q * 2 ^ K) : openL t = ([], 5) := by
  unfold openL
  rw [if_neg (by omega), if_neg]
  intro hc
  have h9 := (sealed_iff (isB_take ht _) (isB_drop ht _) (by rw [List.length_drop]; omega)).1 hc
  rw [List.take_append_drop, sumN_num t _ ht, hl, hn, ← Nat.xor_assoc, bitsN_xor, ← sumN_num s _ hs, hsum] at h9
  exact hQ0 (burst_found hQ hK (xor_self_iff' h9))
where
  xor_self_iff' {x y : Nat} (h : x ^^^ y = x) : y = 0 := by
    have h9 := congrArg (fun q => x ^^^ q) h
    simpa only [← Nat.xor_assoc, Nat.xor_self, Nat.zero_xor] using h9

/-- The bits of a pattern that have been gone over, as far as the text reaches. -/
def low (P i R : Nat) : Nat := P % 2 ^ (min i R)
theorem low_zero (P R : Nat) : low P 0 R = 0 := by unfold low; rw [Nat.zero_min, Nat.pow_zero, Nat.mod_one]
theorem low_past (P : Nat) {i R : Nat} (h : R ≤ i) : low P (i + 1) R = low P i R := by unfold low; rw [Nat.min_eq_right (by omega), Nat.min_eq_right h]
theorem mod_next (P i : Nat) : P % 2 ^ (i + 1) = P / 2 ^ i % 2 * 2 ^ i + P % 2 ^ i := by
  rw [Nat.pow_succ, Nat.mod_mul, Nat.add_comm, Nat.mul_comm]
theorem low_none (P : Nat) {i R : Nat} (h : i < R) (hb : P / 2 ^ i % 2 = 0) : low P (i + 1) R = low P i R := by
  unfold low
  rw [Nat.min_eq_left (by omega), Nat.min_eq_left (by omega), mod_next, hb, Nat.zero_mul, Nat.zero_add]
theorem low_one (P : Nat) {i R : Nat} (h : i < R) (hb : P / 2 ^ i % 2 = 1) : low P (i + 1) R = low P i R ^^^ 2 ^ i ∧ low P (i + 1) R ≠ 0 := by
  unfold low
  rw [Nat.min_eq_left (by omega), Nat.min_eq_left (by omega), mod_next, hb, Nat.one_mul]
  have hp : 0 < 2 ^ i := Nat.pow_pos (by omega)
  have hlt : P % 2 ^ i < 2 ^ i := Nat.mod_lt _ hp
  refine ⟨?_, by omega⟩
  have h1 := Go.nat_join i (2 ^ i) (P % 2 ^ i) (Nat.mod_self _) hlt
  have h3 : 2 ^ i ||| P % 2 ^ i = 2 ^ i ^^^ P % 2 ^ i := by
    apply Nat.eq_of_testBit_eq
    intro j
    rw [Nat.testBit_or, Nat.testBit_xor, Nat.testBit_two_pow]
    by_cases hj : i = j
    · subst hj
      rw [Nat.testBit_lt_two_pow hlt]
      simp
    · simp [hj]
  rw [← h1, h3, Nat.xor_comm]
theorem low_lt {P : Nat} (h : P < 4294967296) (i R : Nat) : low P i R < 4294967296 := Nat.lt_of_le_of_lt (Nat.mod_le _ _) h

section
variable {l s : List Int} {K P : Nat}
theorem bursts_end (hl : isB l) (hll : l.length ≤ 2000) (hs : s = l ++ tailL (moreN 0 l)) (hK : K < 8 * s.length) (hP : P < 4294967296) {t : List Int} (ht : isB t) (hlen : t.length = s.length)
    (hn : numL t = numL s ^^^ low P 32 (8 * s.length - K) * 2 ^ K) (k : Nat) : concordancelaw2_CrcBursts.l0 (k + 1) l (P : Int) t (K : Int) (decide (low P 32 (8 * s.length - K) ≠ 0)) ((32 : Nat) : Int) = some true := by
  have hsl : s.length = l.length + 4 := by rw [hs, List.length_append]; rfl
  have hsb : isB s := by rw [hs]; exact sealed_isB hl
  have hQ := low_lt hP 32 (8 * s.length - K)
  simp only [concordancelaw2_CrcBursts.l0]
  rw [if_neg (by omega), open_f ht (by omega), Option.bind_some]
  by_cases hz : low P 32 (8 * s.length - K) = 0
  · rw [hz, Nat.zero_mul, Nat.xor_zero] at hn
    obtain rfl := numL_inj ht hsb hlen hn
    have ho := openL_seal l
    rw [← hs] at ho
    rw [ho, if_neg (by simpa using hz), if_pos rfl, if_pos rfl, awake_f]
    rfl
  · have hsum : sumN ones s = bitsN 32 ones := by
      rw [hs]
      exact (sealed_iff hl (tailL_isB _) rfl).1 rfl
    rw [burst_open hsb ht hlen (by omega) (by omega) hQ hz hsum hn, if_pos (by simpa using hz), if_pos rfl, if_pos (by rfl), awake_f]
    rfl
theorem bursts_l0 (hl : isB l) (hll : l.length ≤ 2000) (hs : s = l ++ tailL (moreN 0 l)) (hK : K < 8 * s.length) (hP : P < 4294967296) :
    ∀ (d i k : Nat) (t : List Int), i + d = 32 → d < k → isB t → t.length = s.length → numL t = numL s ^^^ low P i (8 * s.length - K) * 2 ^ K →
    concordancelaw2_CrcBursts.l0 k l (P : Int) t (K : Int) (decide (low P i (8 * s.length - K) ≠ 0)) (i : Int) = some true := by
  have hsl : s.length = l.length + 4 := by rw [hs, List.length_append]; rfl
  intro d
  induction d with
  | zero =>
    intro i k t h hk ht hlen hn
    obtain ⟨k, rfl⟩ : ∃ m, k = m + 1 := ⟨k - 1, by omega⟩
    obtain rfl : i = 32 := by omega
    exact bursts_end hl hll hs hK hP ht hlen hn k
  | succ d ih =>
    intro i k t h hk ht hlen hn
    obtain ⟨k, rfl⟩ : ∃ m, k = m + 1 := ⟨k - 1, by omega⟩
    have hi : i < 32 := by omega
    have hk' : d < k := by omega
    have h' : i + 1 + d = 32 := by omega
    have hK2 : K < 17000 := by omega
    have hT : t.length ≤ 2004 := by omega
    have e2 : ∀ _ : Unit, wrap64 ((i : Int) + 1) = ((i + 1 : Nat) : Int) := fun _ => by clear ih ht hn hs hl; rw [w64 (by omega) (by omega)]; omega
    have e3 : ∀ _ : Unit, wrap64 ((K : Int) + (i : Int)) = ((K + i : Nat) : Int) := fun _ => by clear ih ht hn hs hl; rw [w64 (by omega) (by omega)]; omega
    have e4 : ∀ _ : Unit, wrap64 (8 * (t.length : Int)) = ((8 * t.length : Nat) : Int) := fun _ => by clear ih ht hn hs hl; rw [w64 (by omega) (by omega)]; omega
    have hsh : ∀ _ : Unit, Go.bits .and .u32 (shr .u32 (P : Int) (i : Int)) 1 = ((P / 2 ^ i % 2 : Nat) : Int) := fun _ => by
      unfold shr
      rw [show IntKind.u32.bits = 32 from rfl, Int.toNat_natCast, Nat.min_eq_left (by omega), show ((2 : Int) ^ i) = ((2 ^ i : Nat) : Int) from by rw [Int.natCast_pow]; rfl, ← Int.natCast_ediv,
        show (1 : Int) = ((1 : Nat) : Int) from rfl, Go.u32_and_nat _ 1 (Nat.lt_of_le_of_lt (Nat.div_le_self _ _) hP) (by omega), Go.nat_mask1]
    simp only [concordancelaw2_CrcBursts.l0]
    rw [if_pos (by omega), if_pos (by omega), hsh ()]
    by_cases hbit : P / 2 ^ i % 2 = 1
    · rw [hbit, if_pos (by rfl), e3 (), e4 ()]
      by_cases hin : K + i < 8 * s.length
      · have hin2 : ((K + i : Nat) : Int) < ((8 * t.length : Nat) : Int) := by omega
        obtain ⟨hl1, hl2⟩ := low_one P (i := i) (R := 8 * s.length - K) (by omega) hbit
        have hj : (K + i) / 8 < t.length := by omega
        have e5 : Int.tdiv ((K + i : Nat) : Int) 8 = (((K + i) / 8 : Nat) : Int) := by rw [Int.tdiv_eq_ediv_of_nonneg (by omega)]; omega
        have e6 : Int.tmod ((K + i : Nat) : Int) 8 = (((K + i) % 8 : Nat) : Int) := by rw [Int.tmod_eq_emod_of_nonneg (by omega)]; omega
        have e7 : wrap64 (((K + i) / 8 : Nat) : Int) = (((K + i) / 8 : Nat) : Int) := by clear ih ht hn hs hl e5 e6; rw [w64 (by omega) (by omega)]
        have hb8 : (K + i) % 8 < 8 := Nat.mod_lt _ (by omega)
        have e8 : shl .u8 1 (((K + i) % 8 : Nat) : Int) = ((2 ^ ((K + i) % 8) : Nat) : Int) := by
          have hp : 2 ^ ((K + i) % 8) ≤ 2 ^ 7 := Nat.pow_le_pow_right (by omega) (by omega)
          unfold shl
          rw [show IntKind.u8.bits = 8 from rfl, Int.toNat_natCast, Nat.min_eq_left (by omega), Int.one_mul, show ((2 : Int) ^ ((K + i) % 8)) = ((2 ^ ((K + i) % 8) : Nat) : Int) from by rw [Int.natCast_pow]; rfl, Go.IntKind.wrap_u8]
          generalize 2 ^ ((K + i) % 8) = q at hp ⊢
          clear ih ht hn hs hl e5 e6 e7
          omega
        have hp2 : 2 ^ ((K + i) % 8) < 2 ^ 8 := Nat.pow_lt_pow_right (by omega) hb8
        have hx := ht t[(K + i) / 8] (List.getElem_mem hj)
        have hv : Go.bits .xor .u8 t[(K + i) / 8] ((2 ^ ((K + i) % 8) : Nat) : Int) = ((t[(K + i) / 8].toNat ^^^ 2 ^ ((K + i) % 8) : Nat) : Int) := by
          rw [Go.u8_xor _ _ hx.1 hx.2 (Int.natCast_nonneg _) (Int.ofNat_lt.2 hp2), Int.toNat_natCast]
        have hvl : t[(K + i) / 8].toNat ^^^ 2 ^ ((K + i) % 8) < 2 ^ 8 := Nat.xor_lt_two_pow (by clear hv e8 e5 e6 e7 hn ih hs hl; omega) hp2
        rw [if_pos hin2, e5, e6, e7, if_pos (Int.natCast_nonneg _), if_pos (Int.ofNat_lt.2 hj), if_pos (Int.natCast_nonneg _), rd_at t _ hj, e8, hv, Int.toNat_natCast, e2 ()]
        have hdec : true = decide (low P (i + 1) (8 * s.length - K) ≠ 0) := by simpa using hl2
        have hfin := ih (i + 1) k (t.set ((K + i) / 8) ((t[(K + i) / 8].toNat ^^^ 2 ^ ((K + i) % 8) : Nat) : Int)) h' hk'
        rw [← hdec] at hfin
        refine hfin ?_ ?_ ?_
        · intro y hy
          rcases List.mem_or_eq_of_mem_set hy with hy | rfl
          · exact ht y hy
          · exact ⟨Int.natCast_nonneg _, Int.ofNat_lt.2 hvl⟩
        · rw [List.length_set]
          exact hlen
        · rw [numL_turn t _ ((K + i) % 8) _ hj hb8 ht (by rw [List.getD_eq_getElem?_getD, List.getElem?_eq_getElem hj]; rfl), hn, hl1, Nat.xor_assoc]
          congr 1
          have h9 := Nat.shiftLeft_xor_distrib (a := low P i (8 * s.length - K)) (b := 2 ^ i) (i := K)
          simp only [Nat.shiftLeft_eq] at h9
          rw [h9, ← Nat.pow_add]
          congr 2
          clear h9 hdec hv hvl e5 e6 e7 e8 hn hl1
          omega
      · have hin2 : ¬ ((K + i : Nat) : Int) < ((8 * t.length : Nat) : Int) := by omega
        rw [if_neg hin2, e2 ()]
        rw [← low_past P (i := i) (R := 8 * s.length - K) (by omega)] at hn ⊢
        exact ih (i + 1) k t h' hk' ht hlen hn
    · have hb0 : P / 2 ^ i % 2 = 0 := by
        have := Nat.mod_lt (P / 2 ^ i) (show 0 < 2 from by decide)
        omega
      rw [hb0, if_neg (by decide), e2 ()]
      have hlo : low P (i + 1) (8 * s.length - K) = low P i (8 * s.length - K) := by
        rcases Nat.lt_or_ge i (8 * s.length - K) with hr | hr
        · exact low_none P hr hb0
        · exact low_past P hr
      rw [← hlo] at hn ⊢
      exact ih (i + 1) k t h' hk' ht hlen hn
end
theorem CrcBursts : concordancelaw2_CrcBursts.Pure := by
  intro l a1 a2 _ _ hb _ h2
  have hb : isB l := fun x hx => wf_u8 (hb x hx)
  have h2 := wf_u32 h2
  refine ⟨101, ?_⟩
  unfold concordancelaw2_CrcBursts.f
  by_cases hl : (l.length : Int) > 2000
  · rw [if_pos hl]
    simp only [concordancelaw2_CrcBursts.j0]
    rw [if_pos trivial, awake_f]
    rfl
  · rw [if_neg hl]
    simp only [concordancelaw2_CrcBursts.j0]
    by_cases hz : a2 = 0
    · rw [if_pos (by simpa using hz), awake_f]
      rfl
    · obtain ⟨P, rfl⟩ := Int.eq_ofNat_of_zero_le h2.1
      obtain ⟨s, hs⟩ : ∃ s, s = l ++ tailL (moreN 0 l) := ⟨_, rfl⟩
      have hsl : s.length = l.length + 4 := by rw [hs, List.length_append]; rfl
      have e1 : ∀ _ : Unit, wrap64 ((l.length : Int) + 4) = (s.length : Int) := fun _ => by rw [w64 (by omega) (by omega)]; omega
      have e8 : ∀ _ : Unit, wrap64 (8 * (s.length : Int)) = ((8 * s.length : Nat) : Int) := fun _ => by rw [w64 (by omega) (by omega)]; omega
      obtain ⟨K, hK, hKl⟩ : ∃ K : Nat, Int.tmod (Go.bits .and .i64 a1 16777215) ((8 * s.length : Nat) : Int) = (K : Int) ∧ K < 8 * s.length := by
        have e := and_low a1 24 (by omega)
        rw [show ((2 ^ 24 - 1 : Nat) : Int) = 16777215 from rfl, show ((2 ^ 24 : Nat) : Int) = 16777216 from rfl] at e
        rw [e, Int.tmod_eq_emod_of_nonneg (by omega)]
        have q0 := Int.emod_nonneg (a1 % 16777216) (b := ((8 * s.length : Nat) : Int)) (by omega)
        have q1 := Int.emod_lt_of_pos (a1 % 16777216) (b := ((8 * s.length : Nat) : Int)) (by omega)
        exact ⟨(a1 % 16777216 % ((8 * s.length : Nat) : Int)).toNat, by omega, by omega⟩
      rw [if_neg (by simpa using hz), seal_f hb (by omega), Option.bind_some, ← hs, e1 (), if_pos rfl, e8 (), if_neg (by omega), hK]
      have hP : P < 4294967296 := by omega
      have hfin := bursts_l0 (P := P) hb (by omega) hs hKl hP 32 0 100 s (by omega) (by omega) (by rw [hs]; exact sealed_isB hb) rfl (by rw [low_zero, Nat.zero_mul, Nat.xor_zero])
      rw [low_zero] at hfin
      exact hfin

end Go.Proofs.Ytgkdigaieelopaa.Pure
