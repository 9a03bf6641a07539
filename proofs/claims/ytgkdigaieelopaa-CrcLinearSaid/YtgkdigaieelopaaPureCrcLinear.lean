/- concordancelaw2.CrcLinear: what it computes is true, in plain words. -/
import Derived.Test.YtgkdigaieelopaaPCrcx13
import Derived.Test.YtgkdigaieelopaaCd
namespace Go.Proofs.Ytgkdigaieelopaa.Pure
open Go.RowKit Go.Proofs.Ytgkdigaieelopaa.PCrc Go.Proofs.YtgkdigaieelopaaW.PrintWords Go.Proofs.YtgkdigaieelopaaW.PrintMore Go.Proofs.Ytgkdigaieelopaa.Plain
open Go.Proofs.Ytgkdigaieelopaa.Hand (sum_f)

theorem xor4 (p q r s : Nat) : (p ^^^ q) ^^^ (r ^^^ s) = (p ^^^ r) ^^^ (q ^^^ s) := by
  rw [Nat.xor_assoc, ← Nat.xor_assoc q r s, Nat.xor_comm q r, Nat.xor_assoc r q s, ← Nat.xor_assoc]
theorem stepN_xor (n m c d : Nat) : stepN (n ^^^ m) (c ^^^ d) = stepN n c ^^^ stepN m d := by
  unfold stepN
  rw [xor4, bitsN_xor]
/-- Three rows laid over each other, byte by byte. -/
def over : List Int → List Int → List Int → List Int
  | a :: l, b :: m, c :: n => ((a.toNat ^^^ b.toNat ^^^ c.toNat : Nat) : Int) :: over l m n
  | _, _, _ => []
theorem over_length : ∀ (l m n : List Int), l.length = m.length → l.length = n.length → (over l m n).length = l.length
  | [], _, _, _, _ => rfl
  | a :: l, b :: m, c :: n, h1, h2 => by
    simp only [List.length_cons, Nat.add_right_cancel_iff] at h1 h2
    simp only [over, List.length_cons, over_length l m n h1 h2]
  | a :: l, [], _, h1, _ => by simp at h1
  | a :: l, b :: m, [], _, h2 => by simp at h2
theorem over_sum : ∀ (l m n : List Int) (x y z : Nat), l.length = m.length → l.length = n.length → sumN (x ^^^ y ^^^ z) (over l m n) = sumN x l ^^^ sumN y m ^^^ sumN z n
  | [], m, n, x, y, z, h1, h2 => by
    obtain rfl : m = [] := List.length_eq_zero_iff.1 h1.symm
    obtain rfl : n = [] := List.length_eq_zero_iff.1 h2.symm
    rfl
  | a :: l, b :: m, c :: n, x, y, z, h1, h2 => by
    simp only [List.length_cons, Nat.add_right_cancel_iff] at h1 h2
    have ih := over_sum l m n (stepN x a.toNat) (stepN y b.toNat) (stepN z c.toNat) h1 h2
    show sumN (stepN (x ^^^ y ^^^ z) (((a.toNat ^^^ b.toNat ^^^ c.toNat : Nat) : Int)).toNat) (over l m n) = sumN (stepN x a.toNat) l ^^^ sumN (stepN y b.toNat) m ^^^ sumN (stepN z c.toNat) n
    rw [Int.toNat_natCast, stepN_xor, stepN_xor, ih]
  | a :: l, [], _, _, _, _, h1, _ => by simp at h1
  | a :: l, b :: m, [], _, _, _, _, h2 => by simp at h2
theorem over_isB {l m n : List Int} (hl : isB l) (hm : isB m) (hn : isB n) : isB (over l m n) := by
  induction l generalizing m n with
  | nil => intro x hx; simp [over] at hx
  | cons a l ih =>
    cases m with
    | nil => intro x hx; simp [over] at hx
    | cons b m =>
      cases n with
      | nil => intro x hx; simp [over] at hx
      | cons c n =>
        intro x hx
        have ha := hl a (.head _)
        have hb := hm b (.head _)
        have hc := hn c (.head _)
        rcases List.mem_cons.1 hx with rfl | hx
        · have : a.toNat ^^^ b.toNat ^^^ c.toNat < 2 ^ 8 := Nat.xor_lt_two_pow (Nat.xor_lt_two_pow (by omega) (by omega)) (by omega)
          omega
        · exact ih (fun y hy => hl y (.tail _ hy)) (fun y hy => hm y (.tail _ hy)) (fun y hy => hn y (.tail _ hy)) x hx
theorem over_get : ∀ (l m n : List Int) (i : Nat) (hl : i < l.length) (hm : i < m.length) (hn : i < n.length), (over l m n)[i]? = some ((l[i].toNat ^^^ m[i].toNat ^^^ n[i].toNat : Nat) : Int)
  | a :: l, b :: m, c :: n, 0, _, _, _ => rfl
  | a :: l, b :: m, c :: n, i + 1, hl, hm, hn => by
    simp only [over, List.getElem?_cons_succ, List.getElem_cons_succ]
    exact over_get l m n i _ _ _
/-- A row that is filled from the front. -/
theorem fill_step (L : List Int) (d i : Nat) (h : i + (d + 1) = L.length) {v : Int} (hv : L[i]? = some v) : (L.take i ++ List.replicate (d + 1) (0 : Int)).set i v = L.take (i + 1) ++ List.replicate d 0 := by
  have hi : i < L.length := by omega
  obtain ⟨_, rfl⟩ := List.getElem?_eq_some_iff.1 hv
  have hl : (L.take i).length = i := by rw [List.length_take]; omega
  rw [List.set_append_right _ _ (by omega), hl, Nat.sub_self, List.replicate_succ, List.set_cons_zero, List.take_succ_eq_append_getElem hi, List.append_assoc]
  rfl

theorem lin_end {a b c : List Int} {N : Nat} (ha : isB a) (hb : isB b) (hc : isB c) (la : N ≤ a.length) (lb : N ≤ b.length) (lc : N ≤ c.length) :
    Go.bits .xor .u32 (Go.bits .xor .u32 (Go.bits .xor .u32 ((moreN 0 (a.take N) : Nat) : Int) ((moreN 0 (b.take N) : Nat) : Int)) ((moreN 0 (c.take N) : Nat) : Int)) ((moreN 0 (over (a.take N) (b.take N) (c.take N)) : Nat) : Int) = 0 := by
  have q1 := moreN_lt (s := 0) (by omega) (isB_take ha N)
  have q2 := moreN_lt (s := 0) (by omega) (isB_take hb N)
  have q3 := moreN_lt (s := 0) (by omega) (isB_take hc N)
  have q4 := moreN_lt (s := 0) (by omega) (over_isB (isB_take ha N) (isB_take hb N) (isB_take hc N))
  have q5 : moreN 0 (a.take N) ^^^ moreN 0 (b.take N) < 4294967296 := Nat.xor_lt_two_pow (n := 32) q1 q2
  have q6 : moreN 0 (a.take N) ^^^ moreN 0 (b.take N) ^^^ moreN 0 (c.take N) < 4294967296 := Nat.xor_lt_two_pow (n := 32) q5 q3
  rw [Go.u32_xor_nat _ _ q1 q2, Go.u32_xor_nat _ _ q5 q3, Go.u32_xor_nat _ _ q6 q4]
  have la' : (a.take N).length = N := by rw [List.length_take]; omega
  have lb' : (b.take N).length = N := by rw [List.length_take]; omega
  have lc' : (c.take N).length = N := by rw [List.length_take]; omega
  have hs := over_sum (a.take N) (b.take N) (c.take N) ones ones ones (by omega) (by omega)
  rw [show ones ^^^ ones ^^^ ones = ones from by decide] at hs
  simp only [moreN0]
  rw [hs]
  generalize sumN ones (a.take N) = A
  generalize sumN ones (b.take N) = B
  generalize sumN ones (c.take N) = C
  have e : (A ^^^ ones ^^^ (B ^^^ ones) ^^^ (C ^^^ ones) ^^^ (A ^^^ B ^^^ C ^^^ ones)) = 0 := by
    rw [xor4 A ones B ones, Nat.xor_self, Nat.xor_zero, ← Nat.xor_assoc (A ^^^ B) C ones, Nat.xor_self]
  rw [e]
  rfl
theorem lin_l0 {a b c O : List Int} {N : Nat} (hN : N ≤ 2000) (ha : isB a) (hb : isB b) (hc : isB c) (la : N ≤ a.length) (lb : N ≤ b.length) (lc : N ≤ c.length) (lo : O.length = N) (hob : isB O)
    (hget : ∀ (i : Nat) (h1 : i < a.length) (h2 : i < b.length) (h3 : i < c.length), i < N → O[i]? = some ((a[i].toNat ^^^ b[i].toNat ^^^ c[i].toNat : Nat) : Int))
    (hend : ∀ _ : Unit, Go.bits .xor .u32 (Go.bits .xor .u32 (Go.bits .xor .u32 ((moreN 0 (a.take N) : Nat) : Int) ((moreN 0 (b.take N) : Nat) : Int)) ((moreN 0 (c.take N) : Nat) : Int)) ((moreN 0 O : Nat) : Int) = 0) :
    ∀ (d i k : Nat), i + d = N → d < k → concordancelaw2_CrcLinear.l0 k a b c (N : Int) (O.take i ++ List.replicate d 0) (i : Int) = some true := by
  have la' : (a.take N).length = N := by rw [List.length_take]; omega
  have lb' : (b.take N).length = N := by rw [List.length_take]; omega
  have lc' : (c.take N).length = N := by rw [List.length_take]; omega
  intro d
  induction d with
  | zero =>
    intro i k h hk
    obtain ⟨k, rfl⟩ : ∃ m, k = m + 1 := ⟨k - 1, by omega⟩
    obtain rfl : i = N := by omega
    simp only [concordancelaw2_CrcLinear.l0]
    rw [List.take_of_length_le (by omega), List.replicate_zero, List.append_nil, if_neg (by omega), if_pos (by omega), if_pos (by omega), Int.toNat_natCast, sum_f (isB_take ha _) (by omega), Option.bind_some, if_pos (by omega), sum_f (isB_take hb _) (by omega), Option.bind_some,
      if_pos (by omega), sum_f (isB_take hc _) (by omega), Option.bind_some, sum_f hob (by omega), Option.bind_some, if_pos (hend ()), awake_f]
    rfl
  | succ d ih =>
    intro i k h hk
    obtain ⟨k, rfl⟩ : ∃ m, k = m + 1 := ⟨k - 1, by omega⟩
    have hia : i < a.length := by omega
    have hib : i < b.length := by omega
    have hic : i < c.length := by omega
    have p0 : i < N := by omega
    have p1 : (i : Int) < (N : Int) := by omega
    have p2 : (0 : Int) ≤ (i : Int) := by omega
    have p3 : (i : Int) < (a.length : Int) := by omega
    have p4 : (i : Int) < (b.length : Int) := by omega
    have p5 : (i : Int) < (c.length : Int) := by omega
    have p6 : i + 1 + d = N := by omega
    have p7 : d < k := by omega
    have p8 : i < (a.take N).length := by omega
    have p9 : i < (b.take N).length := by omega
    have p10 : i < (c.take N).length := by omega
    have p11 : i + (d + 1) = O.length := by omega
    have xa := ha a[i] (List.getElem_mem hia)
    have xb := hb b[i] (List.getElem_mem hib)
    have xc := hc c[i] (List.getElem_mem hic)
    have q5 : a[i].toNat ^^^ b[i].toNat < 256 := Nat.xor_lt_two_pow (n := 8) (by omega) (by omega)
    have hx : Go.bits .xor .u8 (Go.bits .xor .u8 a[i] b[i]) c[i] = ((a[i].toNat ^^^ b[i].toNat ^^^ c[i].toNat : Nat) : Int) := by
      rw [Go.u8_xor _ _ xa.1 xa.2 xb.1 xb.2, Go.u8_xor _ _ (by omega) (by omega) xc.1 xc.2, Int.toNat_natCast]
    have e2 : wrap64 ((i : Int) + 1) = ((i + 1 : Nat) : Int) := by
      have hi2 : i < 2000 := Nat.lt_of_lt_of_le p0 hN
      clear hx q5 xa xb xc lo la' lb' lc' p1 p3 p4 p5 p6 p8 p9 p10 p11 hia hib hic la lb lc h
      rw [w64 (by omega) (by omega)]
      omega
    have hg := hget i hia hib hic p0
    have hlen : (O.take i ++ List.replicate (d + 1) (0 : Int)).length = N := by
      have hiN : i ≤ N := Nat.le_trans (Nat.le_add_right i (d + 1)) (Nat.le_of_eq h)
      rw [List.length_append, List.length_take, List.length_replicate, lo, Nat.min_eq_left hiN]
      exact h
    simp only [concordancelaw2_CrcLinear.l0]
    rw [if_pos p1, if_pos p2, if_pos p3, if_pos p4, if_pos p5, hlen, if_pos p1, rd_at a i hia, rd_at b i hib, rd_at c i hic, hx, Int.toNat_natCast, e2, fill_step _ d i p11 hg]
    exact ih (i + 1) k p6 p7
theorem CrcLinear : concordancelaw2_CrcLinear.Pure := by
  intro a b c _ _ ha _ _ hb _ _ hc
  have ha : isB a := fun x hx => wf_u8 (ha x hx)
  have hb : isB b := fun x hx => wf_u8 (hb x hx)
  have hc : isB c := fun x hx => wf_u8 (hc x hx)
  refine ⟨3000, ?_⟩
  unfold concordancelaw2_CrcLinear.f
  obtain ⟨N, hm, hN, la, lb, lc⟩ : ∃ N : Nat, mn (mn (mn (a.length : Int) (b.length : Int)) (c.length : Int)) 2000 = (N : Int) ∧ N ≤ 2000 ∧ N ≤ a.length ∧ N ≤ b.length ∧ N ≤ c.length := by
    refine ⟨min (min (min a.length b.length) c.length) 2000, ?_, by omega, by omega, by omega, by omega⟩
    unfold mn
    (repeat' split) <;> omega
  rw [hm, if_pos (by omega), if_pos (by omega), Int.toNat_natCast]
  have la' : (a.take N).length = N := by rw [List.length_take]; omega
  have lb' : (b.take N).length = N := by rw [List.length_take]; omega
  have lc' : (c.take N).length = N := by rw [List.length_take]; omega
  exact lin_l0 (O := over (a.take N) (b.take N) (c.take N)) hN ha hb hc la lb lc (by rw [over_length _ _ _ (by rw [la', lb']) (by rw [la', lc']), la']) (over_isB (isB_take ha N) (isB_take hb N) (isB_take hc N)) (fun i h1 h2 h3 hi => by
    have hg := over_get (a.take N) (b.take N) (c.take N) i (by rw [la']; exact hi) (by rw [lb']; exact hi) (by rw [lc']; exact hi)
    simpa only [List.getElem_take] using hg) (fun _ => lin_end ha hb hc la lb lc) N 0 3000 (Nat.zero_add N) (by omega)

end Go.Proofs.Ytgkdigaieelopaa.Pure
