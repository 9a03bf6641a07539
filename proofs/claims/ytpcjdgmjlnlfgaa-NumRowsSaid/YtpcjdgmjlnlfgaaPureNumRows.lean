/- concordancelaw1.NumRows: what it computes is true, in plain words. -/
import Derived.Test.YtpcjdgmjlnlfgaaPNumx22
import Derived.Test.YtpcjdgmjlnlfgaaPc
namespace Go.Proofs.Ytpcjdgmjlnlfgaa.Pure
open Go.RowKit Go.Proofs.Ytpcjdgmjlnlfgaa.PNum Go.Proofs.YtpcjdgmjlnlfgaaW.PrintWords Go.Proofs.YtpcjdgmjlnlfgaaW.PrintLast Go.Proofs.YtpcjdgmjlnlfgaaW.PrintMore Go.Proofs.Ytpcjdgmjlnlfgaa.Plain
open Go.Proofs.Ytpcjdgmjlnlfgaa.Hand (items itemsF toldF)

theorem rd_get {l : List Int} {i : Nat} {x : Int} (h : l[i]? = some x) : rd l (i : Int) = x := by
  unfold rd
  rw [Int.toNat_natCast, List.getD_eq_getElem?_getD, h]
  rfl
/-- The ends of the encodings of the first numbers. -/
def ends (ns : List Int) (m : Nat) : List Int := (List.range m).map fun j => (((encsN (ns.take (j + 1))).length : Nat) : Int)
theorem ends_length (ns : List Int) (m : Nat) : (ends ns m).length = m := by simp [ends]
theorem ends_rd (ns : List Int) (m i : Nat) (h : i < m) : rd (ends ns m) (i : Int) = (((encsN (ns.take (i + 1))).length : Nat) : Int) := by
  apply rd_get
  simp [ends, h]
theorem take_len_mono (ns : List Int) (i m : Nat) (h : i ≤ m) : (encsN (ns.take i)).length ≤ (encsN (ns.take m)).length := by
  have e : ns.take m = ns.take i ++ (ns.take m).drop i := by
    conv => lhs; rw [← List.take_append_drop i (ns.take m)]
    rw [List.take_take, Nat.min_eq_left h]
  rw [e, encsN_append, List.length_append]
  omega

section
variable (ns : List Int) (m c : Nat)
theorem rows_l2 (x6 x9 x10 : List Int) (j : Nat) (hj : j ≤ m) (hm : m ≤ 40) (hml : m ≤ ns.length) (h6 : x6 = ends ns m) (h9l : x9.length = j) (h10l : x10.length = j)
    (h9 : ∀ i, i < j → rd x9 (i : Int) = (((encsN (ns.take i)).length : Nat) : Int)) (h10 : ∀ i, i < j → rd x10 (i : Int) = rd ns (i : Int)) :
    ∀ (d i k : Nat), i + d = j → d + 22 ≤ k → concordancelaw1_NumRows.l2 k ns x6 x9 x10 (j : Int) (i : Int) = some true := by
  intro d
  induction d with
  | zero =>
    intro i k h hk
    obtain ⟨k, rfl⟩ : ∃ m, k = m + 1 := ⟨k - 1, by omega⟩
    simp only [concordancelaw1_NumRows.l2]
    rw [if_neg (by omega), awake_tells (by omega)]
    rfl
  | succ d ih =>
    intro i k h hk
    obtain ⟨k, rfl⟩ : ∃ m, k = m + 1 := ⟨k - 1, by omega⟩
    simp only [concordancelaw1_NumRows.l2]
    have e2 : wrap64 ((i : Int) + 1) = ((i + 1 : Nat) : Int) := by rw [w64 (by omega) (by omega)]; omega
    rw [if_pos (by omega), if_pos (by omega), if_pos (by omega), if_pos (by omega), if_pos (h10 i (by omega)), e2]
    by_cases h0 : (i : Int) > 0
    · have e3 : wrap64 ((i : Int) - 1) = ((i - 1 : Nat) : Int) := by rw [w64 (by omega) (by omega)]; omega
      rw [if_pos h0, if_pos (by omega), e3, if_pos (by omega), h6, ends_length, if_pos (by omega), h9 i (by omega), ends_rd ns m (i - 1) (by omega), show i - 1 + 1 = i from by omega, if_pos rfl, ← h6]
      exact ih (i + 1) k (by omega) (by omega)
    · rw [if_neg h0]
      exact ih (i + 1) k (by omega) (by omega)
theorem rows_j3 (x6 x9 x10 : List Int) (j : Nat) (hj : j ≤ m) (hm : m ≤ 40) (hml : m ≤ ns.length) (h6 : x6 = ends ns m) (h9l : x9.length = j) (h10l : x10.length = j)
    (h9 : ∀ i, i < j → rd x9 (i : Int) = (((encsN (ns.take i)).length : Nat) : Int)) (h10 : ∀ i, i < j → rd x10 (i : Int) = rd ns (i : Int)) {k : Nat} (hk : 70 ≤ k) :
    concordancelaw1_NumRows.j3 k ns x6 x9 x10 (j : Int) = some true := by
  obtain ⟨k, rfl⟩ : ∃ m, k = m + 1 + 1 := ⟨k - 2, by omega⟩
  simp only [concordancelaw1_NumRows.j3, concordancelaw1_NumRows.j4]
  rw [if_pos (by omega), h9l, bne_self_eq_false, if_neg (by decide)]
  exact rows_l2 ns m x6 x9 x10 j hj hm hml h6 h9l h10l h9 h10 j 0 k (by omega) (by omega)
theorem rows_l1 (x6 x9 x10 : List Int) (j : Nat) (hj : j ≤ m) (hm : m ≤ 40) (hml : m ≤ ns.length) (h6 : x6 = ends ns m) (h9l : x9.length = j) (h10l : x10.length = j)
    (h9 : ∀ i, i < j → rd x9 (i : Int) = (((encsN (ns.take i)).length : Nat) : Int)) (h10 : ∀ i, i < j → rd x10 (i : Int) = rd ns (i : Int))
    (hfit : ∀ i, i < j → (encsN (ns.take (i + 1))).length ≤ c) (hnext : j < m → c < (encsN (ns.take (j + 1))).length) :
    ∀ (d i k : Nat), i + d = j → d + 72 ≤ k → concordancelaw1_NumRows.l1 k ns x6 (c : Int) x9 x10 (i : Int) = some true := by
  intro d
  induction d with
  | zero =>
    intro i k h hk
    obtain ⟨k, rfl⟩ : ∃ m, k = m + 1 := ⟨k - 1, by omega⟩
    obtain rfl : i = j := by omega
    simp only [concordancelaw1_NumRows.l1]
    have hfin := rows_j3 ns m x6 x9 x10 i hj hm hml h6 h9l h10l h9 h10 (k := k) (by omega)
    have hl : x6.length = m := by rw [h6, ends_length]
    by_cases hi : i < m
    · rw [if_pos (by omega), if_pos (by omega), if_neg]
      · exact hfin
      · have := hnext hi
        rw [h6, ends_rd ns m i hi]
        omega
    · rw [if_neg (by omega)]
      exact hfin
  | succ d ih =>
    intro i k h hk
    obtain ⟨k, rfl⟩ : ∃ m, k = m + 1 := ⟨k - 1, by omega⟩
    simp only [concordancelaw1_NumRows.l1]
    have e2 : wrap64 ((i : Int) + 1) = ((i + 1 : Nat) : Int) := by rw [w64 (by omega) (by omega)]; omega
    have hl : x6.length = m := by rw [h6, ends_length]
    rw [if_pos (by omega), if_pos (by omega), if_pos, e2]
    · exact ih (i + 1) k (by omega) (by omega)
    · have := hfit i (by omega)
      rw [h6, ends_rd ns m i (by omega)]
      omega
end
theorem and65535 (a : Int) : Go.bits .and .i64 a 65535 = a % 65536 := by
  show IntKind.i64.wrap ((BitVec.ofInt 64 a &&& BitVec.ofInt 64 65535).toNat : Int) = _
  have e : (BitVec.ofInt 64 a &&& BitVec.ofInt 64 65535).toNat = (a % 18446744073709551616).toNat % 65536 := by
    rw [BitVec.toNat_and, BitVec.toNat_ofInt]
    exact Nat.and_two_pow_sub_one_eq_mod _ 16
  rw [e, Go.IntKind.wrap_i64]
  omega
theorem rows_j1 (ns : List Int) (hns : isN ns) (m : Nat) (hm : m ≤ 40) (hml : m ≤ ns.length) (a : Int) {k : Nat} (hk : 120 ≤ k) :
    concordancelaw1_NumRows.j1 k ns a (encsN (ns.take m)) (ends ns m) = some true := by
  obtain ⟨k, rfl⟩ : ∃ m, k = m + 1 := ⟨k - 1, by omega⟩
  have hnm : isN (ns.take m) := fun x hx => hns x (List.mem_of_mem_take hx)
  have hL := encsN_len hnm
  have hLm : (ns.take m).length = m := by rw [List.length_take]; omega
  obtain ⟨L, hLe⟩ : ∃ L, L = (encsN (ns.take m)).length := ⟨_, rfl⟩
  have hw : wrap64 (((encsN (ns.take m)).length : Int) + 1) = (L : Int) + 1 := by rw [w64 (by omega) (by omega)]; omega
  simp only [concordancelaw1_NumRows.j1]
  rw [hw, and65535, ← hLe]
  have htm : Int.tmod (a % 65536) ((L : Int) + 1) = (a % 65536) % ((L : Int) + 1) := Int.tmod_eq_emod_of_nonneg (by omega)
  rw [htm]
  have h0 : 0 ≤ (a % 65536) % ((L : Int) + 1) := Int.emod_nonneg _ (by omega)
  have h1 : (a % 65536) % ((L : Int) + 1) < (L : Int) + 1 := Int.emod_lt_of_pos _ (by omega)
  generalize (a % 65536) % ((L : Int) + 1) = c at h0 h1 ⊢
  obtain ⟨c, rfl⟩ := Int.eq_ofNat_of_zero_le h0
  rw [if_neg (by omega), if_pos h0, if_pos (by omega), Int.toNat_natCast]
  have hlt : ((encsN (ns.take m)).take c).length = c := by rw [List.length_take]; omega
  have hcn := cnt_le (ns.take m) c
  have hcl : cnt (ns.take m) c ≤ c := by
    rcases Nat.eq_zero_or_pos (cnt (ns.take m) c) with h | h
    · omega
    · have := cnt_fits (ns.take m) c (cnt (ns.take m) c - 1) (by omega)
      have h2 : ∀ l : List Int, l.length ≤ (encsN l).length := by
        intro l
        induction l with
        | nil => simp [encsN]
        | cons n l ih =>
          have := encN_pos n.toNat
          simp only [encsN, List.length_append, List.length_cons]
          omega
      have h3 := h2 ((ns.take m).take (cnt (ns.take m) c - 1 + 1))
      rw [List.length_take] at h3
      omega
  have ⟨i1, i2⟩ := items_cut (ns.take m) hnm c (c + 1) 0 (by omega) (by omega)
  have ht : concordancelaw1_told.f ((encsN (ns.take m)).take c) 100 = some ((itemsF (c + 1) 0 ((encsN (ns.take m)).take c)).map (·.1), (itemsF (c + 1) 0 ((encsN (ns.take m)).take c)).map (·.2)) := by
    unfold concordancelaw1_told.f toldF items
    rw [hlt, if_pos (by omega), List.take_of_length_le (by rw [i1]; show _ ≤ 100; omega)]
  rw [ht, Option.bind_some]
  dsimp only
  have hmin : ∀ i, i ≤ m → (ns.take m).take i = ns.take i := fun i hi => by rw [List.take_take, Nat.min_eq_left hi]
  refine rows_l1 ns m c (ends ns m) _ _ (cnt (ns.take m) c) (by omega) hm hml rfl (by rw [List.length_map, i1]) (by rw [List.length_map, i1]) (fun i hi => ?_) (fun i hi => ?_) (fun i hi => ?_) (fun hj => ?_) (cnt (ns.take m) c) 0 k (by omega) (by omega)
  · apply rd_get
    rw [List.getElem?_map, i2 i hi, hmin i (by omega)]
    simp
  · apply rd_get
    rw [List.getElem?_map, i2 i hi]
    simp only [Option.map_some]
    unfold rd
    rw [Int.toNat_natCast]
    congr 1
    rw [List.getD_eq_getElem?_getD, List.getD_eq_getElem?_getD, List.getElem?_take, if_pos (by omega)]
  · have := cnt_fits (ns.take m) c i hi
    rwa [hmin (i + 1) (by omega)] at this
  · have := cnt_next (ns.take m) c (by omega)
    rwa [hmin _ (by omega)] at this
theorem rows_l0 (ns : List Int) (hns : isN ns) (a : Int) : ∀ (d i k : Nat), i + d = min 40 ns.length → d + 121 ≤ k →
    concordancelaw1_NumRows.l0 k ns a (encsN (ns.take i)) (ends ns i) (i : Int) = some true := by
  intro d
  induction d with
  | zero =>
    intro i k h hk
    obtain ⟨k, rfl⟩ : ∃ m, k = m + 1 := ⟨k - 1, by omega⟩
    have hj := rows_j1 ns hns i (by omega) (by omega) a (k := k) (by omega)
    simp only [concordancelaw1_NumRows.l0]
    by_cases h1 : (i : Int) < (ns.length : Int)
    · rw [if_pos h1, if_neg (by omega)]
      exact hj
    · rw [if_neg h1]
      exact hj
  | succ d ih =>
    intro i k h hk
    obtain ⟨k, rfl⟩ : ∃ m, k = m + 1 := ⟨k - 1, by omega⟩
    have hlt : i < ns.length := by omega
    have hnm : isN (ns.take i) := fun x hx => hns x (List.mem_of_mem_take hx)
    have hL := encsN_len hnm
    have hLm : (ns.take i).length = i := by rw [List.length_take]; omega
    have hx := hns ns[i] (List.getElem_mem hlt)
    have e2 : wrap64 ((i : Int) + 1) = ((i + 1 : Nat) : Int) := by rw [w64 (by omega) (by omega)]; omega
    have es : encsN (ns.take i) ++ encN ns[i].toNat = encsN (ns.take (i + 1)) := by
      rw [List.take_succ_eq_append_getElem hlt, encsN_append]
      simp [encsN]
    have ee : ends ns i ++ [(((encsN (ns.take (i + 1))).length : Nat) : Int)] = ends ns (i + 1) := by
      simp [ends, List.range_succ]
    simp only [concordancelaw1_NumRows.l0]
    rw [if_pos (by omega), if_pos (by omega), if_pos (by omega), rd_at ns i hlt, put_tells (by omega) hx.1 hx.2, Option.bind_some, ends_length, if_pos (by omega), e2, es, ee]
    exact ih (i + 1) k (by omega) (by omega)
theorem NumRows : concordancelaw1_NumRows.Pure := by
  intro l0 a1 _ _ hb _
  have hb : isN l0 := fun x hx => wf_u64 (hb x hx)
  exact ⟨200, rows_l0 l0 hb a1 (min 40 l0.length) 0 200 (by omega) (by omega)⟩

end Go.Proofs.Ytpcjdgmjlnlfgaa.Pure
