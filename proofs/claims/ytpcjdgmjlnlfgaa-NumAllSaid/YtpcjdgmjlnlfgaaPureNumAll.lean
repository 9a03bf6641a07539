/- concordancelaw1.NumAll: what it computes is true, in plain words. -/
import Derived.Test.YtpcjdgmjlnlfgaaPNumx21
import Derived.Test.YtpcjdgmjlnlfgaaPc
namespace Go.Proofs.Ytpcjdgmjlnlfgaa.Pure
open Go.RowKit Go.Proofs.Ytpcjdgmjlnlfgaa.PNum Go.Proofs.YtpcjdgmjlnlfgaaW.PrintWords Go.Proofs.YtpcjdgmjlnlfgaaW.PrintLast Go.Proofs.YtpcjdgmjlnlfgaaW.PrintMore Go.Proofs.Ytpcjdgmjlnlfgaa.Plain
open Go.Proofs.Ytpcjdgmjlnlfgaa.Hand (items itemsF toldF)

theorem same_l0 (l : List Int) (hl : l.length ≤ 1000) : ∀ (d i k : Nat), i + d = l.length → d < k → concordancelaw1_same.l0 k l l (i : Int) = some true := by
  intro d
  induction d with
  | zero =>
    intro i k h hk
    obtain ⟨k, rfl⟩ : ∃ m, k = m + 1 := ⟨k - 1, by omega⟩
    simp only [concordancelaw1_same.l0]
    rw [if_neg (by omega)]
  | succ d ih =>
    intro i k h hk
    obtain ⟨k, rfl⟩ : ∃ m, k = m + 1 := ⟨k - 1, by omega⟩
    simp only [concordancelaw1_same.l0]
    have e2 : wrap64 ((i : Int) + 1) = ((i + 1 : Nat) : Int) := by rw [w64 (by omega) (by omega)]; omega
    rw [if_pos (by omega), if_pos (by omega), if_pos (by omega), if_pos trivial, e2]
    exact ih (i + 1) k (by omega) (by omega)
theorem same_tells (l : List Int) (hl : l.length ≤ 1000) {k : Nat} (hk : 1001 ≤ k) : concordancelaw1_same.f k l l = some true := by
  unfold concordancelaw1_same.f
  rw [if_pos rfl]
  exact same_l0 l hl l.length 0 k (by omega) (by omega)
theorem items_len (k : Nat) : ∀ (l : List Int) (a : Int), isB l → l.length ≤ 1000 → (itemsF k a l).length ≤ l.length := by
  induction k with
  | zero => intro l a _ _; simp [itemsF]
  | succ k ih =>
    intro l a hb hl
    rw [itemsF_eq hb]
    split
    · rename_i h
      have hs := takeT_size hb (by omega) h
      have := ih (l.drop (takeT l).2.1.toNat) (a + (takeT l).2.1) (isB_drop hb _) (by rw [List.length_drop]; omega)
      rw [List.length_drop] at this
      rw [List.length_cons]
      omega
    · simp
theorem and255 (a : Int) : Go.bits .and .i64 a 255 = a % 256 := by
  show IntKind.i64.wrap ((BitVec.ofInt 64 a &&& BitVec.ofInt 64 255).toNat : Int) = _
  have e : (BitVec.ofInt 64 a &&& BitVec.ofInt 64 255).toNat = (a % 18446744073709551616).toNat % 256 := by
    rw [BitVec.toNat_and, BitVec.toNat_ofInt]
    exact Nat.and_two_pow_sub_one_eq_mod _ 8
  rw [e, Go.IntKind.wrap_i64]
  omega
theorem rd_take (l : List Int) (n i : Nat) (h : i < n) : rd (l.take n) (i : Int) = rd l (i : Int) := by
  unfold rd
  rw [Int.toNat_natCast, List.getD_eq_getElem?_getD, List.getD_eq_getElem?_getD, List.getElem?_take, if_pos h]
theorem all_l1 (l : List Int) (n : Nat) (hl : l.length ≤ 1000) (hn : n ≤ l.length) : ∀ (d i k : Nat), i + d = l.length → d + 22 ≤ k →
    concordancelaw1_NumAll.l1 k l l (l.take n) (n : Int) (i : Int) = some true := by
  intro d
  induction d with
  | zero =>
    intro i k h hk
    obtain ⟨k, rfl⟩ : ∃ m, k = m + 1 := ⟨k - 1, by omega⟩
    simp only [concordancelaw1_NumAll.l1]
    rw [if_neg (by omega), awake_tells (by omega)]
    rfl
  | succ d ih =>
    intro i k h hk
    obtain ⟨k, rfl⟩ : ∃ m, k = m + 1 := ⟨k - 1, by omega⟩
    simp only [concordancelaw1_NumAll.l1]
    have e2 : wrap64 ((i : Int) + 1) = ((i + 1 : Nat) : Int) := by rw [w64 (by omega) (by omega)]; omega
    have hlt : (l.take n).length = n := by rw [List.length_take]; omega
    have hr := ih (i + 1) k (by omega) (by omega)
    rw [if_pos (by omega), if_pos (by omega), if_pos (by omega), if_pos trivial, e2, hlt]
    by_cases hi : (i : Int) < (n : Int)
    · rw [if_pos hi, if_pos hi, if_pos (rd_take l n i (by omega))]
      exact hr
    · rw [if_neg hi]
      exact hr
theorem all_j1 (l : List Int) (hb : isB l) (hl : l.length ≤ 1000) (a : Int) {k : Nat} (hk : 2000 ≤ k) :
    concordancelaw1_NumAll.j1 k l a ((items l).map (·.1)) ((items l).map (·.2)) = some true := by
  obtain ⟨k, rfl⟩ : ∃ m, k = m + 1 + 1 := ⟨k - 2, by omega⟩
  have hi : (items l).length ≤ 1000 := Nat.le_trans (items_len _ l 0 hb hl) hl
  simp only [concordancelaw1_NumAll.j1, concordancelaw1_NumAll.j2]
  rw [and255]
  obtain ⟨c, hc, hc1⟩ : ∃ c : Nat, a % 256 = (c : Int) ∧ c < 256 := ⟨(a % 256).toNat, by omega, by omega⟩
  rw [hc]
  have ht : ∀ q : Nat, concordancelaw1_told.f l (q : Int) = some (((items l).take q).map (·.1), ((items l).take q).map (·.2)) := by
    intro q
    unfold concordancelaw1_told.f toldF
    rw [if_pos (by omega), Int.toNat_natCast]
  have ht2 := ht 2000
  rw [List.take_of_length_le (by omega)] at ht2
  have hlen1 : ((items l).map (·.1)).length = (items l).length := List.length_map _
  have hlen2 : ((items l).map (·.2)).length = (items l).length := List.length_map _
  have hm : mn (c : Int) (((items l).map (·.1)).length : Int) = ((min c (items l).length : Nat) : Int) := by
    rw [hlen1]
    unfold mn
    split <;> omega
  have e1 : ((items l).map (·.1)).take (min c (items l).length) = ((items l).take c).map (·.1) := by
    rw [List.map_take]
    rcases Nat.le_total c (items l).length with h | h
    · rw [Nat.min_eq_left h]
    · rw [Nat.min_eq_right h, List.take_of_length_le (by omega), List.take_of_length_le (by omega)]
  have e2 : ((items l).take c).map (·.2) = ((items l).map (·.2)).take (min c (items l).length) := by
    rw [List.map_take]
    rcases Nat.le_total c (items l).length with h | h
    · rw [Nat.min_eq_left h]
    · rw [Nat.min_eq_right h, List.take_of_length_le (by omega), List.take_of_length_le (by omega)]
  have hl2 : (((items l).take c).map (·.2)).length = min c (items l).length := by rw [List.length_map, List.length_take]
  rw [show (2000 : Int) = ((2000 : Nat) : Int) from rfl, ht2, Option.bind_some, ht c, Option.bind_some]
  dsimp only
  rw [same_tells _ (by omega) (by omega), Option.bind_some, if_pos rfl, if_pos rfl, hm, if_pos (by omega), hlen1, if_pos (by omega), Int.toNat_natCast, e1, same_tells _ (by rw [List.length_map, List.length_take]; omega) (by omega), Option.bind_some, if_pos rfl,
    hl2, bne_self_eq_false, if_neg (by decide), e2]
  exact all_l1 _ _ (by omega) (by omega) ((items l).map (·.2)).length 0 k (by omega) (by omega)
theorem takeT_nil : takeT [] = (0, 0, 4) := rfl
attribute [local irreducible] Plain.takeT Plain.takeL itemsF
theorem all_l0 (l : List Int) (hb : isB l) (hl : l.length ≤ 1000) (a : Int) (X Y : List Int) {K : Nat} (hend : ∀ k, K ≤ k → concordancelaw1_NumAll.j1 k l a X Y = some true) :
    ∀ (q p k : Nat) (x y : List Int), p ≤ l.length → l.length - p < q → x.length ≤ p → y.length ≤ p → x ++ (itemsF q p (l.drop p)).map (·.1) = X → y ++ (itemsF q p (l.drop p)).map (·.2) = Y → K + q + 21 ≤ k →
    concordancelaw1_NumAll.l0 k l a x y (p : Int) = some true := by
  intro q
  induction q with
  | zero => intro p k x y hp hq; omega
  | succ q ih =>
    intro p k x y hp hq hx hy eX eY hk
    obtain ⟨k, rfl⟩ : ∃ m, k = m + 1 := ⟨k - 1, by omega⟩
    simp only [concordancelaw1_NumAll.l0]
    have hd := isB_drop hb p
    have hx1 : x.length < 17592186044416 := Nat.lt_of_le_of_lt hx (Nat.lt_of_le_of_lt hp (Nat.lt_of_le_of_lt hl (by decide)))
    have hy1 : y.length < 17592186044416 := Nat.lt_of_le_of_lt hy (Nat.lt_of_le_of_lt hp (Nat.lt_of_le_of_lt hl (by decide)))
    have hdl : (l.drop p).length = l.length - p := List.length_drop ..
    rw [itemsF_eq hd] at eX eY
    by_cases h : (p : Int) < (l.length : Int)
    · rw [if_pos h, if_pos (by omega), if_pos (by omega), Int.toNat_natCast, ref_take_nums hd (by omega) (by omega), Option.bind_some]
      by_cases he : (takeT (l.drop p)).2.2 = 0
      · have hs := takeT_size hd (by omega) he
        rw [if_pos he] at eX eY
        generalize takeT (l.drop p) = t at he hs eX eY ⊢
        obtain ⟨n, s, e⟩ := t
        dsimp only at he hs eX eY ⊢
        rw [hdl] at hs
        obtain ⟨s, rfl⟩ := Int.eq_ofNat_of_zero_le (a := s) (by omega)
        have e2 : wrap64 ((p : Int) + (s : Int)) = ((p + s : Nat) : Int) := by rw [w64 (by omega) (by omega)]; omega
        rw [if_pos he, if_pos hx1, if_pos hy1, e2]
        rw [Int.toNat_natCast, List.drop_drop, show (p : Int) + (s : Int) = ((p + s : Nat) : Int) from by omega] at eX eY
        clear e2 hx1 hy1 he h
        refine ih (p + s) k _ _ (by omega) (by omega) (by rw [List.length_append, List.length_singleton]; omega) (by rw [List.length_append, List.length_singleton]; omega) ?_ ?_ (by omega)
        · rw [List.append_assoc]; exact eX
        · rw [List.append_assoc]; exact eY
      · rw [if_neg he] at eX eY ⊢
        rw [List.map_nil, List.append_nil] at eX eY
        rw [eX, eY]
        exact hend k (by omega)
    · have hz : takeT (l.drop p) = (0, 0, 4) := by
        rw [List.drop_of_length_le (by omega)]
        exact takeT_nil
      rw [hz, if_neg (by decide)] at eX eY
      rw [List.map_nil, List.append_nil] at eX eY
      rw [if_neg h, eX, eY]
      exact hend k (by omega)
theorem NumAll : concordancelaw1_NumAll.Pure := by
  intro l0 a1 _ _ hb _
  have hb : isB l0 := fun x hx => wf_u8 (hb x hx)
  refine ⟨5000, ?_⟩
  unfold concordancelaw1_NumAll.f
  by_cases hl : (l0.length : Int) > 1000
  · rw [if_pos hl, awake_tells (by omega)]
    rfl
  · rw [if_neg hl]
    exact all_l0 l0 hb (by omega) a1 ((items l0).map (·.1)) ((items l0).map (·.2)) (K := 2000) (fun k hk => all_j1 l0 hb (by omega) a1 hk) (l0.length + 1) 0 5000 [] [] (by omega) (by omega) (by simp) (by simp) (by rfl) (by rfl) (by omega)

end Go.Proofs.Ytpcjdgmjlnlfgaa.Pure
