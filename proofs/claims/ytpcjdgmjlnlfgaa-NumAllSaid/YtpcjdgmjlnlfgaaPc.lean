/- Plain facts on the numbers of a row of bytes (items): one by one, and of a row of encodings that is cut anywhere. -/
import Derived.Test.YtpcjdgmjlnlfgaaPb
import Derived.Test.YtpcjdgmjlnlfgaaTk
namespace Go.Proofs.Ytpcjdgmjlnlfgaa.Plain
open Go.RowKit Go.Proofs.Ytpcjdgmjlnlfgaa.PNum Go.Proofs.Ytpcjdgmjlnlfgaa.Hand
set_option linter.unusedVariables false

theorem takeT_size {l : List Int} (hb : isB l) (hl : l.length ≤ 140737488355328) (h : (takeT l).2.2 = 0) : 1 ≤ (takeT l).2.1 ∧ (takeT l).2.1 ≤ l.length := by
  obtain ⟨r1, r2, r3, he, h0⟩ := take_some l hl
  rw [num_take l hb (by omega)] at he
  have he := Option.some.inj he
  rw [he] at h ⊢
  have := h0 h
  exact ⟨this.1, this.2.1⟩
theorem itemsF_eq {l : List Int} (hb : isB l) (k : Nat) (a : Int) : itemsF (k + 1) a l = if (takeT l).2.2 = 0 then (a, (takeT l).1) :: itemsF k (a + (takeT l).2.1) (l.drop (takeT l).2.1.toNat) else [] := by
  simp only [itemsF]
  by_cases h : l.length = 0
  · rw [if_pos h]
    obtain rfl : l = [] := List.length_eq_zero_iff.1 h
    rfl
  · rw [if_neg h, num_take l hb (by omega)]

/-- How many of a row's encodings fit into so many bytes. -/
def cnt : List Int → Nat → Nat
  | [], _ => 0
  | n :: ns, c => if (encN n.toNat).length ≤ c then cnt ns (c - (encN n.toNat).length) + 1 else 0
def encsN : List Int → List Int
  | [] => []
  | n :: ns => encN n.toNat ++ encsN ns
def isN (ns : List Int) : Prop := ∀ x ∈ ns, 0 ≤ x ∧ x < 18446744073709551616
theorem encsN_append (a b : List Int) : encsN (a ++ b) = encsN a ++ encsN b := by
  induction a with
  | nil => rfl
  | cons n a ih => simp [encsN, ih]
theorem encsN_isB (ns : List Int) : isB (encsN ns) := by
  induction ns with
  | nil => intro x hx; simp [encsN] at hx
  | cons n ns ih => exact isB_append (encN_bytes _) ih
theorem encsN_len {ns : List Int} (h : isN ns) : (encsN ns).length ≤ 10 * ns.length := by
  induction ns with
  | nil => simp [encsN]
  | cons n ns ih =>
    have h1 := ih (fun x hx => h x (.tail _ hx))
    have h2 := h n (.head _)
    have h3 := encN_len64 (n := n.toNat) (by omega)
    simp only [encsN, List.length_append, List.length_cons]
    omega
theorem cnt_le (ns : List Int) : ∀ c, cnt ns c ≤ ns.length := by
  induction ns with
  | nil => intro c; simp [cnt]
  | cons n ns ih =>
    intro c
    simp only [cnt]
    split
    · have := ih (c - (encN n.toNat).length)
      simp only [List.length_cons]
      omega
    · omega
theorem cnt_fits (ns : List Int) : ∀ (c i : Nat), i < cnt ns c → (encsN (ns.take (i + 1))).length ≤ c := by
  induction ns with
  | nil => intro c i h; simp [cnt] at h
  | cons n ns ih =>
    intro c i h
    simp only [cnt] at h
    split at h
    · rename_i hf
      rw [List.take_succ_cons, encsN, List.length_append]
      cases i with
      | zero => simp [encsN]; exact hf
      | succ i =>
        have := ih (c - (encN n.toNat).length) i (by omega)
        omega
    · omega
theorem cnt_next (ns : List Int) : ∀ c : Nat, cnt ns c < ns.length → c < (encsN (ns.take (cnt ns c + 1))).length := by
  induction ns with
  | nil => intro c h; simp at h
  | cons n ns ih =>
    intro c h
    simp only [cnt] at h ⊢
    split
    · rename_i hf
      rw [if_pos hf] at h
      rw [List.take_succ_cons, encsN, List.length_append]
      have := ih (c - (encN n.toNat).length) (by simpa using h)
      omega
    · rw [List.take_succ_cons, encsN, List.length_append]
      omega
/-- What is told of encodings that are cut behind c bytes. -/
theorem items_cut (ns : List Int) : isN ns → ∀ (c k : Nat) (a : Int), c ≤ (encsN ns).length → cnt ns c < k →
    (itemsF k a ((encsN ns).take c)).length = cnt ns c ∧ ∀ i, i < cnt ns c → (itemsF k a ((encsN ns).take c))[i]? = some (a + (encsN (ns.take i)).length, ns.getD i 0) := by
  induction ns with
  | nil =>
    intro _ c k a hc hk
    obtain ⟨k, rfl⟩ : ∃ m, k = m + 1 := ⟨k - 1, by omega⟩
    constructor
    · rw [itemsF_eq (isB_take (encsN_isB _) _)]
      simp [encsN, cnt, takeT, takeL]
    · intro i hi
      simp [cnt] at hi
  | cons n ns ih =>
    intro h c k a hc hk
    obtain ⟨k, rfl⟩ : ∃ m, k = m + 1 := ⟨k - 1, by omega⟩
    have hn := h n (.head _)
    have h' : isN ns := fun x hx => h x (.tail _ hx)
    rw [itemsF_eq (isB_take (encsN_isB _) _)]
    by_cases hf : (encN n.toNat).length ≤ c
    · have et : (encsN (n :: ns)).take c = encN n.toNat ++ (encsN ns).take (c - (encN n.toNat).length) := by
        rw [encsN, List.take_append, List.take_of_length_le hf]
      have ht : takeT ((encsN (n :: ns)).take c) = (n, ((encN n.toNat).length : Int), 0) := by
        rw [et, encN_take (by omega), show ((n.toNat : Nat) : Int) = n from by omega]
      have ec : cnt (n :: ns) c = cnt ns (c - (encN n.toNat).length) + 1 := by simp only [cnt]; rw [if_pos hf]
      have hc' : c - (encN n.toNat).length ≤ (encsN ns).length := by
        rw [encsN, List.length_append] at hc
        omega
      have ⟨i1, i2⟩ := ih h' (c - (encN n.toNat).length) k (a + (encN n.toNat).length) hc' (by omega)
      rw [ht]
      dsimp only
      rw [if_pos rfl, et, Int.toNat_natCast, List.drop_left, ec]
      refine ⟨by rw [List.length_cons, i1], fun i hi => ?_⟩
      cases i with
      | zero => simp [encsN]
      | succ i =>
        rw [List.getElem?_cons_succ, i2 i (by omega), List.take_succ_cons, encsN, List.length_append, List.getD_cons_succ]
        congr 2
        omega
    · have ec : cnt (n :: ns) c = 0 := by simp only [cnt]; rw [if_neg hf]
      have ht : takeT ((encsN (n :: ns)).take c) = (0, 0, 4) := by
        rw [encsN, List.take_append_of_le_length (by omega), encN_torn (by omega) (by omega)]
      rw [ht, ec]
      exact ⟨rfl, fun i hi => by omega⟩
end Go.Proofs.Ytpcjdgmjlnlfgaa.Plain
