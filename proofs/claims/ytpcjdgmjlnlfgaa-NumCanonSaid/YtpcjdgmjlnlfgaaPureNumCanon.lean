/- concordancelaw1.NumCanon: what it computes is true, in plain words. -/
import Derived.Test.YtpcjdgmjlnlfgaaCanon
import Derived.Test.YtpcjdgmjlnlfgaaPb
namespace Go.Proofs.Ytpcjdgmjlnlfgaa.Pure
open Go.RowKit Go.Proofs.Ytpcjdgmjlnlfgaa.PNum Go.Proofs.YtpcjdgmjlnlfgaaW.PrintWords Go.Proofs.YtpcjdgmjlnlfgaaW.PrintMore Go.Proofs.Ytpcjdgmjlnlfgaa.Plain

theorem takeL_cont (bs : List Int) : ∀ (i n : Nat), (∀ x ∈ bs, 128 ≤ x) → i + bs.length ≤ 9 → 0 < i + bs.length → takeL i n (bs ++ [0]) = (0, 0, 3) := by
  induction bs with
  | nil =>
    intro i n _ h9 h0
    simp only [List.nil_append, takeL]
    simp only [List.length_nil] at h9 h0
    rw [if_neg (by omega), if_pos (by decide), if_pos ⟨by trivial, by omega⟩]
  | cons c bs ih =>
    intro i n hb h9 _
    have hc := hb c (.head _)
    rw [List.length_cons] at h9
    simp only [List.cons_append, takeL]
    rw [if_neg (by omega), if_neg (by omega)]
    exact ih (i + 1) _ (fun x hx => hb x (.tail _ hx)) (by omega) (by omega)
theorem encN_set (n : Nat) (v : Int) (hv : 128 ≤ v) : ∀ x ∈ (encN n).set ((encN n).length - 1) v, 128 ≤ x := by
  induction n using Nat.strongRecOn with
  | _ n ih =>
    intro x hx
    by_cases h : n < 128
    · rw [encN_lt h] at hx
      simp at hx
      omega
    · have hp := encN_pos (n / 128)
      rw [encN_ge (by omega), List.length_cons, show (encN (n / 128)).length + 1 - 1 = ((encN (n / 128)).length - 1) + 1 from by omega, List.set_cons_succ] at hx
      rcases List.mem_cons.1 hx with rfl | hx
      · omega
      · exact ih (n / 128) (by omega) x hx
theorem isB_set {l : List Int} (h : isB l) (i : Nat) {v : Int} (h0 : 0 ≤ v) (h1 : v < 256) : isB (l.set i v) := by
  intro x hx
  rcases List.mem_or_eq_of_mem_set hx with hx | rfl
  · exact h x hx
  · exact ⟨h0, h1⟩
theorem rd_range {l : List Int} (h : isB l) (i : Int) : 0 ≤ rd l i ∧ rd l i < 256 := by
  unfold rd
  rw [List.getD_eq_getElem?_getD]
  cases hg : l[i.toNat]? with
  | none => exact ⟨by decide, by decide⟩
  | some x => exact h x (List.mem_of_getElem? hg)
theorem NumCanon : concordancelaw1_NumCanon.Pure := by
  intro a0 a1 h0 _
  have h0 := wf_u64 h0
  refine ⟨30, ?_⟩
  unfold concordancelaw1_NumCanon.f
  have hlen := encN_len64 (n := a0.toNat) (by omega)
  have hpos := encN_pos a0.toNat
  have hbs := encN_bytes a0.toNat
  have hw : wrap64 (((encN a0.toNat).length : Int) - 1) = (((encN a0.toNat).length - 1 : Nat) : Int) := by rw [w64 (by omega) (by omega)]; omega
  have haw : concordancelaw1_awake.f 30 = some true := awake_tells (by omega)
  rw [put_nil h0.1 h0.2, Option.bind_some, if_neg (by omega), hw]
  have htake : ∀ l, isB l → ∀ e, takeT l = (0, 0, e) → num_Take.f 30 l = some (0, 0, e) := fun l hl e he => by rw [num_take l hl (by omega), he]
  by_cases c0 : Go.bits .and .i64 a1 3 = 0
  · rw [if_pos c0]
    by_cases c10 : ((encN a0.toNat).length : Int) = 10
    · rw [if_pos c10, htake [128, 0] (by intro x hx; simp at hx; omega) 3 (by decide)]
      simp only [Option.bind_some, if_true]
      rw [haw]
      rfl
    · rw [if_neg c10, if_pos (by omega), if_pos (by omega), Option.bind_some, Int.toNat_natCast, List.length_set, if_pos (by omega)]
      have hr := rd_range hbs (((encN a0.toNat).length - 1 : Nat) : Int)
      generalize rd (encN a0.toNat) (((encN a0.toNat).length - 1 : Nat) : Int) = q at hr ⊢
      have ho := or128 q hr.1
      rw [show q % 256 = q from by omega] at ho
      rw [ho, htake _ (isB_append (isB_set hbs _ (by omega) (by omega)) (by intro x hx; simp at hx; omega)) 3 (takeL_cont _ 0 0 (encN_set _ _ (by omega)) (by rw [List.length_set]; omega) (by rw [List.length_set]; omega))]
      simp only [Option.bind_some, if_true]
      rw [haw]
      rfl
  · rw [if_neg c0]
    by_cases c1 : Go.bits .and .i64 a1 3 = 1
    · have ha : 0 ≤ Go.bits .and .u64 a0 125 ∧ Go.bits .and .u64 a0 125 ≤ 125 := by
        rw [Go.u64_and a0 125 h0.1 h0.2 (by omega) (by omega)]
        have : a0.toNat &&& (125 : Int).toNat ≤ (125 : Int).toNat := Nat.and_le_right
        omega
      generalize Go.bits .and .u64 a0 125 = q at ha ⊢
      rw [if_pos c1, htake _ (by intro x hx; simp at hx; omega) 3 (by
        have hc : 1 < (q % 256 + 2) % 256 := by omega
        generalize (q % 256 + 2) % 256 = c at hc
        simp [takeT, takeL, hc])]
      simp only [Option.bind_some, if_true]
      rw [haw]
      rfl
    · rw [if_neg c1]
      by_cases c2 : Go.bits .and .i64 a1 3 = 2
      · rw [if_pos c2, htake _ (by intro x hx; simp at hx; omega) 3 (by decide)]
        simp only [Option.bind_some, if_true]
        rw [haw]
        rfl
      · rw [if_neg c2, if_pos (by omega), if_pos (by omega), Int.toNat_natCast, htake _ (isB_take hbs _) 4 (encN_torn (by omega) (by omega))]
        simp only [Option.bind_some, if_true]
        rw [haw]
        rfl

end Go.Proofs.Ytpcjdgmjlnlfgaa.Pure
