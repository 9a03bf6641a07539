/- concordancelaw1.NumPuts: what it computes is true, in plain words. -/
import Derived.Test.YtpcjdgmjlnlfgaaPNumx16
import Derived.Test.YtpcjdgmjlnlfgaaPb
namespace Go.Proofs.Ytpcjdgmjlnlfgaa.Pure
open Go.RowKit Go.Proofs.Ytpcjdgmjlnlfgaa.PNum Go.Proofs.YtpcjdgmjlnlfgaaW.PrintWords Go.Proofs.YtpcjdgmjlnlfgaaW.PrintLast Go.Proofs.YtpcjdgmjlnlfgaaW.PrintMore Go.Proofs.Ytpcjdgmjlnlfgaa.Plain Go.Proofs.Ytpcjdgmjlnlfgaa.Hand

theorem set_mid (d : Nat) (v : Int) (r : List Int) : (List.replicate (d + 1) (0 : Int) ++ r).set d v = List.replicate d 0 ++ v :: r := by
  rw [List.replicate_succ', List.append_assoc, List.set_append_right _ _ (by simp)]
  simp
theorem ref_fix_l0 (n S : Nat) (hS : S ≤ 8) : ∀ (d i k : Nat), i + d = S → d < k →
    concordanceref1_Fix.l0 k (n : Int) (S : Int) (List.replicate d 0 ++ fixL n i) (i : Int) = some (strOfNums (fixL n S)) := by
  intro d
  induction d with
  | zero =>
    intro i k h hk
    obtain ⟨k, rfl⟩ : ∃ m, k = m + 1 := ⟨k - 1, by omega⟩
    simp only [concordanceref1_Fix.l0]
    rw [if_neg (by omega), show i = S from by omega]
    rfl
  | succ d ih =>
    intro i k h hk
    obtain ⟨k, rfl⟩ : ∃ m, k = m + 1 := ⟨k - 1, by omega⟩
    simp only [concordanceref1_Fix.l0]
    have e1 : wrap64 (8 * (i : Int)) = 8 * (i : Int) := w64 (by omega) (by omega)
    have e2 : wrap64 ((i : Int) + 1) = ((i + 1 : Nat) : Int) := by rw [w64 (by omega) (by omega)]; omega
    have e3 : wrap64 ((S : Int) - 1) = (S : Int) - 1 := w64 (by omega) (by omega)
    have e4 : wrap64 ((S : Int) - 1 - (i : Int)) = (d : Int) := by rw [w64 (by omega) (by omega)]; omega
    have hl : (((List.replicate (d + 1) (0 : Int) ++ fixL n i).length : Nat) : Int) = (S : Int) := by
      rw [List.length_append, List.length_replicate, fixL_length]
      omega
    rw [if_pos (by omega), e1, e2, e3, e4, if_pos (by omega), if_pos (by omega), hl, if_pos (by omega), Int.toNat_natCast, set_mid]
    have e5 : shr .u64 (n : Int) (8 * (i : Int)) % 256 = (n : Int) / 2 ^ (8 * (i : Int)).toNat % 256 := by
      unfold shr
      rw [show IntKind.u64.bits = 64 from rfl, Nat.min_eq_left (by omega)]
    have e6 := fixL_step n (i := (i : Int)) (by omega)
    rw [show ((i : Int) + 1).toNat = i + 1 from by omega, Int.toNat_natCast] at e6
    rw [e5, ← e6]
    exact ih (i + 1) k (by omega) (by omega)
theorem ref_fix {x : Int} (h0 : 0 ≤ x) (s : Int) {k : Nat} (hk : 9 ≤ k) : concordanceref1_Fix.f k x s = some (strOfNums (fixL x.toNat (clamp s))) := by
  have hc : mn (mx s 0) 8 = ((clamp s : Nat) : Int) := by
    unfold mn mx clamp
    split <;> split <;> omega
  have hc8 : clamp s ≤ 8 := by
    unfold clamp
    split
    · omega
    · split <;> omega
  unfold concordanceref1_Fix.f
  rw [hc, if_pos (by omega), if_pos (by omega), Int.toNat_natCast]
  have := ref_fix_l0 x.toNat (clamp s) hc8 (clamp s) 0 k (by omega) (by omega)
  rw [show ((x.toNat : Nat) : Int) = x from by omega] at this
  simpa [fixL] using this

theorem fixL_isB (n S : Nat) : isB (fixL n S) := by
  induction S with
  | zero => intro x hx; simp [fixL] at hx
  | succ S ih =>
    intro x hx
    rcases List.mem_cons.1 hx with rfl | hx
    · omega
    · exact ih x hx
theorem puts_j0 {l : List Int} {x z : Int} (hl : l.length ≤ 1000) (hx0 : 0 ≤ x) (hx1 : x < 18446744073709551616) (hz0 : -9223372036854775808 ≤ z) (hz1 : z < 9223372036854775808) {k : Nat} (hk : 21 ≤ k) :
    concordancelaw1_NumPuts.j0 (k + 1) l x z (l ++ encN x.toNat) false = some true := by
  simp only [concordancelaw1_NumPuts.j0]
  have hlen : (l ++ encN x.toNat).length = l.length + (encN x.toNat).length := List.length_append
  have hzr := zig_range hz0 hz1
  have hgr := zag_range hx0 hx1
  have ht : takeT (encN x.toNat) = (x, ((encN x.toNat).length : Int), 0) := by
    have := encN_take (m := x.toNat) (by omega) []
    rw [List.append_nil, show ((x.toNat : Nat) : Int) = x from by omega] at this
    exact this
  rw [if_neg (by decide), if_pos (by omega), if_pos (by omega), Int.toNat_natCast, List.drop_left, num_take _ (encN_bytes _) hk, Option.bind_some, ht]
  dsimp only
  rw [if_pos rfl, size_tells hx0 hx1 (by omega), Option.bind_some, if_pos rfl, if_pos rfl, zig_tells hz0 hz1, Option.bind_some, ref_zig hz0 hz1, Option.bind_some, if_pos rfl, Option.bind_some,
    zag_tells hzr.1 hzr.2, Option.bind_some, if_pos (zag_zig z), zag_tells hx0 hx1, Option.bind_some, zig_tells hgr.1 hgr.2, Option.bind_some, if_pos (zig_zag hx0), awake_tells hk]
  rfl
theorem NumPuts : concordancelaw1_NumPuts.Pure := by
  intro l0 a1 a2 a3 _ _ hb h1 h2 _
  have hb : isB l0 := fun x hx => wf_u8 (hb x hx)
  have h1 := wf_u64 h1
  have h2 := wf_i64 h2
  refine ⟨30, ?_⟩
  unfold concordancelaw1_NumPuts.f
  by_cases hl : (l0.length : Int) > 1000
  · rw [if_pos hl, awake_tells (by omega)]
    rfl
  · have hfix : num_Fix.f l0 a1 a3 = some (l0 ++ fixL a1.toNat (clamp a3)) := by
      unfold num_Fix.f fixF
      rw [if_pos ⟨by omega, h1.1, h1.2⟩]
    have hlen : (l0 ++ encN a1.toNat).length = l0.length + (encN a1.toNat).length := List.length_append
    have he := encN_len64 (n := a1.toNat) (by omega)
    have hf : (fixL a1.toNat (clamp a3)).length ≤ 8 := by
      rw [fixL_length]
      unfold clamp
      split
      · omega
      · split <;> omega
    rw [if_neg hl, put_tells (by omega) h1.1 h1.2, Option.bind_some, hfix, Option.bind_some, ref_num h1.1 h1.2 (by omega), Option.bind_some, strOfNums_size, strOfNums_size, if_pos (by omega), strOfNums_append, if_pos rfl,
      size_tells h1.1 h1.2 (by omega), Option.bind_some, w64 (by omega) (by omega), if_pos (by omega), ref_fix h1.1 a3 (by omega), Option.bind_some, strOfNums_size, if_pos (by omega), strOfNums_append, bne_self_eq_false]
    exact puts_j0 (k := 29) (by omega) h1.1 h1.2 h2.1 h2.2 (by omega)

end Go.Proofs.Ytpcjdgmjlnlfgaa.Pure
