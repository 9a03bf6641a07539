/- The contracts, proved by hand, of num.Fix and num.Fixed: a number's lowest bytes behind the bytes that came in, the greatest first; the number that so many bytes tell. -/
import Derived.Test.YtpcjdgmjlnlfgaaHa
import Derived.Test.YtpcjdgmjlnlfgaaPa
namespace Go.Proofs.Ytpcjdgmjlnlfgaa.Hand
open Go.RowKit Go.Proofs.YtpcjdgmjlnlfgaaW.PrintWords Go.Proofs.YtpcjdgmjlnlfgaaW.PrintLast Go.Proofs.YtpcjdgmjlnlfgaaW.PrintMore
open Go.Proofs.Ytpcjdgmjlnlfgaa.Plain
attribute [local go_sem] max2_int min2_int max_two min_two
set_option linter.unusedVariables false
set_option linter.unusedSimpArgs false

/-- A size, clamped to 0 to 8. -/
def clamp (s : Int) : Nat := if s < 0 then 0 else if 8 < s then 8 else s.toNat
def fixF (l : List Int) (n : Int) (s : Int) : Option (List Int) := if l.length ≤ 140737488355000 ∧ 0 ≤ n ∧ n < 18446744073709551616 then some (l ++ fixL n.toNat (clamp s)) else none

set_option maxHeartbeats 800000 in
set_option maxRecDepth 100000 in
theorem fix_clipped (A0 : Option Addr) (c0 : Nat) (l0 : List Int) (a1 a2 : Int) (r : List Int) (w : World) (hr0 : Kd.C (Kd.int .u8) w A0 l0.length l0) (h : fixF l0 a1 a2 = some r) :
    Calls Try.prog 16 #[.slice A0 l0.length c0, .int .u64 a1, .int .i64 a2] w fun e w' => ∃ v0_ : Value, e = .returned v0_ ∧ Clipped 5 w' w.heap.size v0_ r ∧ Below w.heap.size w w' := by
  unfold fixF at h
  by_cases hc : l0.length ≤ 140737488355000 ∧ 0 ≤ a1 ∧ a1 < 18446744073709551616
  · rw [if_pos hc] at h
    obtain ⟨hl, h0, h1⟩ := hc
    obtain rfl := Option.some.inj h
    clear h
    have HL := Aside0.mk hl
    obtain ⟨n, rfl⟩ := Int.eq_ofNat_of_zero_le h0
    have HN := Aside0.mk h1
    clear h0 h1 hl
    obtain ⟨j3, hj3⟩ : ∃ j : Int, (if a2 < 0 then 0 else a2) = j := ⟨_, rfl⟩
    obtain ⟨s, hs8, hj4⟩ : ∃ s : Nat, s ≤ 8 ∧ (if 8 < j3 then 8 else j3) = (s : Int) := by
      refine ⟨clamp a2, ?_, ?_⟩
      · unfold clamp; (repeat' split) <;> omega
      · subst hj3; unfold clamp; (repeat' split) <;> omega
    have hcl : clamp a2 = s := by
      have e : ((clamp a2 : Nat) : Int) = (if 8 < j3 then 8 else j3) := by subst hj3; unfold clamp; (repeat' split) <;> omega
      omega
    rw [hcl]
    clear hcl
    go_enter Try.func16, Try.ntmps16
    go_wp2_with (go_at_call 24; refine (clone_calls _ _ l0 _ hr0 (by have := HL.out; omega)).mono ?_; rintro e w1 ⟨v, rfl, ho, hb⟩; have HO := Aside0.mk ho; have HB := Aside0.mk hb; clear ho hb)
    clear hj3 hj4
    have HS := Aside0.mk hs8
    go_loopg [7, 8] s (fun kq v7 v8 w' => ∃ (i : Int) (xs : List Int), v8 = .int .i64 i ∧ Aside0 (-1 ≤ i ∧ i ≤ 7 ∧ (i + 1).toNat ≤ kq) ∧ Aside0 (xs ++ fixL n (i + 1).toNat = l0 ++ fixL n s) ∧ Aside0 (Kd.R (Kd.int .u8) 5 w' w.heap.size (fun _ => True) v7 xs) ∧ Aside0 (Below w.heap.size w w'))
    case atStart => exact ⟨(s : Int) - 1, l0, rfl, ⟨by omega, by omega, by omega⟩, ⟨by rw [show ((s : Int) - 1 + 1).toNat = s from by omega]⟩, ⟨HO.out⟩, ⟨HB.out⟩⟩
    case round =>
      clear HO HB hs8
      obtain ⟨i, xs, rfl, HI, HE, HO, HB⟩ := hrel
      have hi1 := HI.out.1
      have hi2 := HI.out.2.1
      have hxl : xs.length ≤ 140737488355010 := by
        have h2 := congrArg List.length HE.out
        simp only [List.length_append, fixL_length] at h2
        have := HL.out
        have := HS.out
        omega
      have HX := Aside0.mk hxl
      clear hxl
      by_cases c2 : 0 ≤ i
      · go_wp2_with (first | ((with_reducible refine gate_builtin (b := .append) (xs := #[.tmp 19, .tmp 25]) rfl ?_); at_builtin; refine Kd.R_append (Kd.int .u8) (w0 := w) w.heap.size rfl (.tmp 19) (.tmp 25) 23 5 (.int .u8 0) 1 rfl Try.underlying23 hinfo_u8 rfl (by decide) (by omega) _ xs ((n : Int) / 2 ^ (8 * i).toNat % 256) [.int .u8 ((n : Int) / 2 ^ (8 * i).toNat % 256)] (fun _ => True) (fun _ => False) rfl rfl ?aP (fun _ hk => hk.elim) ?aF ?aO ?aB ?aS ?aL ?_; (case aP => exact rfl); (case aB => exact HB.out); (case aF => exact (fun _ _ => trivial)); (case aO => exact HO.out); (case aS => exact (below_size HB.out)); (case aL => have := HX.out; omega); intro v2 w2 ho hb hg hat; clear HB HO; have HO := Aside0.mk ho; have HB := Aside0.mk hb; clear ho hb hg hat))
        go_roundg i.toNat
        case measure => have := HI.out; omega
        case rel => exact ⟨i - 1, xs ++ [(n : Int) / 2 ^ (8 * i).toNat % 256], rfl, ⟨by omega, by omega, by omega⟩, ⟨by have he := HE.out; rw [fixL_step n c2] at he; rw [← he, show (i - 1 + 1).toNat = i.toNat from by omega]; simp⟩, ⟨HO.out⟩, ⟨HB.out⟩⟩
      · have HI2 := Aside0.mk c2
        have hi3 : i < 0 := by omega
        clear c2
        go_wp2_with (go_at_call 25; refine (clip_calls _ _ _ _ HO.out).mono ?_; rintro e w3 ⟨⟨v3, rfl, hcl⟩, rfl⟩; have HCL := Aside0.mk hcl; clear hcl)
        go_ret
        refine ⟨_, rfl, ?_, HB.out⟩
        have he := HE.out
        rw [show (i + 1).toNat = 0 from by omega] at he
        simp only [fixL, List.append_nil] at he
        rw [Int.toNat_natCast, ← he]
        exact HCL.out
  · rw [if_neg hc] at h
    cases h

theorem fix_calls (A0 : Option Addr) (c0 : Nat) (l0 : List Int) (a1 a2 : Int) (r : List Int) (w : World) (hr0 : Kd.C (Kd.int .u8) w A0 l0.length l0) (hc0 : l0.length ≤ c0) (h : fixF l0 a1 a2 = some r) :
    Calls Try.prog 16 #[.slice A0 l0.length c0, .int .u64 a1, .int .i64 a2] w fun e w' => ∃ v0_ : Value, e = .returned (v0_) ∧ Kd.V (Kd.int .u8) 5 w' w.heap.size (fun k_ => (w.heap.size ≤ k_)) v0_ r ∧ Below w.heap.size w w' :=
  (fix_clipped A0 c0 l0 a1 a2 r w hr0 h).mono fun _ _ ⟨v, he, hc, hb⟩ => ⟨v, he, hc.V, hb⟩

/-- What a row of bytes tells, the greatest first, as the machine reckons it. -/
def fixedV (l : List Int) : Int := l.foldl (fun n c => Go.bits .or .u64 (IntKind.u64.wrap (n * 256)) (IntKind.u64.wrap c)) 0
theorem fixedV_snoc (l : List Int) (k : Nat) (h : k < l.length) : fixedV (l.take (k + 1)) = Go.bits .or .u64 (IntKind.u64.wrap (fixedV (l.take k) * 256)) (IntKind.u64.wrap (rd l (k : Int))) := by
  rw [List.take_succ_eq_append_getElem h]
  unfold fixedV rd
  rw [List.foldl_append, Int.toNat_natCast, List.getD_eq_getElem?_getD, List.getElem?_eq_getElem h]
  rfl
/-- The number of the first bytes; 1: the size is out of bounds; 4: too few bytes. -/
def fixedF (l : List Int) (s : Int) : Option (Int × Int) :=
  if s < 0 ∨ 8 < s then some (0, 1) else if (l.length : Int) < s then some (0, 4) else some (fixedV (l.take s.toNat), 0)

set_option maxHeartbeats 800000 in
set_option maxRecDepth 100000 in
theorem fixed_calls (A0 : Option Addr) (c0 : Nat) (l0 : List Int) (a1 : Int) (r1 r2 : Int) (w : World) (hr0 : Kd.C (Kd.int .u8) w A0 l0.length l0) (hc0 : l0.length ≤ c0) (h : fixedF l0 a1 = some (r1, r2)) :
    Calls Try.prog 23 #[.slice A0 l0.length c0, .int .i64 a1] w fun e w' => e = .returned (.tuple #[.int .u64 r1, .int .i64 r2]) ∧ Drawn0 w w' := by
  have HR := Aside0.mk hr0
  clear hr0
  unfold fixedF at h
  by_cases h1 : a1 < 0 ∨ 8 < a1
  · rw [if_pos h1] at h
    injection h with h
    injection h with e1 e2
    subst e1 e2
    by_cases h2 : a1 < 0
    · have d1 : decide (a1 < 0) = true := decide_eq_true h2
      go_enter Try.func23, Try.ntmps23
      go_wp2
      go_ret2
      exact ⟨rfl, Drawn0.refl _⟩
    · have d1 : decide (a1 < 0) = false := decide_eq_false h2
      have h3 : 8 < a1 := by omega
      go_enter Try.func23, Try.ntmps23
      go_wp2
      go_ret2
      exact ⟨rfl, Drawn0.refl _⟩
  · rw [if_neg h1] at h
    have g1 : 0 ≤ a1 := by omega
    have g2 : a1 ≤ 8 := by omega
    have d1 : decide (a1 < 0) = false := decide_eq_false (by omega)
    have d2 : decide (8 < a1) = false := decide_eq_false (by omega)
    by_cases h2 : (l0.length : Int) < a1
    · rw [if_pos h2] at h
      injection h with h
      injection h with e1 e2
      subst e1 e2
      have d3 : decide ((l0.length : Int) < a1) = true := decide_eq_true h2
      go_enter Try.func23, Try.ntmps23
      go_wp2
      go_ret2
      exact ⟨rfl, Drawn0.refl _⟩
    · rw [if_neg h2] at h
      injection h with h
      injection h with e1 e2
      subst e1 e2
      have d3 : decide ((l0.length : Int) < a1) = false := decide_eq_false h2
      obtain ⟨s, rfl⟩ := Int.eq_ofNat_of_zero_le g1
      have hs : s ≤ l0.length := by omega
      have hsc : s ≤ c0 := by omega
      rw [Int.toNat_natCast]
      have d4 : decide (l0.length < s) = false := decide_eq_false (by omega)
      clear h1 h2
      have HS := Aside0.mk hs
      go_enter Try.func23, Try.ntmps23
      go_wp2
      go_loopg [6, 25] s (fun kq v6 v25 w' => ∃ k : Nat, v25 = .int .i64 (k : Int) ∧ Aside0 (k ≤ s ∧ kq + k = s) ∧ v6 = .int .u64 (fixedV (l0.take k)) ∧ Drawn0 w w')
      case atStart => exact ⟨0, rfl, ⟨by omega, by omega⟩, rfl, Drawn0.refl _⟩
      case round =>
        obtain ⟨k, rfl, HK, rfl, ⟨m2, rfl⟩⟩ := hrel
        have hkl : k ≤ l0.length := by have := HK.out; omega
        by_cases c : k < s
        · obtain ⟨ad, e, hx⟩ := Kd.at_int HR.out (k : Int) (by omega) (by omega)
          cases e
          rw [Int.toNat_natCast] at hx
          have hb : decide (k < s) = true := decide_eq_true c
          go_wp2
          go_roundg (s - (k + 1))
          case measure => have := HK.out; omega
          case rel =>
            refine ⟨k + 1, by go_num, ⟨by omega, by have := HK.out; omega⟩, ?_, by repeat (first | exact Drawn0.refl _ | apply Drawn0.step)⟩
            rw [fixedV_snoc l0 k (by omega)]
        · have hk : k = s := by have := HK.out; omega
          subst hk
          have hb : decide (k < k) = false := decide_eq_false (Nat.lt_irrefl k)
          go_wp2
          go_ret2
          exact ⟨rfl, by repeat (first | exact Drawn0.refl _ | apply Drawn0.step)⟩
end Go.Proofs.Ytpcjdgmjlnlfgaa.Hand
