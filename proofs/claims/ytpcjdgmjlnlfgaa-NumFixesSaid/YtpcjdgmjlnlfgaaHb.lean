/- The contract, proved by hand, of num.Put: it hands back the bytes that came in and behind them the number's groups of seven bits, cut to its length. -/
import Derived.Test.YtpcjdgmjlnlfgaaHa
import Derived.Test.YtpcjdgmjlnlfgaaPa
namespace Go.Proofs.Ytpcjdgmjlnlfgaa.Hand
open Go.RowKit Go.Proofs.YtpcjdgmjlnlfgaaW.PrintWords Go.Proofs.YtpcjdgmjlnlfgaaW.PrintLast Go.Proofs.YtpcjdgmjlnlfgaaW.PrintMore
open Go.Proofs.Ytpcjdgmjlnlfgaa.Plain
set_option linter.unusedVariables false
set_option linter.unusedSimpArgs false

def putF (l : List Int) (n : Int) : Option (List Int) := if l.length ≤ 140737488355000 ∧ 0 ≤ n ∧ n < 18446744073709551616 then some (l ++ encN n.toNat) else none

set_option maxHeartbeats 800000 in
set_option maxRecDepth 100000 in
theorem put_clipped (A0 : Option Addr) (c0 : Nat) (l0 : List Int) (a1 : Int) (r : List Int) (w : World) (hr0 : Kd.C (Kd.int .u8) w A0 l0.length l0) (h : putF l0 a1 = some r) :
    Calls Try.prog 10 #[.slice A0 l0.length c0, .int .u64 a1] w fun e w' => ∃ v0_ : Value, e = .returned v0_ ∧ Clipped 5 w' w.heap.size v0_ r ∧ Below w.heap.size w w' := by
  unfold putF at h
  by_cases hc : l0.length ≤ 140737488355000 ∧ 0 ≤ a1 ∧ a1 < 18446744073709551616
  · rw [if_pos hc] at h
    obtain ⟨hl, h0, h1⟩ := hc
    obtain rfl := Option.some.inj h
    clear h
    have hlen : (encN a1.toNat).length ≤ 10 := encN_len64 (by omega)
    have HLEN := Aside0.mk hlen
    have HL := Aside0.mk hl
    clear hlen h1
    go_enter Try.func10, Try.ntmps10
    go_wp2_with (go_at_call 24; refine (clone_calls _ _ l0 _ hr0 (by have := HL.out; omega)).mono ?_; rintro e w1 ⟨v, rfl, ho, hb⟩; have HO := Aside0.mk ho; have HB := Aside0.mk hb; clear ho hb)
    go_loopg [1, 5] a1.toNat (fun kq v1 v5 w' => ∃ (x : Int) (xs : List Int), v1 = .int .u64 x ∧ Aside0 (0 ≤ x) ∧ Aside0 (xs ++ encN x.toNat = l0 ++ encN a1.toNat) ∧ Aside0 (x.toNat ≤ kq) ∧ Aside0 (Kd.R (Kd.int .u8) 5 w' w.heap.size (fun _ => True) v5 xs) ∧ Aside0 (Below w.heap.size w w'))
    case atStart => exact ⟨a1, l0, rfl, ⟨h0⟩, ⟨rfl⟩, ⟨Nat.le_refl _⟩, ⟨HO.out⟩, ⟨HB.out⟩⟩
    case round =>
      clear HO HB h0
      obtain ⟨x, xs, rfl, H0, HE, HK, HO, HB⟩ := hrel
      have hxl : xs.length ≤ 140737488355010 := by
        have h2 := congrArg List.length HE.out
        simp only [List.length_append] at h2
        have := HL.out
        have := HLEN.out
        omega
      have HX := Aside0.mk hxl
      clear hxl
      by_cases c2 : 128 ≤ x
      · have c2b : decide (128 ≤ x) = true := decide_eq_true c2
        have H2 := Aside0.mk c2
        clear c2
        go_wp2_with (first | ((with_reducible refine gate_builtin (b := .append) (xs := #[.tmp 10, .tmp 14]) rfl ?_); at_builtin; refine Kd.R_append (Kd.int .u8) (w0 := w) w.heap.size rfl (.tmp 10) (.tmp 14) 23 5 (.int .u8 0) 1 rfl Try.underlying23 hinfo_u8 rfl (by decide) (by omega) _ xs (Go.bits .or .u8 (x % 256) 128) [.int .u8 (Go.bits .or .u8 (x % 256) 128)] (fun _ => True) (fun _ => False) rfl rfl ?aP (fun _ hk => hk.elim) ?aF ?aO ?aB ?aS ?aL ?_; (case aP => exact rfl); (case aB => exact HB.out); (case aF => exact (fun _ _ => trivial)); (case aO => exact HO.out); (case aS => exact (below_size HB.out)); (case aL => have := HX.out; omega); intro v2 w2 ho hb hg hat; clear HB HO; have HO := Aside0.mk ho; have HB := Aside0.mk hb; clear ho hb hg hat))
        go_roundg (x / 128).toNat
        case measure => have := H2.out; have := HK.out; omega
        case rel => exact ⟨x / 128, xs ++ [Go.bits .or .u8 (x % 256) 128], rfl, ⟨by have := H0.out; omega⟩, ⟨by have he := HE.out; rw [encN_step H2.out] at he; rw [← he]; simp⟩, ⟨Nat.le_refl _⟩, ⟨HO.out⟩, ⟨HB.out⟩⟩
      · have c2b : decide (128 ≤ x) = false := decide_eq_false c2
        have H2 := Aside0.mk (show x < 128 by omega)
        clear c2
        go_wp2_with (first | ((with_reducible refine gate_builtin (b := .append) (xs := #[.tmp 18, .tmp 21]) rfl ?_); at_builtin; refine Kd.R_append (Kd.int .u8) (w0 := w) w.heap.size rfl (.tmp 18) (.tmp 21) 23 5 (.int .u8 0) 1 rfl Try.underlying23 hinfo_u8 rfl (by decide) (by omega) _ xs (x % 256) [.int .u8 (x % 256)] (fun _ => True) (fun _ => False) rfl rfl ?aP (fun _ hk => hk.elim) ?aF ?aO ?aB ?aS ?aL ?_; (case aP => exact rfl); (case aB => exact HB.out); (case aF => exact (fun _ _ => trivial)); (case aO => exact HO.out); (case aS => exact (below_size HB.out)); (case aL => have := HX.out; omega); intro v2 w2 ho hb hg hat; clear HB HO; have HO := Aside0.mk ho; have HB := Aside0.mk hb; clear ho hb hg hat) | (go_at_call 25; refine (clip_calls _ _ _ _ HO.out).mono ?_; rintro e w3 ⟨⟨v3, rfl, hcl⟩, rfl⟩; have HCL := Aside0.mk hcl; clear hcl))
        go_ret
        refine ⟨_, rfl, ?_, HB.out⟩
        have he := HE.out
        rw [encN_last H0.out H2.out] at he
        rw [← he]
        exact HCL.out
  · rw [if_neg hc] at h
    cases h

theorem put_calls (A0 : Option Addr) (c0 : Nat) (l0 : List Int) (a1 : Int) (r : List Int) (w : World) (hr0 : Kd.C (Kd.int .u8) w A0 l0.length l0) (hc0 : l0.length ≤ c0) (h : putF l0 a1 = some r) :
    Calls Try.prog 10 #[.slice A0 l0.length c0, .int .u64 a1] w fun e w' => ∃ v0_ : Value, e = .returned (v0_) ∧ Kd.V (Kd.int .u8) 5 w' w.heap.size (fun k_ => (w.heap.size ≤ k_)) v0_ r ∧ Below w.heap.size w w' :=
  (put_clipped A0 c0 l0 a1 r w hr0 h).mono fun _ _ ⟨v, he, hc, hb⟩ => ⟨v, he, hc.V, hb⟩

end Go.Proofs.Ytpcjdgmjlnlfgaa.Hand
