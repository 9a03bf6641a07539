/- Texts of this seat, one behind the other: what concordance's FramePuts reaches. -/
import Derived.Test.YtcnapbpljghfoaaZFramePuts0
/- The contract, proved by hand, of crc.Open: what was sealed, in new memory of bytes; and of num.Own likewise. -/
namespace Go.Proofs.Ytcnapbpljghfoaa.Hand
open Go.RowKit Go.Proofs.YtcnapbpljghfoaaW.PrintWords Go.Proofs.YtcnapbpljghfoaaW.PrintLast Go.Proofs.YtcnapbpljghfoaaW.PrintMore
open Go.Proofs.Ytcnapbpljghfoaa.Plain Go.Proofs.Ytcnapbpljghfoaa.PCrc
set_option linter.unusedVariables false
set_option linter.unusedSimpArgs false
theorem str_eq1 {l r : List Int} (h : isB l) (h' : isB r) : (strOfNums l).toList = (strOfNums r).toList ↔ l = r := ⟨strOfNums_inj h h', fun e => by rw [e]⟩
/-- A block of bytes, from base on. -/
def OkB (W : World) (base : Nat) (k : Nat) : Prop := base ≤ k ∧ ∃ cells, W.heap[k]? = some (.cells cells 5 (0, 0))
/-- A row that reads as xs, its memory a block of bytes from base on. -/
def B5 (W : World) (base : Nat) (v : Value) (xs : List Int) : Prop := ∃ A c, v = .slice A xs.length c ∧ xs.length ≤ c ∧ Kd.F (Kd.int .u8) W (OkB W base) A xs.length xs
theorem B5.nil (W : World) (base : Nat) : B5 W base (.slice none 0 0) [] := ⟨none, 0, rfl, Nat.le_refl _, Kd.F_nil _ _ _⟩
theorem B5.V {e base' : Nat} {W : World} {base : Nat} {v : Value} {xs : List Int} (h : B5 W base v xs) : Kd.V (Kd.int .u8) e W base' (fun k => base ≤ k) v xs := by
  obtain ⟨A, c, rfl, hl, hF⟩ := h
  exact ⟨A, c, rfl, hl, Kd.F_mono hF (fun k hk => hk.1)⟩
/-- Whatever keeps the blocks of bytes. -/
theorem B5.step {W W1 : World} {base base' : Nat} {v : Value} {xs : List Int} (h : B5 W base v xs) (hb : base' ≤ base) (hk : ∀ k, OkB W base k → W1.heap[k]? = W.heap[k]?) : B5 W1 base' v xs := by
  obtain ⟨A, c, rfl, hl, hF⟩ := h
  refine ⟨A, c, rfl, hl, Kd.F_mono (Kd.F_step (Kd.F_bound hF) (fun k hk' _ => hk k hk'.1)) (fun k hk' => ⟨Nat.le_trans hb hk'.1.1, ?_⟩)⟩
  obtain ⟨cells, hc⟩ := hk'.1.2
  exact ⟨cells, (hk k hk'.1).trans hc⟩
theorem B5.below {W W1 : World} {base : Nat} {v : Value} {xs : List Int} (h : B5 W base v xs) (hb : Below W.heap.size W W1) : B5 W1 base v xs :=
  h.step (Nat.le_refl _) (fun k hk => by obtain ⟨c, hc⟩ := hk.2; exact hb.block k (blk_lt hc))
theorem Clipped.B5 {w : World} {base : Nat} {v : Value} {xs : List Int} (h : Clipped 5 w base v xs) : B5 w base v xs := by
  obtain ⟨A, c, rfl, h⟩ := h
  refine ⟨A, xs.length, rfl, Nat.le_refl _, Kd.R_F (Kd.R_mono (Kd.R_bound h) (fun k hk => ⟨hk.2.1, ?_⟩))⟩
  obtain ⟨_, _, _, q, hq, cells, hc⟩ := hk
  have : q = 5 := by simpa [Kd.int, Kd.scalar] using hq
  subst this
  exact ⟨cells, hc⟩

set_option maxHeartbeats 800000 in
set_option maxRecDepth 100000 in
theorem own5_calls (A0 : Option Addr) (c0 : Nat) (l0 : List Int) (w : World) (hr0 : Kd.C (Kd.int .u8) w A0 l0.length l0) (hl : l0.length ≤ 140737488355328) :
    Calls Try.prog 34 #[.slice A0 l0.length c0] w fun e w' => ∃ v0_ : Value, e = .returned (v0_) ∧ B5 w' w.heap.size v0_ l0 ∧ Below w.heap.size w w' := by
  go_enter Try.func34, Try.ntmps34
  go_wp2_with (first | (go_at_call 29; refine (clone_calls _ _ l0 _ hr0 hl).mono ?_; rintro e w1 ⟨v, rfl, ho, hb⟩; have HO := Aside0.mk ho; have HB := Aside0.mk hb; clear ho hb) | (go_at_call 30; refine (clip_calls _ _ _ _ HO.out).mono ?_; rintro e w3 ⟨⟨v3, rfl, hcl⟩, rfl⟩; have HCL := Aside0.mk hcl; clear hcl))
  go_ret
  exact ⟨_, rfl, HCL.out.B5, HB.out⟩

def opn.T4 : Bool × List (List Nat × List Nat) := (true, [([], []), ([], []), ([0, 1], [0, 1]), ([2], [2]), ([3, 3], [3]), ([4], [4]), ([], []), ([], []), ([6, 7], [6, 7]), ([8], [8]), ([5, 9], [5, 9]), ([10, 4], [10])])
def opn.B4 : List Nat := [0, 0, 3, 7, 15, 31, 0, 0, 192, 448, 1023, 2047]
theorem opn.tab4 : rtab .any (opsOf Try.f22 4) = opn.T4 := by kernel_rfl
theorem opn.bits4 : waitsOk opn.T4.2 opn.B4 = true := by kernel_rfl

set_option maxHeartbeats 1600000 in
set_option maxRecDepth 100000 in
theorem open5_calls (A0 : Option Addr) (c0 : Nat) (l0 : List Int) (w : World) (hr0 : Kd.C (Kd.int .u8) w A0 l0.length l0) (hc0 : l0.length ≤ c0) (hby : isB l0) (hl : l0.length ≤ 140737488355328) :
    Calls Try.prog 22 #[.slice A0 l0.length c0] w fun e w' => ∃ v0_ : Value, e = .returned (.tuple #[v0_, .int .i64 (openL l0).2]) ∧ B5 w' w.heap.size v0_ (openL l0).1 ∧ Below w.heap.size w w' := by
  have HR := Aside0.mk hr0
  have HBY := Aside0.mk hby
  have HL := Aside0.mk hl
  clear hr0 hby
  unfold openL
  by_cases c1 : l0.length < 4
  · rw [if_pos c1]
    have d1 : decide ((l0.length : Int) - 4 < 0) = true := decide_eq_true (by omega)
    go_enter Try.func22, Try.ntmps22
    go_wp2
    go_ret2
    exact ⟨_, rfl, B5.nil _ _, Below.refl _ _⟩
  · rw [if_neg c1]
    obtain ⟨m, hm⟩ : ∃ m, l0.length - 4 = m := ⟨_, rfl⟩
    rw [hm]
    have hm4 : (l0.length : Int) - 4 = (m : Int) := by omega
    have hml : m ≤ l0.length := by omega
    have d1 : decide ((m : Int) < 0) = false := decide_eq_false (by omega)
    obtain ⟨i0, hi0, _, hsz0, _⟩ := info_parts hinfo_u8
    obtain ⟨hcut1, hA1, hC1⟩ := print_take_of (P := Try.prog) (Value.int .u8) 0 22 5 .i64 Try.underlying22 hi0 hsz0 A0 c0 l0 (m : Int) (by omega) (by omega) hc0
    obtain ⟨A2, hcut2, hA2, hC2⟩ := print_drop_of (P := Try.prog) (Value.int .u8) 0 22 5 .i64 Try.underlying22 hi0 hsz0 A0 c0 l0 (m : Int) (by omega) (by omega) hc0
    have hR1 := Kd.C_of_reads (h1 := fun _ => rfl) (hA1 _ (Kd.reads_of_C HR.out))
    have hR2 := Kd.C_of_reads (h1 := fun _ => rfl) (hA2 _ (Kd.reads_of_C HR.out))
    rw [Int.toNat_natCast] at hcut1 hcut2 hR1 hR2 hC1 hC2
    have hlt := List.length_take (i := m) (l := l0)
    have hb1 := isB_take HBY.out m
    have hb2 := isB_drop HBY.out m
    obtain ⟨x1, ex1⟩ : ∃ x, l0.take m = x := ⟨_, rfl⟩
    obtain ⟨x2, ex2⟩ : ∃ x, l0.drop m = x := ⟨_, rfl⟩
    rw [ex1] at hcut1 hR1 hC1 hb1 hlt
    rw [ex2] at hcut2 hR2 hC2 hb2
    rw [ex1, ex2]
    have HR1 : Aside0 (Kd.C (Kd.int .u8) w A0 x1.length x1) := ⟨hR1⟩
    have HR2 : Aside0 (Kd.C (Kd.int .u8) w A2 x2.length x2) := ⟨hR2⟩
    have HSUM := Aside0.mk (sum_f hb1 (by have := HL.out; omega))
    have HTAIL := Aside0.mk (tail_f (moreN 0 x1))
    have HX1 := Aside0.mk (show x1.length ≤ 140737488355328 by have := HL.out; omega)
    have HC1 := Aside0.mk hC1
    have hiff := str_eq1 (tailL_isB (moreN 0 x1)) hb2
    clear hR1 hR2 hA1 hA2 hC1 hC2 hi0 hsz0 hlt hb1 ex1 ex2 hml
    have hlm : (l0.length : Int) ≤ 140737488355328 := by have := HL.out; omega
    obtain ⟨q, e1⟩ : ∃ q : Bool, ((strOfNums (tailL (moreN 0 x1))).toList == (strOfNums x2).toList) = q := ⟨_, rfl⟩
    have hq : q = true ↔ tailL (moreN 0 x1) = x2 := by rw [← e1, beq_iff_eq]; exact hiff
    obtain ⟨rv, re, hres⟩ : ∃ rv re, (if tailL (moreN 0 x1) = x2 then (x1, (0 : Int)) else ([], 5)) = (rv, re) := ⟨_, _, rfl⟩
    rw [hres]
    have HQ : Aside0 ((q = true → rv = x1 ∧ re = 0) ∧ (q = false → rv = [] ∧ re = 5)) := ⟨by
      refine ⟨fun h => ?_, fun h => ?_⟩
      · rw [if_pos (hq.1 h)] at hres
        injection hres with e1 e2
        exact ⟨e1.symm, e2.symm⟩
      · rw [if_neg (fun h2 => by rw [hq.2 h2] at h; cases h)] at hres
        injection hres with e1 e2
        exact ⟨e1.symm, e2.symm⟩⟩
    clear hq hres
    clear hiff hb2
    go_enter Try.func22, Try.ntmps22
    go_wp2
    refine start_ (n := 12) (S := fun w' => Below w.heap.size w w') (ds := []) #[false, false, false, false, false, false, false, false, false, false, false, false] (by kernel_rfl) rfl rfl (below_drew1 (Below.refl _ w)) (fun hHeld => ?_)
    refine with_tabW opn.tab4 opn.bits4 (fun HT_ HW_ => ?_)
    refine pure_ (i := 0) (N := some 12) (v := ?_) (a' := ?_) #[true, false, false, false, false, false, false, false, false, false, false, false] rfl rfl (any_of HT_.out (by kernel_rfl)) (fun _ _ _ h => h) (Or.inl ⟨by rfl, ?_⟩) ?_ ?_
    rotate_left
    · intro w'
      go_simp
      with_reducible rfl
    rotate_left
    · simp only [Act.put, List.setIfInBounds_toArray, List.set_cons_zero, List.set_cons_succ, i64_w, i32_w]
      rfl
    refine pure_ (i := 1) (N := some 13) (v := ?_) (a' := ?_) #[true, true, false, false, false, false, false, false, false, false, false, false] rfl rfl (any_of HT_.out (by kernel_rfl)) (fun _ _ _ h => h) (Or.inl ⟨by rfl, ?_⟩) ?_ ?_
    rotate_left
    · intro w'
      go_simp
      with_reducible rfl
    rotate_left
    · simp only [Act.put, List.setIfInBounds_toArray, List.set_cons_zero, List.set_cons_succ, i64_w, i32_w]
      rfl
    refine pure_ (i := 2) (N := some 14) (v := ?_) (a' := ?_) #[true, true, true, false, false, false, false, false, false, false, false, false] rfl rfl (any_of HT_.out (by kernel_rfl)) (fun _ _ _ h => h) (Or.inl ⟨by rfl, ?_⟩) ?_ ?_
    rotate_left
    · intro w'
      go_simp
      with_reducible rfl
    rotate_left
    · simp only [Act.put, List.setIfInBounds_toArray, List.set_cons_zero, List.set_cons_succ, i64_w, i32_w]
      rfl
    refine pure_ (i := 6) (N := some 18) (v := ?_) (a' := ?_) #[true, true, true, false, false, false, true, false, false, false, false, false] rfl rfl (any_of HT_.out (by kernel_rfl)) (fun _ _ _ h => h) (Or.inl ⟨by rfl, ?_⟩) ?_ ?_
    rotate_left
    · intro w'
      go_simp
      with_reducible rfl
    rotate_left
    · simp only [Act.put, List.setIfInBounds_toArray, List.set_cons_zero, List.set_cons_succ, i64_w, i32_w]
      rfl
    refine pure_ (i := 7) (N := some 19) (v := ?_) (a' := ?_) #[true, true, true, false, false, false, true, true, false, false, false, false] rfl rfl (any_of HT_.out (by kernel_rfl)) (fun _ _ _ h => h) (Or.inl ⟨by rfl, ?_⟩) ?_ ?_
    rotate_left
    · intro w'
      go_simp
      with_reducible rfl
    rotate_left
    · simp only [Act.put, List.setIfInBounds_toArray, List.set_cons_zero, List.set_cons_succ, i64_w, i32_w]
      rfl
    refine pure_ (i := 8) (N := some 20) (v := ?_) (a' := ?_) #[true, true, true, false, false, false, true, true, true, false, false, false] rfl rfl (any_of HT_.out (by kernel_rfl)) (fun _ _ _ h => h) (Or.inl ⟨by rfl, ?_⟩) ?_ ?_
    rotate_left
    · intro w'
      go_simp
      with_reducible rfl
    rotate_left
    · simp only [Act.put, List.setIfInBounds_toArray, List.set_cons_zero, List.set_cons_succ, i64_w, i32_w]
      rfl
    refine take_ (i := 9) (N := some 21) (v := ?_) (a' := ?_) #[true, true, true, false, false, false, true, true, true, true, false, false] rfl rfl (take_ofW HT_.out HW_.out (by kernel_rfl)) (fun _ _ _ h => h) (Or.inl ⟨by rfl, ?_⟩) hHeld ?_ ?_
    rotate_left
    · intro w' hS
      have hcv := Kd.C_string (P := Try.prog) (A := A2) (c := c0 - m) Try.underlying22 Try.underlying5 Try.underlying9 (Kd.C_below HR2.out hS)
      go_simp
      with_reducible rfl
    rotate_left
    · simp only [Act.put, List.setIfInBounds_toArray, List.set_cons_zero, List.set_cons_succ, i64_w, i32_w]
      rfl
    refine one_ (i := 3) (N := some 15) #[true, true, true, true, false, false, true, true, true, true, false, false] rfl rfl (one_of HT_.out (by kernel_rfl)) (by decide) (fun K hK => ?_)
    refine goes_ Try.func33 (by kernel_rfl) rfl #[.slice A0 x1.length c0] (by rfl) rfl rfl (by (try simp only [List.map_toArray, List.map_cons, List.map_nil]); first | done | rfl) ?_
    with_reducible refine (crc_Sum.calls _ _ x1 _ _ (Kd.C_below HR1.out hHeld) HC1.out HSUM.out).mono ?_
    rintro e w4 ⟨rfl, hb⟩
    refine ⟨_, rfl, ?_⟩
    have hS_ := below_step hHeld hb
    refine hK.out _ _ hS_ (fun hHeld => ?_)
    clear hK K
    refine norm_ (a' := ?_) ?_ ?_
    rotate_left
    · show Act.put _ (some 15) _ = _
      simp only [Act.put, List.setIfInBounds_toArray, List.set_cons_zero, List.set_cons_succ, i64_w, i32_w]
      rfl
    refine one_ (i := 4) (N := some 16) #[true, true, true, true, true, false, true, true, true, true, false, false] rfl rfl (one_of HT_.out (by kernel_rfl)) (by decide) (fun K hK => ?_)
    refine goes_ Try.func32 (by kernel_rfl) rfl #[.int .u32 ((moreN 0 x1 : Nat) : Int)] (by rfl) rfl rfl (by (try simp only [List.map_toArray, List.map_cons, List.map_nil]); first | done | rfl) ?_
    with_reducible refine (crc_Tail.calls _ _ _ HTAIL.out).mono ?_
    rintro e w5 ⟨v2, rfl, ho2, hb5⟩
    obtain ⟨A5, c5, rfl⟩ := Kd.R_slice ho2
    have HT := Aside0.mk (Kd.R_reads' ho2).2.2
    refine ⟨_, rfl, ?_⟩
    have hS_ := below_step hHeld hb5
    refine hK.out _ _ hS_ (fun hHeld => ?_)
    clear hK K
    refine norm_ (a' := ?_) ?_ ?_
    rotate_left
    · show Act.put _ (some 16) _ = _
      simp only [Act.put, List.setIfInBounds_toArray, List.set_cons_zero, List.set_cons_succ, i64_w, i32_w]
      rfl
    refine one_ (i := 5) (N := some 17) #[true, true, true, true, true, true, true, true, true, true, false, false] rfl rfl (one_of HT_.out (by kernel_rfl)) (by decide) (fun K hK => ?_)
    have hcv := Kd.C_string (P := Try.prog) (A := A5) (c := c5) Try.underlying22 Try.underlying5 Try.underlying9 HT.out
    refine value_ (v := .string (strOfNums (tailL (moreN 0 x1)))) (w1 := w5) (by rfl) rfl ?_ ?_
    · go_simp
    have hS_ := hHeld
    refine hK.out _ _ hS_ (fun hHeld => ?_)
    clear hK K
    refine norm_ (a' := ?_) ?_ ?_
    rotate_left
    · show Act.put _ (some 17) _ = _
      simp only [Act.put, List.setIfInBounds_toArray, List.set_cons_zero, List.set_cons_succ, i64_w, i32_w]
      rfl
    refine pure_ (i := 10) (N := some 22) (v := ?_) (a' := ?_) #[true, true, true, true, true, true, true, true, true, true, true, false] rfl rfl (any_of HT_.out (by kernel_rfl)) (fun _ _ _ h => h) (Or.inl ⟨by rfl, ?_⟩) ?_ ?_
    rotate_left
    · intro w'
      go_simp
      with_reducible rfl
    rotate_left
    · simp only [Act.put, List.setIfInBounds_toArray, List.set_cons_zero, List.set_cons_succ, i64_w, i32_w]
      rfl
    refine pure_ (i := 11) (N := some 11) (v := ?_) (a' := ?_) #[true, true, true, true, true, true, true, true, true, true, true, true] rfl rfl (any_of HT_.out (by kernel_rfl)) (fun _ _ _ h => h) (Or.inl ⟨by rfl, ?_⟩) ?_ ?_
    rotate_left
    · intro w'
      go_simp
      with_reducible rfl
    rotate_left
    · simp only [Act.put, List.setIfInBounds_toArray, List.set_cons_zero, List.set_cons_succ, i64_w, i32_w]
      rfl
    refine done_ (done_of HT_.out (by kernel_rfl)) ?_
    have HB := Aside0.mk hHeld
    cases q with
    | true =>
      go_wp2_with (go_at_call 34; refine (own5_calls _ _ x1 _ (Kd.C_below HR1.out HB.out) HX1.out).mono ?_; rintro e w6 ⟨v6, rfl, ho, hb⟩; have HO := Aside0.mk ho; have n1_ := Aside0.mk (below_step HB.out hb); have HS := Aside0.mk HB.out.size; clear HB; have HB := n1_; clear ho hb)
      go_ret2
      obtain ⟨rfl, rfl⟩ := HQ.out.1 (by simp)
      exact ⟨_, rfl, HO.out.step HS.out (fun _ _ => rfl), HB.out⟩
    | false =>
      go_wp2
      go_ret2
      obtain ⟨rfl, rfl⟩ := HQ.out.2 (by simp)
      exact ⟨_, rfl, B5.nil _ _, HB.out⟩
end Go.Proofs.Ytcnapbpljghfoaa.Hand

/- The contract, proved by hand, of frame.Take: the record at a place of bytes, its end, or why there is none. -/
namespace Go.Proofs.Ytcnapbpljghfoaa.Plain
open Go.RowKit Go.Proofs.YtcnapbpljghfoaaW.PrintWords
open Go.Proofs.Ytcnapbpljghfoaa.PCrc
set_option linter.unusedVariables false
/-- The number of three bytes, the greatest first. -/
def three (l : List Int) : Nat := (l.getD 0 0).toNat * 65536 + (l.getD 1 0).toNat * 256 + (l.getD 2 0).toNat
theorem or_add (a b : Nat) (hb : b < 256) : a * 256 ||| b = a * 256 + b := by
  have := Nat.two_pow_add_eq_or_of_lt (i := 8) (b := b) (by simpa using hb) a
  rw [Nat.mul_comm a 256]
  exact this.symm
theorem fixedV_three {l : List Int} (hb : isB l) (hl : l.length = 3) : Hand.fixedV l = ((three l : Nat) : Int) := by
  obtain ⟨a, b, c, rfl⟩ : ∃ a b c, l = [a, b, c] := by
    match l, hl with
    | [a, b, c], _ => exact ⟨a, b, c, rfl⟩
  have ha := hb a (by simp)
  have hbb := hb b (by simp)
  have hc := hb c (by simp)
  obtain ⟨a, rfl⟩ := Int.eq_ofNat_of_zero_le ha.1
  obtain ⟨b, rfl⟩ := Int.eq_ofNat_of_zero_le hbb.1
  obtain ⟨c, rfl⟩ := Int.eq_ofNat_of_zero_le hc.1
  have w : ∀ x : Nat, x < 18446744073709551616 → IntKind.u64.wrap (x : Int) = (x : Int) := by
    intro x hx
    rw [IntKind.wrap_u64]
    omega
  have step : ∀ m x : Nat, m < 65536 → x < 256 → Go.bits .or .u64 (IntKind.u64.wrap ((m : Int) * 256)) (IntKind.u64.wrap (x : Int)) = ((m * 256 + x : Nat) : Int) := by
    intro m x hm hx
    rw [show (m : Int) * 256 = ((m * 256 : Nat) : Int) from by omega, w _ (by omega), w _ (by omega), Go.u64_or_nat _ _ (by omega) (by omega), or_add m x hx]
  unfold Hand.fixedV three
  simp only [List.foldl_cons, List.foldl_nil]
  rw [show (0 : Int) = ((0 : Nat) : Int) from rfl, step 0 a (by omega) (by omega), step _ b (by omega) (by omega), step _ c (by omega) (by omega)]
  simp
  omega
theorem three_lt {l : List Int} (hb : isB l) (hl : l.length = 3) : three l < 16777216 := by
  obtain ⟨a, b, c, rfl⟩ : ∃ a b c, l = [a, b, c] := by
    match l, hl with
    | [a, b, c], _ => exact ⟨a, b, c, rfl⟩
  have ha := hb a (by simp)
  have hbb := hb b (by simp)
  have hc := hb c (by simp)
  simp [three]
  omega
/-- What crc.Open tells is as long as it must be. -/
theorem openL_len {l : List Int} (h : (openL l).2 = 0) : (openL l).1 = l.take (l.length - 4) ∧ 4 ≤ l.length := by
  unfold openL at h ⊢
  split
  · rename_i h4; rw [if_pos h4] at h; cases h
  · rename_i h4
    rw [if_neg h4] at h
    split
    · exact ⟨rfl, by omega⟩
    · rename_i h5; rw [if_neg h5] at h; cases h
theorem openL_err {l : List Int} (h : (openL l).2 ≠ 0) : (openL l).1 = [] := by
  unfold openL at h ⊢
  split
  · rfl
  · rename_i h4
    rw [if_neg h4] at h
    split
    · rename_i h5; rw [if_pos h5] at h; exact absurd rfl h
    · rfl
theorem openL_isB {l : List Int} (hb : isB l) : isB (openL l).1 := by
  by_cases h : (openL l).2 = 0
  · rw [(openL_len h).1]; exact isB_take hb _
  · rw [openL_err h]; intro x hx; cases hx
/-- Behind the head (h: what of it is opened; r: all from the place on; a: the place). -/
def recB (h r : List Int) (a : Int) : Int × List Int × Int × Int :=
  if h.getD 0 0 < 1 ∨ 250 < h.getD 0 0 ∨ 70000 < three (h.drop 1) then (0, [], 0, 3)
  else if (r.length : Int) - 8 < (three (h.drop 1) : Int) + 4 then (0, [], 0, 4)
  else if (openL ((r.take (12 + three (h.drop 1))).drop 8)).2 = 0 then (h.getD 0 0, (openL ((r.take (12 + three (h.drop 1))).drop 8)).1, a + 12 + (three (h.drop 1) : Int), 0)
  else (0, [], 0, (openL ((r.take (12 + three (h.drop 1))).drop 8)).2)
/-- What frame.Take tells: kind, body, the place behind, the error. -/
def takeF (l : List Int) (a : Int) : Int × List Int × Int × Int :=
  if a < 0 ∨ (l.length : Int) < a then (0, [], 0, 1)
  else if (l.drop a.toNat).length < 8 then (0, [], 0, 4)
  else if (openL ((l.drop a.toNat).take 8)).2 = 0 then recB (openL ((l.drop a.toNat).take 8)).1 (l.drop a.toNat) a
  else (0, [], 0, (openL ((l.drop a.toNat).take 8)).2)
end Go.Proofs.Ytcnapbpljghfoaa.Plain
namespace Go.Proofs.Ytcnapbpljghfoaa.Hand
open Go.RowKit Go.Proofs.YtcnapbpljghfoaaW.PrintWords Go.Proofs.YtcnapbpljghfoaaW.PrintLast Go.Proofs.YtcnapbpljghfoaaW.PrintMore
open Go.Proofs.Ytcnapbpljghfoaa.Plain Go.Proofs.Ytcnapbpljghfoaa.PCrc
set_option linter.unusedVariables false
set_option linter.unusedSimpArgs false
def takeO (l : List Int) (a : Int) : Option (Int × List Int × Int × Int) := if (∀ x ∈ l, 0 ≤ x ∧ x < 256) ∧ l.length ≤ 140737488355328 then some (takeF l a) else none
/-- The two cells of a record's box. -/
def FBox (g : Nat) (a b : Value) (W : World) : Prop := W.heap[g]? = some (.cells #[a, b] 29 (0, 0))
theorem FBox.ends {W : World} {g : Nat} {a b : Value} (h : FBox g a b W) {tmps : Array Value} {x y : Value} (hp : tmps.getD 4 undef = .pointer (some ⟨g, 0, none⟩)) (hx : tmps.getD 5 undef = x) (hy : tmps.getD 6 undef = y) :
    (results Try.f13 tmps).run Try.prog W = .ok (.tuple #[.agg #[a, b], x, y]) W := by
  subst hx hy
  exact results_ctt rfl tmps W g 29 #[a, b] (0, 0) _ hp h Try.underlying29 rfl rfl
theorem FBox.set {W : World} {g : Nat} {a b : Value} (h : FBox g a b W) (c d : Value) : FBox g c d ((W.setCell ⟨g, 0, none⟩ c).setCell ⟨g, 1, none⟩ d) := by
  have h1 := blk_set h 0 c
  have h2 := blk_set h1 1 d
  exact h2

set_option maxHeartbeats 4000000 in
set_option maxRecDepth 100000 in
theorem take5_calls (A0 : Option Addr) (c0 : Nat) (l0 : List Int) (a1 : Int) (r1 : Int) (r2 : List Int) (r3 : Int) (r4 : Int) (w : World) (hr0 : Kd.C (Kd.int .u8) w A0 l0.length l0) (hc0 : l0.length ≤ c0) (h : takeO l0 a1 = some (r1, r2, r3, r4)) :
    Calls Try.prog 13 #[.slice A0 l0.length c0, .int .i64 a1] w fun e w' => ∃ v1_ : Value, e = .returned (.tuple #[.agg #[.int .i64 r1, v1_], .int .i64 r3, .int .i64 r4]) ∧ B5 w' w.heap.size v1_ r2 ∧ Below w.heap.size w w' := by
  unfold takeO at h
  by_cases hcnd : (∀ x ∈ l0, 0 ≤ x ∧ x < 256) ∧ l0.length ≤ 140737488355328
  · rw [if_pos hcnd] at h
    replace h := Option.some.inj h
    have HBY := Aside0.mk (show isB l0 from hcnd.1)
    have HL := Aside0.mk hcnd.2
    have HR := Aside0.mk hr0
    clear hcnd hr0
    unfold takeF at h
    have HB0 := Aside0.mk (Below.refl w.heap.size w)
    by_cases c1 : a1 < 0
    · rw [if_pos (.inl c1)] at h
      (injection h with e1 h; injection h with e2 h; injection h with e3 e4; subst e1 e2 e3 e4)
      have d1 : decide (a1 < 0) = true := decide_eq_true c1
      go_enter Try.func13, Try.ntmps13
      go_wp2_with (first | ((with_reducible refine gate_dst (N := 4) rfl ?_); refine box_event ?hg (N := 4) ?hd (cs := #[.int .i64 0, .slice none 0 0]) (t := 29) ?hr ?_; (case hd => rfl); (case hg => rfl); (case hr => first | (go_simp; done) | (go_simp; rfl)); intro gb hgb w4 hbox hb; have HGE := Aside0.mk (show w.heap.size ≤ gb by omega); have HB := Aside0.mk hb; have hx0 := blk_cell hbox 0; have hx1 := blk_cell hbox 1; have hy0 := blk_frozen hbox 0; have hy1 := blk_frozen hbox 1; have HX := Aside0.mk (show FBox gb _ _ w4 from hbox); clear hgb hb hbox))
      (go_wp2; refine bodyPost_ret (FBox.ends (HX.out.set _ _) rfl rfl rfl) rfl ⟨_, rfl, B5.nil _ _, (below_set (below_set HB.out HGE.out) HGE.out)⟩)
    · obtain ⟨a, rfl⟩ := Int.eq_ofNat_of_zero_le (show 0 ≤ a1 by omega)
      have d1 : decide ((a : Int) < 0) = false := decide_eq_false c1
      by_cases c2 : (l0.length : Int) < (a : Int)
      · rw [if_pos (.inr c2)] at h
        (injection h with e1 h; injection h with e2 h; injection h with e3 e4; subst e1 e2 e3 e4)
        have d2 : decide ((l0.length : Int) < (a : Int)) = true := decide_eq_true c2
        have d3 : decide (l0.length < a) = true := decide_eq_true (by omega)
        go_enter Try.func13, Try.ntmps13
        go_wp2_with (first | ((with_reducible refine gate_dst (N := 4) rfl ?_); refine box_event ?hg (N := 4) ?hd (cs := #[.int .i64 0, .slice none 0 0]) (t := 29) ?hr ?_; (case hd => rfl); (case hg => rfl); (case hr => first | (go_simp; done) | (go_simp; rfl)); intro gb hgb w4 hbox hb; have HGE := Aside0.mk (show w.heap.size ≤ gb by omega); have HB := Aside0.mk hb; have hx0 := blk_cell hbox 0; have hx1 := blk_cell hbox 1; have hy0 := blk_frozen hbox 0; have hy1 := blk_frozen hbox 1; have HX := Aside0.mk (show FBox gb _ _ w4 from hbox); clear hgb hb hbox))
        (go_wp2; refine bodyPost_ret (FBox.ends (HX.out.set _ _) rfl rfl rfl) rfl ⟨_, rfl, B5.nil _ _, (below_set (below_set HB.out HGE.out) HGE.out)⟩)
      · rw [if_neg (by omega)] at h
        have d2 : decide ((l0.length : Int) < (a : Int)) = false := decide_eq_false c2
        have d3 : decide (l0.length < a) = false := decide_eq_false (by omega)
        obtain ⟨i0, hi0, _, hsz0, _⟩ := info_parts hinfo_u8
        obtain ⟨A1, hcut1, hA1, hC1⟩ := print_drop_of (P := Try.prog) (Value.int .u8) 0 22 5 .i64 Try.underlying22 hi0 hsz0 A0 c0 l0 (a : Int) (by omega) (by omega) hc0
        have hR1 := Kd.C_of_reads (h1 := fun _ => rfl) (hA1 _ (Kd.reads_of_C HR.out))
        have hBr := isB_drop HBY.out a
        have hLr : (l0.drop a).length ≤ l0.length := by rw [List.length_drop]; omega
        simp only [Int.toNat_natCast] at hcut1 hR1 hC1 h
        obtain ⟨r, er⟩ : ∃ x, l0.drop a = x := ⟨_, rfl⟩
        obtain ⟨cr, ecr⟩ : ∃ x, c0 - a = x := ⟨_, rfl⟩
        rw [er] at hcut1 hR1 hC1 h hBr hLr
        rw [ecr] at hcut1 hC1
        have HBr := Aside0.mk hBr
        have HLr := Aside0.mk (Nat.le_trans hLr HL.out)
        have HAL := Aside0.mk (show a ≤ l0.length by omega)
        have HRr : Aside0 (Kd.C (Kd.int .u8) w A1 r.length r) := ⟨hR1⟩
        have HCr := Aside0.mk hC1
        clear hBr hLr er ecr hR1 hC1 hA1
        by_cases c3 : r.length < 8
        · rw [if_pos c3] at h
          (injection h with e1 h; injection h with e2 h; injection h with e3 e4; subst e1 e2 e3 e4)
          have d4 : decide ((r.length : Int) < 8) = true := decide_eq_true (by omega)
          go_enter Try.func13, Try.ntmps13
          go_wp2_with (first | ((with_reducible refine gate_dst (N := 4) rfl ?_); refine box_event ?hg (N := 4) ?hd (cs := #[.int .i64 0, .slice none 0 0]) (t := 29) ?hr ?_; (case hd => rfl); (case hg => rfl); (case hr => first | (go_simp; done) | (go_simp; rfl)); intro gb hgb w4 hbox hb; have HGE := Aside0.mk (show w.heap.size ≤ gb by omega); have HB := Aside0.mk hb; have hx0 := blk_cell hbox 0; have hx1 := blk_cell hbox 1; have hy0 := blk_frozen hbox 0; have hy1 := blk_frozen hbox 1; have HX := Aside0.mk (show FBox gb _ _ w4 from hbox); clear hgb hb hbox))
          (go_wp2; refine bodyPost_ret (FBox.ends (HX.out.set _ _) rfl rfl rfl) rfl ⟨_, rfl, B5.nil _ _, (below_set (below_set HB.out HGE.out) HGE.out)⟩)
        · rw [if_neg c3] at h
          have d4 : decide ((r.length : Int) < 8) = false := decide_eq_false (by omega)
          have HC3 := Aside0.mk c3
          obtain ⟨hcut2, hA2, hC2⟩ := print_take_of (P := Try.prog) (Value.int .u8) 0 22 5 .i64 Try.underlying22 hi0 hsz0 A1 cr r (8 : Int) (by omega) (by omega) HCr.out
          have hR2 := Kd.C_of_reads (h1 := fun _ => rfl) (hA2 _ (Kd.reads_of_C HRr.out))
          have hB8 := isB_take HBr.out 8
          have hl8 : (r.take 8).length = 8 := by rw [List.length_take]; omega
          rw [show (8 : Int).toNat = 8 from rfl] at hcut2 hR2
          obtain ⟨x8, ex8⟩ : ∃ x, r.take 8 = x := ⟨_, rfl⟩
          rw [ex8] at hcut2 hR2 h hB8 hl8
          have hop := open_f hB8 (by omega)
          have hoB := openL_isB hB8
          have hol := openL_len (l := x8)
          have hoe := openL_err (l := x8)
          obtain ⟨x4, e4, eop⟩ : ∃ x e, openL x8 = (x, e) := ⟨_, _, rfl⟩
          rw [eop] at hop h hoB hol hoe
          dsimp only at h hoB hol hoe
          have HOP := Aside0.mk (fun (w' : World) (hw : Kd.C (Kd.int .u8) w' A1 x8.length x8) => crc_Open.calls A1 cr x8 x4 e4 w' hw (by have := HCr.out; omega) hop)
          rw [hl8] at hcut2 hR2 HOP
          have HR8 : Aside0 (Kd.C (Kd.int .u8) w A1 8 x8) := ⟨hR2⟩
          clear hR2 hop hB8 hA2 hC2 c3 eop
          by_cases c4 : e4 = 0
          · subst c4
            rw [if_pos rfl] at h
            have hl4 : x4.length = 4 := by rw [(hol rfl).1, List.length_take]; omega
            obtain ⟨k0, ek0⟩ : ∃ k, x4.getD 0 0 = k := ⟨_, rfl⟩
            have hk0 : 0 ≤ k0 ∧ k0 < 256 := by
              rw [← ek0, List.getD_eq_getElem?_getD, List.getElem?_eq_getElem (show 0 < x4.length by omega)]
              exact hoB _ (List.getElem_mem _)
            have hB3 := isB_drop hoB 1
            have hl3 : (x4.drop 1).length = 3 := by rw [List.length_drop]; omega
            have hfx : fixedF (x4.drop 1) 3 = some (((three (x4.drop 1) : Nat) : Int), 0) := by
              unfold fixedF
              rw [if_neg (by omega), if_neg (by omega), List.take_of_length_le (by rw [hl3]; decide), fixedV_three hB3 hl3]
            have hn3 := three_lt hB3 hl3
            unfold recB at h
            rw [ek0] at h
            obtain ⟨n, en⟩ : ∃ n, three (x4.drop 1) = n := ⟨_, rfl⟩
            rw [en] at hfx hn3 h
            have HFX := Aside0.mk hfx
            have HL4 := Aside0.mk hl4
            have HL3 := Aside0.mk hl3
            have HEK := Aside0.mk ek0
            have hk1 := hk0.1
            have hk2 := hk0.2
            clear hfx hl3 hB3 en hol hoe hoB hk0 ek0
            by_cases c5 : k0 < 1
            · have d5 : decide (k0 < 1) = true := decide_eq_true c5
              rw [if_pos (.inl c5)] at h
              (injection h with e1 h; injection h with e2 h; injection h with e3 e4; subst e1 e2 e3 e4)
              go_enter Try.func13, Try.ntmps13
              go_wp2_with (first | ((with_reducible refine gate_dst (N := 4) rfl ?_); refine box_event ?hg (N := 4) ?hd (cs := #[.int .i64 0, .slice none 0 0]) (t := 29) ?hr ?_; (case hd => rfl); (case hg => rfl); (case hr => first | (go_simp; done) | (go_simp; rfl)); intro gb hgb w4 hbox hb; have HGE := Aside0.mk (show w.heap.size ≤ gb by omega); have HB := Aside0.mk hb; have hx0 := blk_cell hbox 0; have hx1 := blk_cell hbox 1; have hy0 := blk_frozen hbox 0; have hy1 := blk_frozen hbox 1; have HX := Aside0.mk (show FBox gb _ _ w4 from hbox); clear hgb hb hbox) | (((with_reducible refine gate_callee (f := 22) rfl ?_); refine goesL_ (some 34) rfl rfl Try.func22 (by kernel_rfl) rfl #[.slice A1 8 cr] rfl (by (try simp only [List.map_toArray, List.map_cons, List.map_nil]); first | done | rfl) ?_; refine (HOP.out _ (Kd.C_below HR8.out HB.out)).mono ?_; rintro e w5 ⟨v5, rfl, ho, hb⟩; refine ⟨_, rfl, ?_⟩; obtain ⟨A2, c2, rfl, hle2, hF2⟩ := ho; have HF2 := Aside0.mk hF2; have HLE2 := Aside0.mk hle2; clear hF2 hle2; (have n0_ := Aside0.mk (below_step HB.out hb); have n1_ := Aside0.mk (show FBox gb _ _ _ from blk_below HX.out hb); clear HB HX hx0 hx1 hy0 hy1; have HB := n0_; have HX := n1_; clear n0_ n1_ hb; (have hx0 := blk_cell HX.out 0; have hx1 := blk_cell HX.out 1; have hy0 := blk_frozen HX.out 0; have hy1 := blk_frozen HX.out 1))); (obtain ⟨A3, hcut3, hA3, hC3⟩ := print_drop_of (P := Try.prog) (Value.int .u8) 0 22 5 .i64 Try.underlying22 hi0 hsz0 A2 c2 x4 (1 : Int) (by omega) (by have := HL4.out; omega) HLE2.out; have hR3 := Kd.C_of_reads (h1 := fun _ => rfl) (hA3 _ (Kd.reads_of_C (Kd.F_now HF2.out))); rw [show (1 : Int).toNat = 1 from rfl] at hcut3 hR3 hC3; have HR3 : Aside0 (Kd.C (Kd.int .u8) w5 A3 (x4.drop 1).length (x4.drop 1)) := ⟨hR3⟩; obtain ⟨ad, rfl, hcell⟩ := Kd.at_int (Kd.F_now HF2.out) 0 (by omega) (by have := HL4.out; omega); rw [show rd x4 0 = k0 from HEK.out, show ((0 : Int)).toNat = 0 from rfl] at hcell; have hcell0 : w5.cell? ad = some (.int .u8 k0) := (by simpa [Addr.add] using hcell); rw [HL3.out, HL4.out] at hcut3; rw [HL3.out] at hC3; have HC3' := Aside0.mk hC3; have HCALL := Aside0.mk (fun (w' : World) (hw : Kd.C (Kd.int .u8) w' A3 (x4.drop 1).length (x4.drop 1)) => fixed_calls A3 (c2 - 1) (x4.drop 1) 3 (n : Int) 0 w' hw (by have := HL3.out; have := HC3'.out; omega) HFX.out); rw [HL3.out] at HCALL; have HR3' := HR3; rw [HL3.out] at HR3'; clear hR3 hA3 hC3; (try rw [HL4.out]))) | (go_at_call 23; refine (HCALL.out _ HR3'.out).mono ?_; rintro e w6 ⟨rfl, ⟨nd, rfl⟩⟩; have n0_ := Aside0.mk (pw_below_drewN HB.out nd); have n1_ := Aside0.mk (show FBox gb _ _ (w5.drewN nd) from blk_drewN HX.out nd); clear HB HX hx0 hx1 hy0 hy1; have HB := n0_; have HX := n1_; clear n0_ n1_; (have hx0 := blk_cell HX.out 0; have hx1 := blk_cell HX.out 1; have hy0 := blk_frozen HX.out 0; have hy1 := blk_frozen HX.out 1)))
              (go_wp2; refine bodyPost_ret (FBox.ends (HX.out.set _ _) rfl rfl rfl) rfl ⟨_, rfl, B5.nil _ _, (below_set (below_set HB.out HGE.out) HGE.out)⟩)
            · have d5 : decide (k0 < 1) = false := decide_eq_false c5
              by_cases c6 : 250 < k0
              · have d6 : decide (250 < k0) = true := decide_eq_true c6
                rw [if_pos (.inr (.inl c6))] at h
                (injection h with e1 h; injection h with e2 h; injection h with e3 e4; subst e1 e2 e3 e4)
                go_enter Try.func13, Try.ntmps13
                go_wp2_with (first | ((with_reducible refine gate_dst (N := 4) rfl ?_); refine box_event ?hg (N := 4) ?hd (cs := #[.int .i64 0, .slice none 0 0]) (t := 29) ?hr ?_; (case hd => rfl); (case hg => rfl); (case hr => first | (go_simp; done) | (go_simp; rfl)); intro gb hgb w4 hbox hb; have HGE := Aside0.mk (show w.heap.size ≤ gb by omega); have HB := Aside0.mk hb; have hx0 := blk_cell hbox 0; have hx1 := blk_cell hbox 1; have hy0 := blk_frozen hbox 0; have hy1 := blk_frozen hbox 1; have HX := Aside0.mk (show FBox gb _ _ w4 from hbox); clear hgb hb hbox) | (((with_reducible refine gate_callee (f := 22) rfl ?_); refine goesL_ (some 34) rfl rfl Try.func22 (by kernel_rfl) rfl #[.slice A1 8 cr] rfl (by (try simp only [List.map_toArray, List.map_cons, List.map_nil]); first | done | rfl) ?_; refine (HOP.out _ (Kd.C_below HR8.out HB.out)).mono ?_; rintro e w5 ⟨v5, rfl, ho, hb⟩; refine ⟨_, rfl, ?_⟩; obtain ⟨A2, c2, rfl, hle2, hF2⟩ := ho; have HF2 := Aside0.mk hF2; have HLE2 := Aside0.mk hle2; clear hF2 hle2; (have n0_ := Aside0.mk (below_step HB.out hb); have n1_ := Aside0.mk (show FBox gb _ _ _ from blk_below HX.out hb); clear HB HX hx0 hx1 hy0 hy1; have HB := n0_; have HX := n1_; clear n0_ n1_ hb; (have hx0 := blk_cell HX.out 0; have hx1 := blk_cell HX.out 1; have hy0 := blk_frozen HX.out 0; have hy1 := blk_frozen HX.out 1))); (obtain ⟨A3, hcut3, hA3, hC3⟩ := print_drop_of (P := Try.prog) (Value.int .u8) 0 22 5 .i64 Try.underlying22 hi0 hsz0 A2 c2 x4 (1 : Int) (by omega) (by have := HL4.out; omega) HLE2.out; have hR3 := Kd.C_of_reads (h1 := fun _ => rfl) (hA3 _ (Kd.reads_of_C (Kd.F_now HF2.out))); rw [show (1 : Int).toNat = 1 from rfl] at hcut3 hR3 hC3; have HR3 : Aside0 (Kd.C (Kd.int .u8) w5 A3 (x4.drop 1).length (x4.drop 1)) := ⟨hR3⟩; obtain ⟨ad, rfl, hcell⟩ := Kd.at_int (Kd.F_now HF2.out) 0 (by omega) (by have := HL4.out; omega); rw [show rd x4 0 = k0 from HEK.out, show ((0 : Int)).toNat = 0 from rfl] at hcell; have hcell0 : w5.cell? ad = some (.int .u8 k0) := (by simpa [Addr.add] using hcell); rw [HL3.out, HL4.out] at hcut3; rw [HL3.out] at hC3; have HC3' := Aside0.mk hC3; have HCALL := Aside0.mk (fun (w' : World) (hw : Kd.C (Kd.int .u8) w' A3 (x4.drop 1).length (x4.drop 1)) => fixed_calls A3 (c2 - 1) (x4.drop 1) 3 (n : Int) 0 w' hw (by have := HL3.out; have := HC3'.out; omega) HFX.out); rw [HL3.out] at HCALL; have HR3' := HR3; rw [HL3.out] at HR3'; clear hR3 hA3 hC3; (try rw [HL4.out]))) | (go_at_call 23; refine (HCALL.out _ HR3'.out).mono ?_; rintro e w6 ⟨rfl, ⟨nd, rfl⟩⟩; have n0_ := Aside0.mk (pw_below_drewN HB.out nd); have n1_ := Aside0.mk (show FBox gb _ _ (w5.drewN nd) from blk_drewN HX.out nd); clear HB HX hx0 hx1 hy0 hy1; have HB := n0_; have HX := n1_; clear n0_ n1_; (have hx0 := blk_cell HX.out 0; have hx1 := blk_cell HX.out 1; have hy0 := blk_frozen HX.out 0; have hy1 := blk_frozen HX.out 1)))
                (go_wp2; refine bodyPost_ret (FBox.ends (HX.out.set _ _) rfl rfl rfl) rfl ⟨_, rfl, B5.nil _ _, (below_set (below_set HB.out HGE.out) HGE.out)⟩)
              · have d6 : decide (250 < k0) = false := decide_eq_false c6
                by_cases c7 : 70000 < n
                · have d7 : decide (70000 < (n : Int)) = true := decide_eq_true (by omega)
                  rw [if_pos (.inr (.inr c7))] at h
                  (injection h with e1 h; injection h with e2 h; injection h with e3 e4; subst e1 e2 e3 e4)
                  go_enter Try.func13, Try.ntmps13
                  go_wp2_with (first | ((with_reducible refine gate_dst (N := 4) rfl ?_); refine box_event ?hg (N := 4) ?hd (cs := #[.int .i64 0, .slice none 0 0]) (t := 29) ?hr ?_; (case hd => rfl); (case hg => rfl); (case hr => first | (go_simp; done) | (go_simp; rfl)); intro gb hgb w4 hbox hb; have HGE := Aside0.mk (show w.heap.size ≤ gb by omega); have HB := Aside0.mk hb; have hx0 := blk_cell hbox 0; have hx1 := blk_cell hbox 1; have hy0 := blk_frozen hbox 0; have hy1 := blk_frozen hbox 1; have HX := Aside0.mk (show FBox gb _ _ w4 from hbox); clear hgb hb hbox) | (((with_reducible refine gate_callee (f := 22) rfl ?_); refine goesL_ (some 34) rfl rfl Try.func22 (by kernel_rfl) rfl #[.slice A1 8 cr] rfl (by (try simp only [List.map_toArray, List.map_cons, List.map_nil]); first | done | rfl) ?_; refine (HOP.out _ (Kd.C_below HR8.out HB.out)).mono ?_; rintro e w5 ⟨v5, rfl, ho, hb⟩; refine ⟨_, rfl, ?_⟩; obtain ⟨A2, c2, rfl, hle2, hF2⟩ := ho; have HF2 := Aside0.mk hF2; have HLE2 := Aside0.mk hle2; clear hF2 hle2; (have n0_ := Aside0.mk (below_step HB.out hb); have n1_ := Aside0.mk (show FBox gb _ _ _ from blk_below HX.out hb); clear HB HX hx0 hx1 hy0 hy1; have HB := n0_; have HX := n1_; clear n0_ n1_ hb; (have hx0 := blk_cell HX.out 0; have hx1 := blk_cell HX.out 1; have hy0 := blk_frozen HX.out 0; have hy1 := blk_frozen HX.out 1))); (obtain ⟨A3, hcut3, hA3, hC3⟩ := print_drop_of (P := Try.prog) (Value.int .u8) 0 22 5 .i64 Try.underlying22 hi0 hsz0 A2 c2 x4 (1 : Int) (by omega) (by have := HL4.out; omega) HLE2.out; have hR3 := Kd.C_of_reads (h1 := fun _ => rfl) (hA3 _ (Kd.reads_of_C (Kd.F_now HF2.out))); rw [show (1 : Int).toNat = 1 from rfl] at hcut3 hR3 hC3; have HR3 : Aside0 (Kd.C (Kd.int .u8) w5 A3 (x4.drop 1).length (x4.drop 1)) := ⟨hR3⟩; obtain ⟨ad, rfl, hcell⟩ := Kd.at_int (Kd.F_now HF2.out) 0 (by omega) (by have := HL4.out; omega); rw [show rd x4 0 = k0 from HEK.out, show ((0 : Int)).toNat = 0 from rfl] at hcell; have hcell0 : w5.cell? ad = some (.int .u8 k0) := (by simpa [Addr.add] using hcell); rw [HL3.out, HL4.out] at hcut3; rw [HL3.out] at hC3; have HC3' := Aside0.mk hC3; have HCALL := Aside0.mk (fun (w' : World) (hw : Kd.C (Kd.int .u8) w' A3 (x4.drop 1).length (x4.drop 1)) => fixed_calls A3 (c2 - 1) (x4.drop 1) 3 (n : Int) 0 w' hw (by have := HL3.out; have := HC3'.out; omega) HFX.out); rw [HL3.out] at HCALL; have HR3' := HR3; rw [HL3.out] at HR3'; clear hR3 hA3 hC3; (try rw [HL4.out]))) | (go_at_call 23; refine (HCALL.out _ HR3'.out).mono ?_; rintro e w6 ⟨rfl, ⟨nd, rfl⟩⟩; have n0_ := Aside0.mk (pw_below_drewN HB.out nd); have n1_ := Aside0.mk (show FBox gb _ _ (w5.drewN nd) from blk_drewN HX.out nd); clear HB HX hx0 hx1 hy0 hy1; have HB := n0_; have HX := n1_; clear n0_ n1_; (have hx0 := blk_cell HX.out 0; have hx1 := blk_cell HX.out 1; have hy0 := blk_frozen HX.out 0; have hy1 := blk_frozen HX.out 1)))
                  (go_wp2; refine bodyPost_ret (FBox.ends (HX.out.set _ _) rfl rfl rfl) rfl ⟨_, rfl, B5.nil _ _, (below_set (below_set HB.out HGE.out) HGE.out)⟩)
                · have d7 : decide (70000 < (n : Int)) = false := decide_eq_false (by omega)
                  rw [if_neg (by omega)] at h
                  have hn7 : n ≤ 70000 := by omega
                  have HRL := Aside0.mk (show 8 ≤ r.length by have := HC3.out; omega)
                  have hrl := Nat.le_trans HRL.out (Nat.le_refl _)
                  have hrm := HLr.out
                  by_cases c8 : (r.length : Int) - 8 < (n : Int) + 4
                  · have d8 : decide ((r.length : Int) - 8 < (n : Int) + 4) = true := decide_eq_true c8
                    rw [if_pos c8] at h
                    (injection h with e1 h; injection h with e2 h; injection h with e3 e4; subst e1 e2 e3 e4)
                    go_enter Try.func13, Try.ntmps13
                    go_wp2_with (first | ((with_reducible refine gate_dst (N := 4) rfl ?_); refine box_event ?hg (N := 4) ?hd (cs := #[.int .i64 0, .slice none 0 0]) (t := 29) ?hr ?_; (case hd => rfl); (case hg => rfl); (case hr => first | (go_simp; done) | (go_simp; rfl)); intro gb hgb w4 hbox hb; have HGE := Aside0.mk (show w.heap.size ≤ gb by omega); have HB := Aside0.mk hb; have hx0 := blk_cell hbox 0; have hx1 := blk_cell hbox 1; have hy0 := blk_frozen hbox 0; have hy1 := blk_frozen hbox 1; have HX := Aside0.mk (show FBox gb _ _ w4 from hbox); clear hgb hb hbox) | (((with_reducible refine gate_callee (f := 22) rfl ?_); refine goesL_ (some 34) rfl rfl Try.func22 (by kernel_rfl) rfl #[.slice A1 8 cr] rfl (by (try simp only [List.map_toArray, List.map_cons, List.map_nil]); first | done | rfl) ?_; refine (HOP.out _ (Kd.C_below HR8.out HB.out)).mono ?_; rintro e w5 ⟨v5, rfl, ho, hb⟩; refine ⟨_, rfl, ?_⟩; obtain ⟨A2, c2, rfl, hle2, hF2⟩ := ho; have HF2 := Aside0.mk hF2; have HLE2 := Aside0.mk hle2; clear hF2 hle2; (have n0_ := Aside0.mk (below_step HB.out hb); have n1_ := Aside0.mk (show FBox gb _ _ _ from blk_below HX.out hb); clear HB HX hx0 hx1 hy0 hy1; have HB := n0_; have HX := n1_; clear n0_ n1_ hb; (have hx0 := blk_cell HX.out 0; have hx1 := blk_cell HX.out 1; have hy0 := blk_frozen HX.out 0; have hy1 := blk_frozen HX.out 1))); (obtain ⟨A3, hcut3, hA3, hC3⟩ := print_drop_of (P := Try.prog) (Value.int .u8) 0 22 5 .i64 Try.underlying22 hi0 hsz0 A2 c2 x4 (1 : Int) (by omega) (by have := HL4.out; omega) HLE2.out; have hR3 := Kd.C_of_reads (h1 := fun _ => rfl) (hA3 _ (Kd.reads_of_C (Kd.F_now HF2.out))); rw [show (1 : Int).toNat = 1 from rfl] at hcut3 hR3 hC3; have HR3 : Aside0 (Kd.C (Kd.int .u8) w5 A3 (x4.drop 1).length (x4.drop 1)) := ⟨hR3⟩; obtain ⟨ad, rfl, hcell⟩ := Kd.at_int (Kd.F_now HF2.out) 0 (by omega) (by have := HL4.out; omega); rw [show rd x4 0 = k0 from HEK.out, show ((0 : Int)).toNat = 0 from rfl] at hcell; have hcell0 : w5.cell? ad = some (.int .u8 k0) := (by simpa [Addr.add] using hcell); rw [HL3.out, HL4.out] at hcut3; rw [HL3.out] at hC3; have HC3' := Aside0.mk hC3; have HCALL := Aside0.mk (fun (w' : World) (hw : Kd.C (Kd.int .u8) w' A3 (x4.drop 1).length (x4.drop 1)) => fixed_calls A3 (c2 - 1) (x4.drop 1) 3 (n : Int) 0 w' hw (by have := HL3.out; have := HC3'.out; omega) HFX.out); rw [HL3.out] at HCALL; have HR3' := HR3; rw [HL3.out] at HR3'; clear hR3 hA3 hC3; (try rw [HL4.out]))) | (go_at_call 23; refine (HCALL.out _ HR3'.out).mono ?_; rintro e w6 ⟨rfl, ⟨nd, rfl⟩⟩; have n0_ := Aside0.mk (pw_below_drewN HB.out nd); have n1_ := Aside0.mk (show FBox gb _ _ (w5.drewN nd) from blk_drewN HX.out nd); clear HB HX hx0 hx1 hy0 hy1; have HB := n0_; have HX := n1_; clear n0_ n1_; (have hx0 := blk_cell HX.out 0; have hx1 := blk_cell HX.out 1; have hy0 := blk_frozen HX.out 0; have hy1 := blk_frozen HX.out 1)))
                    (go_wp2; refine bodyPost_ret (FBox.ends (HX.out.set _ _) rfl rfl rfl) rfl ⟨_, rfl, B5.nil _ _, (below_set (below_set HB.out HGE.out) HGE.out)⟩)
                  · have d8 : decide ((r.length : Int) - 8 < (n : Int) + 4) = false := decide_eq_false c8
                    rw [if_neg c8] at h
                    obtain ⟨A5, hcut5, hA5, hC5⟩ := print_mid_of (P := Try.prog) (Value.int .u8) 0 22 5 .i64 .i64 Try.underlying22 hi0 hsz0 A1 cr r (8 : Int) (8 + ((n : Int) + 4)) (by omega) (by omega) (by omega) HCr.out
                    have hR5 := Kd.C_of_reads (h1 := fun _ => rfl) (hA5 _ (Kd.reads_of_C HRr.out))
                    rw [show (8 : Int).toNat = 8 from rfl, show (8 + ((n : Int) + 4)).toNat = 12 + n from by omega] at hcut5 hR5 hC5
                    have hB5 := isB_drop (isB_take HBr.out (12 + n)) 8
                    have hl5 : ((r.take (12 + n)).drop 8).length = 4 + n := by rw [List.length_drop, List.length_take]; omega
                    obtain ⟨x5, ex5⟩ : ∃ x, (r.take (12 + n)).drop 8 = x := ⟨_, rfl⟩
                    rw [ex5] at hcut5 hR5 hC5 h hB5 hl5
                    obtain ⟨xb, e5, eop5⟩ : ∃ x e, openL x5 = (x, e) := ⟨_, _, rfl⟩
                    rw [eop5] at h
                    dsimp only at h
                    have hop5 := (fun (w' : World) (hw : Kd.C (Kd.int .u8) w' A5 x5.length x5) => open5_calls A5 (cr - 8) x5 w' hw hC5 hB5 (by omega))
                    rw [eop5] at hop5
                    have HOP5 := Aside0.mk hop5
                    have HR5 : Aside0 (Kd.C (Kd.int .u8) w A5 x5.length x5) := ⟨hR5⟩
                    have hsum : (a : Int) + 8 + ((n : Int) + 4) = (a : Int) + 12 + (n : Int) := by omega
                    have hal := HAL.out
                    have hl0 := HL.out
                    clear hR5 hop5 hB5 hl5 hA5 hC5 eop5 ex5 c8
                    by_cases c9 : e5 = 0
                    · subst c9
                      rw [if_pos rfl] at h
                      (injection h with e1 h; injection h with e2 h; injection h with e3 e4; subst e1 e2 e3 e4)
                      go_enter Try.func13, Try.ntmps13
                      go_wp2_with (first | ((with_reducible refine gate_dst (N := 4) rfl ?_); refine box_event ?hg (N := 4) ?hd (cs := #[.int .i64 0, .slice none 0 0]) (t := 29) ?hr ?_; (case hd => rfl); (case hg => rfl); (case hr => first | (go_simp; done) | (go_simp; rfl)); intro gb hgb w4 hbox hb; have HGE := Aside0.mk (show w.heap.size ≤ gb by omega); have HB := Aside0.mk hb; have hx0 := blk_cell hbox 0; have hx1 := blk_cell hbox 1; have hy0 := blk_frozen hbox 0; have hy1 := blk_frozen hbox 1; have HX := Aside0.mk (show FBox gb _ _ w4 from hbox); clear hgb hb hbox) | (((with_reducible refine gate_callee (f := 22) rfl ?_); refine goesL_ (some 34) rfl rfl Try.func22 (by kernel_rfl) rfl #[.slice A1 8 cr] rfl (by (try simp only [List.map_toArray, List.map_cons, List.map_nil]); first | done | rfl) ?_; refine (HOP.out _ (Kd.C_below HR8.out HB.out)).mono ?_; rintro e w5 ⟨v5, rfl, ho, hb⟩; refine ⟨_, rfl, ?_⟩; obtain ⟨A2, c2, rfl, hle2, hF2⟩ := ho; have HF2 := Aside0.mk hF2; have HLE2 := Aside0.mk hle2; clear hF2 hle2; (have n0_ := Aside0.mk (below_step HB.out hb); have n1_ := Aside0.mk (show FBox gb _ _ _ from blk_below HX.out hb); clear HB HX hx0 hx1 hy0 hy1; have HB := n0_; have HX := n1_; clear n0_ n1_ hb; (have hx0 := blk_cell HX.out 0; have hx1 := blk_cell HX.out 1; have hy0 := blk_frozen HX.out 0; have hy1 := blk_frozen HX.out 1))); (obtain ⟨A3, hcut3, hA3, hC3⟩ := print_drop_of (P := Try.prog) (Value.int .u8) 0 22 5 .i64 Try.underlying22 hi0 hsz0 A2 c2 x4 (1 : Int) (by omega) (by have := HL4.out; omega) HLE2.out; have hR3 := Kd.C_of_reads (h1 := fun _ => rfl) (hA3 _ (Kd.reads_of_C (Kd.F_now HF2.out))); rw [show (1 : Int).toNat = 1 from rfl] at hcut3 hR3 hC3; have HR3 : Aside0 (Kd.C (Kd.int .u8) w5 A3 (x4.drop 1).length (x4.drop 1)) := ⟨hR3⟩; obtain ⟨ad, rfl, hcell⟩ := Kd.at_int (Kd.F_now HF2.out) 0 (by omega) (by have := HL4.out; omega); rw [show rd x4 0 = k0 from HEK.out, show ((0 : Int)).toNat = 0 from rfl] at hcell; have hcell0 : w5.cell? ad = some (.int .u8 k0) := (by simpa [Addr.add] using hcell); rw [HL3.out, HL4.out] at hcut3; rw [HL3.out] at hC3; have HC3' := Aside0.mk hC3; have HCALL := Aside0.mk (fun (w' : World) (hw : Kd.C (Kd.int .u8) w' A3 (x4.drop 1).length (x4.drop 1)) => fixed_calls A3 (c2 - 1) (x4.drop 1) 3 (n : Int) 0 w' hw (by have := HL3.out; have := HC3'.out; omega) HFX.out); rw [HL3.out] at HCALL; have HR3' := HR3; rw [HL3.out] at HR3'; clear hR3 hA3 hC3; (try rw [HL4.out]))) | (go_at_call 23; refine (HCALL.out _ HR3'.out).mono ?_; rintro e w6 ⟨rfl, ⟨nd, rfl⟩⟩; have n0_ := Aside0.mk (pw_below_drewN HB.out nd); have n1_ := Aside0.mk (show FBox gb _ _ (w5.drewN nd) from blk_drewN HX.out nd); clear HB HX hx0 hx1 hy0 hy1; have HB := n0_; have HX := n1_; clear n0_ n1_; (have hx0 := blk_cell HX.out 0; have hx1 := blk_cell HX.out 1; have hy0 := blk_frozen HX.out 0; have hy1 := blk_frozen HX.out 1)) | ((with_reducible refine gate_callee (f := 22) rfl ?_); refine goesL_ (some 78) rfl rfl Try.func22 (by kernel_rfl) rfl #[.slice A5 x5.length (cr - 8)] rfl (by (try simp only [List.map_toArray, List.map_cons, List.map_nil]); first | done | rfl) ?_; refine (HOP5.out _ (Kd.C_below HR5.out HB.out)).mono ?_; rintro e w7 ⟨v7, rfl, ho, hb⟩; refine ⟨_, rfl, ?_⟩; obtain ⟨A7, c7', rfl, hle7, hF7⟩ := ho; have HO7 := Aside0.mk (show B5 w7 _ _ xb from ⟨A7, c7', rfl, hle7, hF7⟩); have HGL := Aside0.mk (blk_lt HX.out); have HWS := Aside0.mk (below_size HB.out); clear hF7 hle7; (have n0_ := Aside0.mk (below_step HB.out hb); have n1_ := Aside0.mk (show FBox gb _ _ _ from blk_below HX.out hb); clear HB HX hx0 hx1 hy0 hy1; have HB := n0_; have HX := n1_; clear n0_ n1_ hb; (have hx0 := blk_cell HX.out 0; have hx1 := blk_cell HX.out 1; have hy0 := blk_frozen HX.out 0; have hy1 := blk_frozen HX.out 1))))
                      go_wp2
                      refine bodyPost_ret (FBox.ends (HX.out.set _ _) rfl rfl rfl) rfl ⟨_, rfl, HO7.out.step HWS.out (fun k hk => ?_), (below_set (below_set HB.out HGE.out) HGE.out)⟩
                      have hne : k ≠ gb := by have := HGL.out; have hk' := hk.1; omega
                      exact (Below.heap_setCell _ ⟨gb, 1, none⟩ _ k hne).trans (Below.heap_setCell _ ⟨gb, 0, none⟩ _ k hne)
                    · rw [if_neg c9] at h
                      (injection h with e1 h; injection h with e2 h; injection h with e3 e4; subst e1 e2 e3 e4)
                      have d9 : (e5 != 0) = true := bne_iff_ne.mpr c9
                      have d10 : (e5 == 0) = false := beq_eq_false_iff_ne.mpr c9
                      go_enter Try.func13, Try.ntmps13
                      go_wp2_with (first | ((with_reducible refine gate_dst (N := 4) rfl ?_); refine box_event ?hg (N := 4) ?hd (cs := #[.int .i64 0, .slice none 0 0]) (t := 29) ?hr ?_; (case hd => rfl); (case hg => rfl); (case hr => first | (go_simp; done) | (go_simp; rfl)); intro gb hgb w4 hbox hb; have HGE := Aside0.mk (show w.heap.size ≤ gb by omega); have HB := Aside0.mk hb; have hx0 := blk_cell hbox 0; have hx1 := blk_cell hbox 1; have hy0 := blk_frozen hbox 0; have hy1 := blk_frozen hbox 1; have HX := Aside0.mk (show FBox gb _ _ w4 from hbox); clear hgb hb hbox) | (((with_reducible refine gate_callee (f := 22) rfl ?_); refine goesL_ (some 34) rfl rfl Try.func22 (by kernel_rfl) rfl #[.slice A1 8 cr] rfl (by (try simp only [List.map_toArray, List.map_cons, List.map_nil]); first | done | rfl) ?_; refine (HOP.out _ (Kd.C_below HR8.out HB.out)).mono ?_; rintro e w5 ⟨v5, rfl, ho, hb⟩; refine ⟨_, rfl, ?_⟩; obtain ⟨A2, c2, rfl, hle2, hF2⟩ := ho; have HF2 := Aside0.mk hF2; have HLE2 := Aside0.mk hle2; clear hF2 hle2; (have n0_ := Aside0.mk (below_step HB.out hb); have n1_ := Aside0.mk (show FBox gb _ _ _ from blk_below HX.out hb); clear HB HX hx0 hx1 hy0 hy1; have HB := n0_; have HX := n1_; clear n0_ n1_ hb; (have hx0 := blk_cell HX.out 0; have hx1 := blk_cell HX.out 1; have hy0 := blk_frozen HX.out 0; have hy1 := blk_frozen HX.out 1))); (obtain ⟨A3, hcut3, hA3, hC3⟩ := print_drop_of (P := Try.prog) (Value.int .u8) 0 22 5 .i64 Try.underlying22 hi0 hsz0 A2 c2 x4 (1 : Int) (by omega) (by have := HL4.out; omega) HLE2.out; have hR3 := Kd.C_of_reads (h1 := fun _ => rfl) (hA3 _ (Kd.reads_of_C (Kd.F_now HF2.out))); rw [show (1 : Int).toNat = 1 from rfl] at hcut3 hR3 hC3; have HR3 : Aside0 (Kd.C (Kd.int .u8) w5 A3 (x4.drop 1).length (x4.drop 1)) := ⟨hR3⟩; obtain ⟨ad, rfl, hcell⟩ := Kd.at_int (Kd.F_now HF2.out) 0 (by omega) (by have := HL4.out; omega); rw [show rd x4 0 = k0 from HEK.out, show ((0 : Int)).toNat = 0 from rfl] at hcell; have hcell0 : w5.cell? ad = some (.int .u8 k0) := (by simpa [Addr.add] using hcell); rw [HL3.out, HL4.out] at hcut3; rw [HL3.out] at hC3; have HC3' := Aside0.mk hC3; have HCALL := Aside0.mk (fun (w' : World) (hw : Kd.C (Kd.int .u8) w' A3 (x4.drop 1).length (x4.drop 1)) => fixed_calls A3 (c2 - 1) (x4.drop 1) 3 (n : Int) 0 w' hw (by have := HL3.out; have := HC3'.out; omega) HFX.out); rw [HL3.out] at HCALL; have HR3' := HR3; rw [HL3.out] at HR3'; clear hR3 hA3 hC3; (try rw [HL4.out]))) | (go_at_call 23; refine (HCALL.out _ HR3'.out).mono ?_; rintro e w6 ⟨rfl, ⟨nd, rfl⟩⟩; have n0_ := Aside0.mk (pw_below_drewN HB.out nd); have n1_ := Aside0.mk (show FBox gb _ _ (w5.drewN nd) from blk_drewN HX.out nd); clear HB HX hx0 hx1 hy0 hy1; have HB := n0_; have HX := n1_; clear n0_ n1_; (have hx0 := blk_cell HX.out 0; have hx1 := blk_cell HX.out 1; have hy0 := blk_frozen HX.out 0; have hy1 := blk_frozen HX.out 1)) | ((with_reducible refine gate_callee (f := 22) rfl ?_); refine goesL_ (some 78) rfl rfl Try.func22 (by kernel_rfl) rfl #[.slice A5 x5.length (cr - 8)] rfl (by (try simp only [List.map_toArray, List.map_cons, List.map_nil]); first | done | rfl) ?_; refine (HOP5.out _ (Kd.C_below HR5.out HB.out)).mono ?_; rintro e w7 ⟨v7, rfl, ho, hb⟩; refine ⟨_, rfl, ?_⟩; obtain ⟨A7, c7', rfl, hle7, hF7⟩ := ho; have HO7 := Aside0.mk (show B5 w7 _ _ xb from ⟨A7, c7', rfl, hle7, hF7⟩); have HGL := Aside0.mk (blk_lt HX.out); have HWS := Aside0.mk (below_size HB.out); clear hF7 hle7; (have n0_ := Aside0.mk (below_step HB.out hb); have n1_ := Aside0.mk (show FBox gb _ _ _ from blk_below HX.out hb); clear HB HX hx0 hx1 hy0 hy1; have HB := n0_; have HX := n1_; clear n0_ n1_ hb; (have hx0 := blk_cell HX.out 0; have hx1 := blk_cell HX.out 1; have hy0 := blk_frozen HX.out 0; have hy1 := blk_frozen HX.out 1))))
                      (go_wp2; refine bodyPost_ret (FBox.ends (HX.out.set _ _) rfl rfl rfl) rfl ⟨_, rfl, B5.nil _ _, (below_set (below_set HB.out HGE.out) HGE.out)⟩)
          · rw [if_neg c4] at h
            (injection h with e1 h; injection h with e2 h; injection h with e3 e4; subst e1 e2 e3 e4)
            have d5 : (e4 != 0) = true := bne_iff_ne.mpr c4
            have d6 : (e4 == 0) = false := beq_eq_false_iff_ne.mpr c4
            go_enter Try.func13, Try.ntmps13
            go_wp2_with (first | ((with_reducible refine gate_dst (N := 4) rfl ?_); refine box_event ?hg (N := 4) ?hd (cs := #[.int .i64 0, .slice none 0 0]) (t := 29) ?hr ?_; (case hd => rfl); (case hg => rfl); (case hr => first | (go_simp; done) | (go_simp; rfl)); intro gb hgb w4 hbox hb; have HGE := Aside0.mk (show w.heap.size ≤ gb by omega); have HB := Aside0.mk hb; have hx0 := blk_cell hbox 0; have hx1 := blk_cell hbox 1; have hy0 := blk_frozen hbox 0; have hy1 := blk_frozen hbox 1; have HX := Aside0.mk (show FBox gb _ _ w4 from hbox); clear hgb hb hbox) | ((with_reducible refine gate_callee (f := 22) rfl ?_); refine goesL_ (some 34) rfl rfl Try.func22 (by kernel_rfl) rfl #[.slice A1 8 cr] rfl (by (try simp only [List.map_toArray, List.map_cons, List.map_nil]); first | done | rfl) ?_; refine (HOP.out _ (Kd.C_below HR8.out HB.out)).mono ?_; rintro e w5 ⟨v5, rfl, ho, hb⟩; refine ⟨_, rfl, ?_⟩; obtain ⟨A2, c2, rfl, hle2, hF2⟩ := ho; have HF2 := Aside0.mk hF2; have HLE2 := Aside0.mk hle2; clear hF2 hle2; (have n0_ := Aside0.mk (below_step HB.out hb); have n1_ := Aside0.mk (show FBox gb _ _ _ from blk_below HX.out hb); clear HB HX hx0 hx1 hy0 hy1; have HB := n0_; have HX := n1_; clear n0_ n1_ hb; (have hx0 := blk_cell HX.out 0; have hx1 := blk_cell HX.out 1; have hy0 := blk_frozen HX.out 0; have hy1 := blk_frozen HX.out 1))))
            (go_wp2; refine bodyPost_ret (FBox.ends (HX.out.set _ _) rfl rfl rfl) rfl ⟨_, rfl, B5.nil _ _, (below_set (below_set HB.out HGE.out) HGE.out)⟩)
  · rw [if_neg hcnd] at h
    cases h
theorem take_calls (A0 : Option Addr) (c0 : Nat) (l0 : List Int) (a1 : Int) (r1 : Int) (r2 : List Int) (r3 : Int) (r4 : Int) (w : World) (hr0 : Kd.C (Kd.int .u8) w A0 l0.length l0) (hc0 : l0.length ≤ c0) (h : takeO l0 a1 = some (r1, r2, r3, r4)) :
    Calls Try.prog 13 #[.slice A0 l0.length c0, .int .i64 a1] w fun e w' => ∃ v1_ : Value, e = .returned (.tuple #[.agg #[.int .i64 r1, v1_], .int .i64 r3, .int .i64 r4]) ∧ Kd.V (Kd.int .u8) 5 w' w.heap.size (fun k_ => (w.heap.size ≤ k_)) v1_ r2 ∧ Below w.heap.size w w' :=
  (take5_calls A0 c0 l0 a1 r1 r2 r3 r4 w hr0 hc0 h).mono fun e w' ⟨v, he, hv, hb⟩ => ⟨v, he, hv.V, hb⟩
end Go.Proofs.Ytcnapbpljghfoaa.Hand

/- Printed by a program of this session (drv.py) from the translation of this seat: functions, their contracts, rows. -/
namespace Go.Proofs.Ytcnapbpljghfoaa.PCrc
open Go.RowKit Go.Proofs.YtcnapbpljghfoaaW.PrintWords Go.Proofs.YtcnapbpljghfoaaW.PrintLast Go.Proofs.YtcnapbpljghfoaaW.PrintMore
attribute [local go_sem] max2_int min2_int max_two min_two max_three min_three max_four min_four   -- for this text's walks alone
set_option linter.unusedVariables false
set_option linter.unusedSimpArgs false

/-! ### frame_Take: function 13 (by hand) -/
def frame_Take.f (l0 : List Int) (a1 : Int) : Option (Int × List Int × Int × Int) := Go.Proofs.Ytcnapbpljghfoaa.Hand.takeO l0 a1
theorem frame_Take.calls (A0 : Option Addr) (c0 : Nat) (l0 : List Int) (a1 : Int) (r1 : Int) (r2 : List Int) (r3 : Int) (r4 : Int) (w : World) (hr0 : Kd.C (Kd.int .u8) w A0 l0.length l0) (hc0 : l0.length ≤ c0) (h : frame_Take.f l0 a1 = some (r1, r2, r3, r4)) :
    Calls Try.prog 13 #[.slice A0 l0.length c0, .int .i64 a1] w fun e w' => ∃ v1_ : Value, e = .returned (.tuple #[.agg #[.int .i64 r1, v1_], .int .i64 r3, .int .i64 r4]) ∧ Kd.V (Kd.int .u8) 5 w' w.heap.size (fun k_ => (w.heap.size ≤ k_)) v1_ r2 ∧ Below w.heap.size w w' :=
  Go.Proofs.Ytcnapbpljghfoaa.Hand.take_calls _ _ _ _ _ _ _ _ _ hr0 hc0 h

end Go.Proofs.Ytcnapbpljghfoaa.PCrc

/- Printed by a program of this session (drv.py) from the translation of this seat: functions, their contracts, rows. -/
namespace Go.Proofs.Ytcnapbpljghfoaa.PCrc
open Go.RowKit Go.Proofs.YtcnapbpljghfoaaW.PrintWords Go.Proofs.YtcnapbpljghfoaaW.PrintLast Go.Proofs.YtcnapbpljghfoaaW.PrintMore
attribute [local go_sem] max2_int min2_int max_two min_two max_three min_three max_four min_four   -- for this text's walks alone
set_option linter.unusedVariables false
set_option linter.unusedSimpArgs false

/-! ### concordancelaw3_awake: function 10 -/
def concordancelaw3_awake.f (k : Nat)  : Option (Bool) := (frame_Put.f k ([] : List Int) 1 ([] : List Int)).bind fun bt133 => ((frame_Take.f bt133.1 0).bind fun bt137 => (if (bt133.1.length : Int) = 12 then (if bt133.2 = 0 then (if bt137.1 = 1 then (if (bt137.2.1.length : Int) = 0 then (if bt137.2.2.1 = 12 then (if bt137.2.2.2 = 0 then ((frame_Size.f 5).bind fun t144 => (some (t144 == 17))) else (some false)) else (some false)) else (some false)) else (some false)) else (some false)) else (some false)))
theorem concordancelaw3_awake.mono : ∀ k, LeO (concordancelaw3_awake.f k ) (concordancelaw3_awake.f (k + 1) ) := by
  intro  k
  unfold concordancelaw3_awake.f
  repeat' first
      | (with_reducible exact frame_Put.mono _ _ _ _)
      | (with_reducible exact LeO.refl _)
      | (with_reducible exact LeO.none _)
      | (with_reducible refine LeO.ite ?_ ?_)
      | (with_reducible refine LeO.bind ?_ (fun _ => ?_))
      | exact frame_Put.mono _ _ _ _
      | exact LeO.none _
      | refine LeO.ite ?_ ?_
      | refine LeO.bind ?_ (fun _ => ?_)
set_option maxHeartbeats 8000000 in
set_option maxRecDepth 100000 in
theorem concordancelaw3_awake.calls (k : Nat)  (r : Bool) (w : World) (h : concordancelaw3_awake.f k  = some r) :
    Calls Try.prog 10 #[] w fun e w' => e = .returned (.bool r) ∧ Below w.heap.size w w' := by
  have hu29 := Try.underlying29
  have HB := Aside0.mk (Below.refl w.heap.size w)
  have H : ((frame_Put.f k ([] : List Int) 1 ([] : List Int)).bind fun bt133 => ((frame_Take.f bt133.1 0).bind fun bt137 => (if (bt133.1.length : Int) = 12 then (if bt133.2 = 0 then (if bt137.1 = 1 then (if (bt137.2.1.length : Int) = 0 then (if bt137.2.2.1 = 12 then (if bt137.2.2.2 = 0 then ((frame_Size.f 5).bind fun t144 => (some (t144 == 17))) else (some false)) else (some false)) else (some false)) else (some false)) else (some false)) else (some false)))) = some r := h
  clear h
  replace H := Option.bind_eq_some_iff.mp H
  obtain ⟨⟨t133, t136⟩, A10, H⟩ := H
  replace H : ((frame_Take.f t133 0).bind fun bt137 => (if (t133.length : Int) = 12 then (if t136 = 0 then (if bt137.1 = 1 then (if (bt137.2.1.length : Int) = 0 then (if bt137.2.2.1 = 12 then (if bt137.2.2.2 = 0 then ((frame_Size.f 5).bind fun t144 => (some (t144 == 17))) else (some false)) else (some false)) else (some false)) else (some false)) else (some false)) else (some false))) = some r := H
  have A1 := Aside0.mk A10
  clear A10
  replace H := Option.bind_eq_some_iff.mp H
  obtain ⟨⟨t137, t138, t141, t142⟩, A20, H⟩ := H
  replace H : (if (t133.length : Int) = 12 then (if t136 = 0 then (if t137 = 1 then (if (t138.length : Int) = 0 then (if t141 = 12 then (if t142 = 0 then ((frame_Size.f 5).bind fun t144 => (some (t144 == 17))) else (some false)) else (some false)) else (some false)) else (some false)) else (some false)) else (some false)) = some r := H
  have A2 := Aside0.mk A20
  clear A20
  by_cases c3 : (t133.length : Int) = 12
  · rw [if_pos c3] at H
    have c3b0 : ((t133.length : Int) == 12) = true := beq_iff_eq.mpr c3
    have c3b1 : ((t133.length : Int) != 12) = false := bne_eq_false_iff_eq.mpr c3
    clear c3
    by_cases c4 : t136 = 0
    · rw [if_pos c4] at H
      have c4b0 : (t136 == 0) = true := beq_iff_eq.mpr c4
      have c4b1 : (t136 != 0) = false := bne_eq_false_iff_eq.mpr c4
      clear c4
      by_cases c5 : t137 = 1
      · rw [if_pos c5] at H
        have c5b0 : (t137 == 1) = true := beq_iff_eq.mpr c5
        have c5b1 : (t137 != 1) = false := bne_eq_false_iff_eq.mpr c5
        clear c5
        by_cases c6 : (t138.length : Int) = 0
        · rw [if_pos c6] at H
          have c6b0 : ((t138.length : Int) == 0) = true := beq_iff_eq.mpr c6
          have c6b1 : ((t138.length : Int) != 0) = false := bne_eq_false_iff_eq.mpr c6
          clear c6
          by_cases c7 : t141 = 12
          · rw [if_pos c7] at H
            have c7b0 : (t141 == 12) = true := beq_iff_eq.mpr c7
            have c7b1 : (t141 != 12) = false := bne_eq_false_iff_eq.mpr c7
            clear c7
            by_cases c8 : t142 = 0
            · rw [if_pos c8] at H
              have c8b0 : (t142 == 0) = true := beq_iff_eq.mpr c8
              have c8b1 : (t142 != 0) = false := bne_eq_false_iff_eq.mpr c8
              clear c8
              replace H := Option.bind_eq_some_iff.mp H
              obtain ⟨t144, A90, H⟩ := H
              replace H : (some (t144 == 17)) = some r := H
              have A9 := Aside0.mk A90
              clear A90
              obtain rfl := Option.some.inj H
              go_enter Try.func10, Try.ntmps10
              go_wp2_with (first | ((with_reducible refine gate_callee (f := 11) rfl ?_); refine goesL_ (some 7) rfl rfl Try.func11 (by kernel_rfl) rfl #[.slice none 0 0, .int .i64 1, .slice none 0 0] rfl (by (try simp only [List.map_toArray, List.map_cons, List.map_nil]); first | done | rfl | (simp only [List.length_drop, List.length_take]; rfl)) ?_; (refine (frame_Put.calls k (fun k_ => False) _ _ ([] : List Int) 1 _ _ ([] : List Int) t133 t136 _ ?side1 ?side2 ?side3 A1.out).mono ?_); (case side1 => exact Kd.V_nil _ _ _ _ _); (case side2 => exact Kd.C_nil _ _); (case side3 => exact Nat.le_refl _); rintro e w10 ⟨v134, rfl, ho0, hb⟩; refine ⟨_, rfl, ?_⟩; have n0_ := Aside0.mk (Kd.R_lower (Kd.R_mono (ok' := fun k_ => True) ho0 (fun _ hk_ => trivial)) (below_size (by repeat (first | (with_reducible first | exact HB.out | apply below_alloc | apply pw_below_drewN | apply below_drew1) | exact HB.out)))); have n1_ := Aside0.mk (below_step (by repeat (first | (with_reducible first | exact HB.out | apply below_alloc | apply pw_below_drewN | apply below_drew1) | exact HB.out)) hb); clear HB; have HO135 := n0_; have HB := n1_; clear n0_ n1_; (try clear hb); (try clear hb2); (try clear hk); (try clear hi); (try clear ho0); obtain ⟨Ao11, co11, eo11⟩ := Kd.R_slice HO135.out; subst eo11) | ((with_reducible refine gate_callee (f := 13) rfl ?_); refine goesL_ (some 12) rfl rfl Try.func13 (by kernel_rfl) rfl #[.slice Ao11 t133.length co11, .int .i64 0] rfl (by (try simp only [List.map_toArray, List.map_cons, List.map_nil]); first | done | rfl | (simp only [List.length_drop, List.length_take]; rfl)) ?_; (with_reducible refine (frame_Take.calls _ _ t133 0 t137 t138 t141 t142 _ ?side1 ?side2 A2.out).mono ?_); (case side1 => repeat (first | exact (Kd.R_reads' HO135.out).2.2 | (with_reducible refine Kd.C_alloc ?_ _) | (with_reducible refine Kd.C_drewN ?_ _) | (with_reducible refine Kd.C_drew ?_))); (case side2 => exact (Kd.R_reads' HO135.out).2.1); rintro e w12 ⟨v139, rfl, ho0, hb⟩; refine ⟨_, rfl, ?_⟩; have n0_ := Aside0.mk (Kd.R_below (by (with_reducible repeat (first | apply Kd.R_alloc | apply Kd.R_drewN | apply Kd.R_drew)); exact HO135.out) hb); have n1_ := Aside0.mk (Kd.V_lower (Kd.V_mono (ok' := fun k_ => some k_ ≠ (.slice Ao11 t133.length co11 : Value).ownBlock) ho0 (fun k_ hk_ => (Kd.fresh' (Kd.R_lt (by (with_reducible repeat (first | apply Kd.R_alloc | apply Kd.R_drewN | apply Kd.R_drew)); exact HO135.out)) k_ hk_))) (below_size (by repeat (first | (with_reducible first | exact HB.out | apply below_alloc | apply pw_below_drewN | apply below_drew1) | exact HB.out)))); have n2_ := Aside0.mk (below_step (by repeat (first | (with_reducible first | exact HB.out | apply below_alloc | apply pw_below_drewN | apply below_drew1) | exact HB.out)) hb); clear HO135; clear HB; have HO135 := n0_; have HO140 := n1_; have HB := n2_; clear n0_ n1_ n2_; (try clear hb); (try clear hb2); (try clear hk); (try clear hi); (try clear ho0)) | ((with_reducible refine gate_dst (N := 3) rfl ?_); (try (refine gate_guard (by rfl) ?_; dsimp only)); refine box_event ?hg (N := 3) ?hd (cs := #[.int .i64 0, .slice none 0 0]) (t := 29) ?hr ?_; (case hd => rfl); (case hg => rfl); (case hr => first | (go_simp; done) | (go_simp; rfl)); intro gb143 hg w13 hbox hb; have n0_ := Aside0.mk (Kd.R_below (by (with_reducible repeat (first | apply Kd.R_alloc | apply Kd.R_drewN | apply Kd.R_drew)); exact HO135.out) hb); have n1_ := Aside0.mk (Kd.V_below (Kd.V_elderB (by (with_reducible repeat (first | apply Kd.V_alloc | apply Kd.V_drewN | apply Kd.V_drew)); exact HO140.out) gb143 (Nat.le_of_eq hg.symm)) hb); have n2_ := Aside0.mk (below_step (by repeat (first | (with_reducible first | exact HB.out | apply below_alloc | apply pw_below_drewN | apply below_drew1) | exact HB.out)) hb); have n3_ := Aside0.mk (hbox); have n4_ := Aside0.mk ((by rw [hg]; exact (below_size (by repeat (first | (with_reducible first | exact HB.out | apply below_alloc | apply pw_below_drewN | apply below_drew1) | exact HB.out))) : w.heap.size ≤ gb143)); have n5_ := Aside0.mk ((by rw [hg]; exact (below_size (by repeat (first | (with_reducible first | exact HB.out | apply below_alloc | apply pw_below_drewN | apply below_drew1) | exact HB.out))) : w.heap.size ≤ gb143)); clear HO135; clear HO140; clear HB; have HO135 := n0_; have HO140 := n1_; have HB := n2_; have BK143 := n3_; have GW143 := n4_; have GE143 := n5_; clear n0_ n1_ n2_ n3_ n4_ n5_; clear hb hbox hg; have hcz14_0 : w13.cell? ⟨gb143, 0, none⟩ = some (.int .i64 0) := (blk_cell BK143.out 0).trans rfl; have hcz14_1 : w13.cell? ⟨gb143, 1, none⟩ = some (.slice none 0 0) := (blk_cell BK143.out 1).trans rfl; have hfz14_0 := blk_frozen BK143.out 0; have hfz14_1 := blk_frozen BK143.out 1; obtain ⟨Ao15, co15, eo15⟩ := Kd.V_slice HO140.out; subst eo15) | (go_at_call 15; (with_reducible refine (frame_Size.calls 5 t144 _ A9.out).mono ?_); rintro e w16 ⟨rfl, hb⟩; have n0_ := Aside0.mk (Kd.R_below (by (with_reducible repeat (first | apply Kd.R_alloc | apply Kd.R_drewN | apply Kd.R_drew)); exact (Kd.R_mono (Kd.R_far (p := ⟨gb143, 1, none⟩) (Kd.R_far (p := ⟨gb143, 0, none⟩) (Kd.R_types HO135.out BK143.out (by decide)) (fun _ hk => hk.2) (.int .i64 t137)) (fun _ hk => hk.2) (.slice Ao15 t138.length co15)) (fun _ h_ => h_.1))) hb); have n1_ := Aside0.mk (Kd.V_below (by (with_reducible repeat (first | apply Kd.V_alloc | apply Kd.V_drewN | apply Kd.V_drew)); exact (Kd.V_mono (Kd.V_far (p := ⟨gb143, 1, none⟩) (Kd.V_far (p := ⟨gb143, 0, none⟩) (Kd.V_mono HO140.out (fun k_ hk => (⟨hk, hk.2⟩ : _ ∧ k_ ≠ gb143))) (fun _ hk => hk.2) (.int .i64 t137)) (fun _ hk => hk.2) (.slice Ao15 t138.length co15)) (fun _ h_ => h_.1))) hb); have n2_ := Aside0.mk (blk_below (g := gb143) (o := .cells #[.int .i64 t137, .slice Ao15 t138.length co15] 29 (0, 0)) (by (with_reducible repeat (first | refine blk_drewN ?_ _ | refine blk_drew ?_ | refine blk_alloc ?_ _)); refine blk_put (cs := #[.int .i64 t137, .slice none 0 0]) ?_ 1 _ rfl; (with_reducible repeat (first | refine blk_drewN ?_ _ | refine blk_drew ?_ | refine blk_alloc ?_ _)); refine blk_put (cs := #[.int .i64 0, .slice none 0 0]) ?_ 0 _ rfl; (with_reducible repeat (first | refine blk_drewN ?_ _ | refine blk_drew ?_ | refine blk_alloc ?_ _)); exact BK143.out) hb); have n3_ := Aside0.mk (below_step (by repeat (first | (with_reducible first | exact HB.out | apply below_alloc | apply pw_below_drewN | apply below_drew1 | refine below_set ?_ GE143.out) | exact HB.out)) hb); clear HO135; clear HO140; clear BK143; clear HB; have HO135 := n0_; have HO140 := n1_; have BK143 := n2_; have HB := n3_; clear n0_ n1_ n2_ n3_; (try clear hb); (try clear hb2); (try clear hk); (try clear hi)))
              go_ret
              exact ⟨by first | rfl | (simp [errW_none, errW_some] <;> rfl) | (simp [*, errW_none, errW_some] <;> rfl), by repeat (first | (with_reducible first | exact HB.out | apply below_alloc | apply pw_below_drewN | apply below_drew1 | refine below_set ?_ GE143.out) | exact HB.out)⟩
            · rw [if_neg c8] at H
              have c8b0 : (t142 == 0) = false := beq_eq_false_iff_ne.mpr c8
              have c8b1 : (t142 != 0) = true := bne_iff_ne.mpr c8
              obtain rfl := Option.some.inj H
              go_enter Try.func10, Try.ntmps10
              go_wp2_with (first | ((with_reducible refine gate_callee (f := 11) rfl ?_); refine goesL_ (some 7) rfl rfl Try.func11 (by kernel_rfl) rfl #[.slice none 0 0, .int .i64 1, .slice none 0 0] rfl (by (try simp only [List.map_toArray, List.map_cons, List.map_nil]); first | done | rfl | (simp only [List.length_drop, List.length_take]; rfl)) ?_; (refine (frame_Put.calls k (fun k_ => False) _ _ ([] : List Int) 1 _ _ ([] : List Int) t133 t136 _ ?side1 ?side2 ?side3 A1.out).mono ?_); (case side1 => exact Kd.V_nil _ _ _ _ _); (case side2 => exact Kd.C_nil _ _); (case side3 => exact Nat.le_refl _); rintro e w17 ⟨v134, rfl, ho0, hb⟩; refine ⟨_, rfl, ?_⟩; have n0_ := Aside0.mk (Kd.R_lower (Kd.R_mono (ok' := fun k_ => True) ho0 (fun _ hk_ => trivial)) (below_size (by repeat (first | (with_reducible first | exact HB.out | apply below_alloc | apply pw_below_drewN | apply below_drew1) | exact HB.out)))); have n1_ := Aside0.mk (below_step (by repeat (first | (with_reducible first | exact HB.out | apply below_alloc | apply pw_below_drewN | apply below_drew1) | exact HB.out)) hb); clear HB; have HO135 := n0_; have HB := n1_; clear n0_ n1_; (try clear hb); (try clear hb2); (try clear hk); (try clear hi); (try clear ho0); obtain ⟨Ao18, co18, eo18⟩ := Kd.R_slice HO135.out; subst eo18) | ((with_reducible refine gate_callee (f := 13) rfl ?_); refine goesL_ (some 12) rfl rfl Try.func13 (by kernel_rfl) rfl #[.slice Ao18 t133.length co18, .int .i64 0] rfl (by (try simp only [List.map_toArray, List.map_cons, List.map_nil]); first | done | rfl | (simp only [List.length_drop, List.length_take]; rfl)) ?_; (with_reducible refine (frame_Take.calls _ _ t133 0 t137 t138 t141 t142 _ ?side1 ?side2 A2.out).mono ?_); (case side1 => repeat (first | exact (Kd.R_reads' HO135.out).2.2 | (with_reducible refine Kd.C_alloc ?_ _) | (with_reducible refine Kd.C_drewN ?_ _) | (with_reducible refine Kd.C_drew ?_))); (case side2 => exact (Kd.R_reads' HO135.out).2.1); rintro e w19 ⟨v139, rfl, ho0, hb⟩; refine ⟨_, rfl, ?_⟩; have n0_ := Aside0.mk (Kd.R_below (by (with_reducible repeat (first | apply Kd.R_alloc | apply Kd.R_drewN | apply Kd.R_drew)); exact HO135.out) hb); have n1_ := Aside0.mk (Kd.V_lower (Kd.V_mono (ok' := fun k_ => some k_ ≠ (.slice Ao18 t133.length co18 : Value).ownBlock) ho0 (fun k_ hk_ => (Kd.fresh' (Kd.R_lt (by (with_reducible repeat (first | apply Kd.R_alloc | apply Kd.R_drewN | apply Kd.R_drew)); exact HO135.out)) k_ hk_))) (below_size (by repeat (first | (with_reducible first | exact HB.out | apply below_alloc | apply pw_below_drewN | apply below_drew1) | exact HB.out)))); have n2_ := Aside0.mk (below_step (by repeat (first | (with_reducible first | exact HB.out | apply below_alloc | apply pw_below_drewN | apply below_drew1) | exact HB.out)) hb); clear HO135; clear HB; have HO135 := n0_; have HO140 := n1_; have HB := n2_; clear n0_ n1_ n2_; (try clear hb); (try clear hb2); (try clear hk); (try clear hi); (try clear ho0)) | ((with_reducible refine gate_dst (N := 3) rfl ?_); (try (refine gate_guard (by rfl) ?_; dsimp only)); refine box_event ?hg (N := 3) ?hd (cs := #[.int .i64 0, .slice none 0 0]) (t := 29) ?hr ?_; (case hd => rfl); (case hg => rfl); (case hr => first | (go_simp; done) | (go_simp; rfl)); intro gb143 hg w20 hbox hb; have n0_ := Aside0.mk (Kd.R_below (by (with_reducible repeat (first | apply Kd.R_alloc | apply Kd.R_drewN | apply Kd.R_drew)); exact HO135.out) hb); have n1_ := Aside0.mk (Kd.V_below (Kd.V_elderB (by (with_reducible repeat (first | apply Kd.V_alloc | apply Kd.V_drewN | apply Kd.V_drew)); exact HO140.out) gb143 (Nat.le_of_eq hg.symm)) hb); have n2_ := Aside0.mk (below_step (by repeat (first | (with_reducible first | exact HB.out | apply below_alloc | apply pw_below_drewN | apply below_drew1) | exact HB.out)) hb); have n3_ := Aside0.mk (hbox); have n4_ := Aside0.mk ((by rw [hg]; exact (below_size (by repeat (first | (with_reducible first | exact HB.out | apply below_alloc | apply pw_below_drewN | apply below_drew1) | exact HB.out))) : w.heap.size ≤ gb143)); have n5_ := Aside0.mk ((by rw [hg]; exact (below_size (by repeat (first | (with_reducible first | exact HB.out | apply below_alloc | apply pw_below_drewN | apply below_drew1) | exact HB.out))) : w.heap.size ≤ gb143)); clear HO135; clear HO140; clear HB; have HO135 := n0_; have HO140 := n1_; have HB := n2_; have BK143 := n3_; have GW143 := n4_; have GE143 := n5_; clear n0_ n1_ n2_ n3_ n4_ n5_; clear hb hbox hg; have hcz21_0 : w20.cell? ⟨gb143, 0, none⟩ = some (.int .i64 0) := (blk_cell BK143.out 0).trans rfl; have hcz21_1 : w20.cell? ⟨gb143, 1, none⟩ = some (.slice none 0 0) := (blk_cell BK143.out 1).trans rfl; have hfz21_0 := blk_frozen BK143.out 0; have hfz21_1 := blk_frozen BK143.out 1; obtain ⟨Ao22, co22, eo22⟩ := Kd.V_slice HO140.out; subst eo22))
              go_ret
              exact ⟨by first | rfl | (simp [errW_none, errW_some] <;> rfl) | (simp [*, errW_none, errW_some] <;> rfl), by repeat (first | (with_reducible first | exact HB.out | apply below_alloc | apply pw_below_drewN | apply below_drew1 | refine below_set ?_ GE143.out) | exact HB.out)⟩
          · rw [if_neg c7] at H
            have c7b0 : (t141 == 12) = false := beq_eq_false_iff_ne.mpr c7
            have c7b1 : (t141 != 12) = true := bne_iff_ne.mpr c7
            obtain rfl := Option.some.inj H
            go_enter Try.func10, Try.ntmps10
            go_wp2_with (first | ((with_reducible refine gate_callee (f := 11) rfl ?_); refine goesL_ (some 7) rfl rfl Try.func11 (by kernel_rfl) rfl #[.slice none 0 0, .int .i64 1, .slice none 0 0] rfl (by (try simp only [List.map_toArray, List.map_cons, List.map_nil]); first | done | rfl | (simp only [List.length_drop, List.length_take]; rfl)) ?_; (refine (frame_Put.calls k (fun k_ => False) _ _ ([] : List Int) 1 _ _ ([] : List Int) t133 t136 _ ?side1 ?side2 ?side3 A1.out).mono ?_); (case side1 => exact Kd.V_nil _ _ _ _ _); (case side2 => exact Kd.C_nil _ _); (case side3 => exact Nat.le_refl _); rintro e w23 ⟨v134, rfl, ho0, hb⟩; refine ⟨_, rfl, ?_⟩; have n0_ := Aside0.mk (Kd.R_lower (Kd.R_mono (ok' := fun k_ => True) ho0 (fun _ hk_ => trivial)) (below_size (by repeat (first | (with_reducible first | exact HB.out | apply below_alloc | apply pw_below_drewN | apply below_drew1) | exact HB.out)))); have n1_ := Aside0.mk (below_step (by repeat (first | (with_reducible first | exact HB.out | apply below_alloc | apply pw_below_drewN | apply below_drew1) | exact HB.out)) hb); clear HB; have HO135 := n0_; have HB := n1_; clear n0_ n1_; (try clear hb); (try clear hb2); (try clear hk); (try clear hi); (try clear ho0); obtain ⟨Ao24, co24, eo24⟩ := Kd.R_slice HO135.out; subst eo24) | ((with_reducible refine gate_callee (f := 13) rfl ?_); refine goesL_ (some 12) rfl rfl Try.func13 (by kernel_rfl) rfl #[.slice Ao24 t133.length co24, .int .i64 0] rfl (by (try simp only [List.map_toArray, List.map_cons, List.map_nil]); first | done | rfl | (simp only [List.length_drop, List.length_take]; rfl)) ?_; (with_reducible refine (frame_Take.calls _ _ t133 0 t137 t138 t141 t142 _ ?side1 ?side2 A2.out).mono ?_); (case side1 => repeat (first | exact (Kd.R_reads' HO135.out).2.2 | (with_reducible refine Kd.C_alloc ?_ _) | (with_reducible refine Kd.C_drewN ?_ _) | (with_reducible refine Kd.C_drew ?_))); (case side2 => exact (Kd.R_reads' HO135.out).2.1); rintro e w25 ⟨v139, rfl, ho0, hb⟩; refine ⟨_, rfl, ?_⟩; have n0_ := Aside0.mk (Kd.R_below (by (with_reducible repeat (first | apply Kd.R_alloc | apply Kd.R_drewN | apply Kd.R_drew)); exact HO135.out) hb); have n1_ := Aside0.mk (Kd.V_lower (Kd.V_mono (ok' := fun k_ => some k_ ≠ (.slice Ao24 t133.length co24 : Value).ownBlock) ho0 (fun k_ hk_ => (Kd.fresh' (Kd.R_lt (by (with_reducible repeat (first | apply Kd.R_alloc | apply Kd.R_drewN | apply Kd.R_drew)); exact HO135.out)) k_ hk_))) (below_size (by repeat (first | (with_reducible first | exact HB.out | apply below_alloc | apply pw_below_drewN | apply below_drew1) | exact HB.out)))); have n2_ := Aside0.mk (below_step (by repeat (first | (with_reducible first | exact HB.out | apply below_alloc | apply pw_below_drewN | apply below_drew1) | exact HB.out)) hb); clear HO135; clear HB; have HO135 := n0_; have HO140 := n1_; have HB := n2_; clear n0_ n1_ n2_; (try clear hb); (try clear hb2); (try clear hk); (try clear hi); (try clear ho0)) | ((with_reducible refine gate_dst (N := 3) rfl ?_); (try (refine gate_guard (by rfl) ?_; dsimp only)); refine box_event ?hg (N := 3) ?hd (cs := #[.int .i64 0, .slice none 0 0]) (t := 29) ?hr ?_; (case hd => rfl); (case hg => rfl); (case hr => first | (go_simp; done) | (go_simp; rfl)); intro gb143 hg w26 hbox hb; have n0_ := Aside0.mk (Kd.R_below (by (with_reducible repeat (first | apply Kd.R_alloc | apply Kd.R_drewN | apply Kd.R_drew)); exact HO135.out) hb); have n1_ := Aside0.mk (Kd.V_below (Kd.V_elderB (by (with_reducible repeat (first | apply Kd.V_alloc | apply Kd.V_drewN | apply Kd.V_drew)); exact HO140.out) gb143 (Nat.le_of_eq hg.symm)) hb); have n2_ := Aside0.mk (below_step (by repeat (first | (with_reducible first | exact HB.out | apply below_alloc | apply pw_below_drewN | apply below_drew1) | exact HB.out)) hb); have n3_ := Aside0.mk (hbox); have n4_ := Aside0.mk ((by rw [hg]; exact (below_size (by repeat (first | (with_reducible first | exact HB.out | apply below_alloc | apply pw_below_drewN | apply below_drew1) | exact HB.out))) : w.heap.size ≤ gb143)); have n5_ := Aside0.mk ((by rw [hg]; exact (below_size (by repeat (first | (with_reducible first | exact HB.out | apply below_alloc | apply pw_below_drewN | apply below_drew1) | exact HB.out))) : w.heap.size ≤ gb143)); clear HO135; clear HO140; clear HB; have HO135 := n0_; have HO140 := n1_; have HB := n2_; have BK143 := n3_; have GW143 := n4_; have GE143 := n5_; clear n0_ n1_ n2_ n3_ n4_ n5_; clear hb hbox hg; have hcz27_0 : w26.cell? ⟨gb143, 0, none⟩ = some (.int .i64 0) := (blk_cell BK143.out 0).trans rfl; have hcz27_1 : w26.cell? ⟨gb143, 1, none⟩ = some (.slice none 0 0) := (blk_cell BK143.out 1).trans rfl; have hfz27_0 := blk_frozen BK143.out 0; have hfz27_1 := blk_frozen BK143.out 1; obtain ⟨Ao28, co28, eo28⟩ := Kd.V_slice HO140.out; subst eo28))
            go_ret
            exact ⟨by first | rfl | (simp [errW_none, errW_some] <;> rfl) | (simp [*, errW_none, errW_some] <;> rfl), by repeat (first | (with_reducible first | exact HB.out | apply below_alloc | apply pw_below_drewN | apply below_drew1 | refine below_set ?_ GE143.out) | exact HB.out)⟩
        · rw [if_neg c6] at H
          have c6b0 : ((t138.length : Int) == 0) = false := beq_eq_false_iff_ne.mpr c6
          have c6b1 : ((t138.length : Int) != 0) = true := bne_iff_ne.mpr c6
          have c6b2 : ¬ (t138 = []) := fun h_ => c6 (by rw [h_]; rfl)
          obtain rfl := Option.some.inj H
          go_enter Try.func10, Try.ntmps10
          go_wp2_with (first | ((with_reducible refine gate_callee (f := 11) rfl ?_); refine goesL_ (some 7) rfl rfl Try.func11 (by kernel_rfl) rfl #[.slice none 0 0, .int .i64 1, .slice none 0 0] rfl (by (try simp only [List.map_toArray, List.map_cons, List.map_nil]); first | done | rfl | (simp only [List.length_drop, List.length_take]; rfl)) ?_; (refine (frame_Put.calls k (fun k_ => False) _ _ ([] : List Int) 1 _ _ ([] : List Int) t133 t136 _ ?side1 ?side2 ?side3 A1.out).mono ?_); (case side1 => exact Kd.V_nil _ _ _ _ _); (case side2 => exact Kd.C_nil _ _); (case side3 => exact Nat.le_refl _); rintro e w29 ⟨v134, rfl, ho0, hb⟩; refine ⟨_, rfl, ?_⟩; have n0_ := Aside0.mk (Kd.R_lower (Kd.R_mono (ok' := fun k_ => True) ho0 (fun _ hk_ => trivial)) (below_size (by repeat (first | (with_reducible first | exact HB.out | apply below_alloc | apply pw_below_drewN | apply below_drew1) | exact HB.out)))); have n1_ := Aside0.mk (below_step (by repeat (first | (with_reducible first | exact HB.out | apply below_alloc | apply pw_below_drewN | apply below_drew1) | exact HB.out)) hb); clear HB; have HO135 := n0_; have HB := n1_; clear n0_ n1_; (try clear hb); (try clear hb2); (try clear hk); (try clear hi); (try clear ho0); obtain ⟨Ao30, co30, eo30⟩ := Kd.R_slice HO135.out; subst eo30) | ((with_reducible refine gate_callee (f := 13) rfl ?_); refine goesL_ (some 12) rfl rfl Try.func13 (by kernel_rfl) rfl #[.slice Ao30 t133.length co30, .int .i64 0] rfl (by (try simp only [List.map_toArray, List.map_cons, List.map_nil]); first | done | rfl | (simp only [List.length_drop, List.length_take]; rfl)) ?_; (with_reducible refine (frame_Take.calls _ _ t133 0 t137 t138 t141 t142 _ ?side1 ?side2 A2.out).mono ?_); (case side1 => repeat (first | exact (Kd.R_reads' HO135.out).2.2 | (with_reducible refine Kd.C_alloc ?_ _) | (with_reducible refine Kd.C_drewN ?_ _) | (with_reducible refine Kd.C_drew ?_))); (case side2 => exact (Kd.R_reads' HO135.out).2.1); rintro e w31 ⟨v139, rfl, ho0, hb⟩; refine ⟨_, rfl, ?_⟩; have n0_ := Aside0.mk (Kd.R_below (by (with_reducible repeat (first | apply Kd.R_alloc | apply Kd.R_drewN | apply Kd.R_drew)); exact HO135.out) hb); have n1_ := Aside0.mk (Kd.V_lower (Kd.V_mono (ok' := fun k_ => some k_ ≠ (.slice Ao30 t133.length co30 : Value).ownBlock) ho0 (fun k_ hk_ => (Kd.fresh' (Kd.R_lt (by (with_reducible repeat (first | apply Kd.R_alloc | apply Kd.R_drewN | apply Kd.R_drew)); exact HO135.out)) k_ hk_))) (below_size (by repeat (first | (with_reducible first | exact HB.out | apply below_alloc | apply pw_below_drewN | apply below_drew1) | exact HB.out)))); have n2_ := Aside0.mk (below_step (by repeat (first | (with_reducible first | exact HB.out | apply below_alloc | apply pw_below_drewN | apply below_drew1) | exact HB.out)) hb); clear HO135; clear HB; have HO135 := n0_; have HO140 := n1_; have HB := n2_; clear n0_ n1_ n2_; (try clear hb); (try clear hb2); (try clear hk); (try clear hi); (try clear ho0)) | ((with_reducible refine gate_dst (N := 3) rfl ?_); (try (refine gate_guard (by rfl) ?_; dsimp only)); refine box_event ?hg (N := 3) ?hd (cs := #[.int .i64 0, .slice none 0 0]) (t := 29) ?hr ?_; (case hd => rfl); (case hg => rfl); (case hr => first | (go_simp; done) | (go_simp; rfl)); intro gb143 hg w32 hbox hb; have n0_ := Aside0.mk (Kd.R_below (by (with_reducible repeat (first | apply Kd.R_alloc | apply Kd.R_drewN | apply Kd.R_drew)); exact HO135.out) hb); have n1_ := Aside0.mk (Kd.V_below (Kd.V_elderB (by (with_reducible repeat (first | apply Kd.V_alloc | apply Kd.V_drewN | apply Kd.V_drew)); exact HO140.out) gb143 (Nat.le_of_eq hg.symm)) hb); have n2_ := Aside0.mk (below_step (by repeat (first | (with_reducible first | exact HB.out | apply below_alloc | apply pw_below_drewN | apply below_drew1) | exact HB.out)) hb); have n3_ := Aside0.mk (hbox); have n4_ := Aside0.mk ((by rw [hg]; exact (below_size (by repeat (first | (with_reducible first | exact HB.out | apply below_alloc | apply pw_below_drewN | apply below_drew1) | exact HB.out))) : w.heap.size ≤ gb143)); have n5_ := Aside0.mk ((by rw [hg]; exact (below_size (by repeat (first | (with_reducible first | exact HB.out | apply below_alloc | apply pw_below_drewN | apply below_drew1) | exact HB.out))) : w.heap.size ≤ gb143)); clear HO135; clear HO140; clear HB; have HO135 := n0_; have HO140 := n1_; have HB := n2_; have BK143 := n3_; have GW143 := n4_; have GE143 := n5_; clear n0_ n1_ n2_ n3_ n4_ n5_; clear hb hbox hg; have hcz33_0 : w32.cell? ⟨gb143, 0, none⟩ = some (.int .i64 0) := (blk_cell BK143.out 0).trans rfl; have hcz33_1 : w32.cell? ⟨gb143, 1, none⟩ = some (.slice none 0 0) := (blk_cell BK143.out 1).trans rfl; have hfz33_0 := blk_frozen BK143.out 0; have hfz33_1 := blk_frozen BK143.out 1; obtain ⟨Ao34, co34, eo34⟩ := Kd.V_slice HO140.out; subst eo34))
          go_ret
          exact ⟨by first | rfl | (simp [errW_none, errW_some] <;> rfl) | (simp [*, errW_none, errW_some] <;> rfl), by repeat (first | (with_reducible first | exact HB.out | apply below_alloc | apply pw_below_drewN | apply below_drew1 | refine below_set ?_ GE143.out) | exact HB.out)⟩
      · rw [if_neg c5] at H
        have c5b0 : (t137 == 1) = false := beq_eq_false_iff_ne.mpr c5
        have c5b1 : (t137 != 1) = true := bne_iff_ne.mpr c5
        obtain rfl := Option.some.inj H
        go_enter Try.func10, Try.ntmps10
        go_wp2_with (first | ((with_reducible refine gate_callee (f := 11) rfl ?_); refine goesL_ (some 7) rfl rfl Try.func11 (by kernel_rfl) rfl #[.slice none 0 0, .int .i64 1, .slice none 0 0] rfl (by (try simp only [List.map_toArray, List.map_cons, List.map_nil]); first | done | rfl | (simp only [List.length_drop, List.length_take]; rfl)) ?_; (refine (frame_Put.calls k (fun k_ => False) _ _ ([] : List Int) 1 _ _ ([] : List Int) t133 t136 _ ?side1 ?side2 ?side3 A1.out).mono ?_); (case side1 => exact Kd.V_nil _ _ _ _ _); (case side2 => exact Kd.C_nil _ _); (case side3 => exact Nat.le_refl _); rintro e w35 ⟨v134, rfl, ho0, hb⟩; refine ⟨_, rfl, ?_⟩; have n0_ := Aside0.mk (Kd.R_lower (Kd.R_mono (ok' := fun k_ => True) ho0 (fun _ hk_ => trivial)) (below_size (by repeat (first | (with_reducible first | exact HB.out | apply below_alloc | apply pw_below_drewN | apply below_drew1) | exact HB.out)))); have n1_ := Aside0.mk (below_step (by repeat (first | (with_reducible first | exact HB.out | apply below_alloc | apply pw_below_drewN | apply below_drew1) | exact HB.out)) hb); clear HB; have HO135 := n0_; have HB := n1_; clear n0_ n1_; (try clear hb); (try clear hb2); (try clear hk); (try clear hi); (try clear ho0); obtain ⟨Ao36, co36, eo36⟩ := Kd.R_slice HO135.out; subst eo36) | ((with_reducible refine gate_callee (f := 13) rfl ?_); refine goesL_ (some 12) rfl rfl Try.func13 (by kernel_rfl) rfl #[.slice Ao36 t133.length co36, .int .i64 0] rfl (by (try simp only [List.map_toArray, List.map_cons, List.map_nil]); first | done | rfl | (simp only [List.length_drop, List.length_take]; rfl)) ?_; (with_reducible refine (frame_Take.calls _ _ t133 0 t137 t138 t141 t142 _ ?side1 ?side2 A2.out).mono ?_); (case side1 => repeat (first | exact (Kd.R_reads' HO135.out).2.2 | (with_reducible refine Kd.C_alloc ?_ _) | (with_reducible refine Kd.C_drewN ?_ _) | (with_reducible refine Kd.C_drew ?_))); (case side2 => exact (Kd.R_reads' HO135.out).2.1); rintro e w37 ⟨v139, rfl, ho0, hb⟩; refine ⟨_, rfl, ?_⟩; have n0_ := Aside0.mk (Kd.R_below (by (with_reducible repeat (first | apply Kd.R_alloc | apply Kd.R_drewN | apply Kd.R_drew)); exact HO135.out) hb); have n1_ := Aside0.mk (Kd.V_lower (Kd.V_mono (ok' := fun k_ => some k_ ≠ (.slice Ao36 t133.length co36 : Value).ownBlock) ho0 (fun k_ hk_ => (Kd.fresh' (Kd.R_lt (by (with_reducible repeat (first | apply Kd.R_alloc | apply Kd.R_drewN | apply Kd.R_drew)); exact HO135.out)) k_ hk_))) (below_size (by repeat (first | (with_reducible first | exact HB.out | apply below_alloc | apply pw_below_drewN | apply below_drew1) | exact HB.out)))); have n2_ := Aside0.mk (below_step (by repeat (first | (with_reducible first | exact HB.out | apply below_alloc | apply pw_below_drewN | apply below_drew1) | exact HB.out)) hb); clear HO135; clear HB; have HO135 := n0_; have HO140 := n1_; have HB := n2_; clear n0_ n1_ n2_; (try clear hb); (try clear hb2); (try clear hk); (try clear hi); (try clear ho0)) | ((with_reducible refine gate_dst (N := 3) rfl ?_); (try (refine gate_guard (by rfl) ?_; dsimp only)); refine box_event ?hg (N := 3) ?hd (cs := #[.int .i64 0, .slice none 0 0]) (t := 29) ?hr ?_; (case hd => rfl); (case hg => rfl); (case hr => first | (go_simp; done) | (go_simp; rfl)); intro gb143 hg w38 hbox hb; have n0_ := Aside0.mk (Kd.R_below (by (with_reducible repeat (first | apply Kd.R_alloc | apply Kd.R_drewN | apply Kd.R_drew)); exact HO135.out) hb); have n1_ := Aside0.mk (Kd.V_below (Kd.V_elderB (by (with_reducible repeat (first | apply Kd.V_alloc | apply Kd.V_drewN | apply Kd.V_drew)); exact HO140.out) gb143 (Nat.le_of_eq hg.symm)) hb); have n2_ := Aside0.mk (below_step (by repeat (first | (with_reducible first | exact HB.out | apply below_alloc | apply pw_below_drewN | apply below_drew1) | exact HB.out)) hb); have n3_ := Aside0.mk (hbox); have n4_ := Aside0.mk ((by rw [hg]; exact (below_size (by repeat (first | (with_reducible first | exact HB.out | apply below_alloc | apply pw_below_drewN | apply below_drew1) | exact HB.out))) : w.heap.size ≤ gb143)); have n5_ := Aside0.mk ((by rw [hg]; exact (below_size (by repeat (first | (with_reducible first | exact HB.out | apply below_alloc | apply pw_below_drewN | apply below_drew1) | exact HB.out))) : w.heap.size ≤ gb143)); clear HO135; clear HO140; clear HB; have HO135 := n0_; have HO140 := n1_; have HB := n2_; have BK143 := n3_; have GW143 := n4_; have GE143 := n5_; clear n0_ n1_ n2_ n3_ n4_ n5_; clear hb hbox hg; have hcz39_0 : w38.cell? ⟨gb143, 0, none⟩ = some (.int .i64 0) := (blk_cell BK143.out 0).trans rfl; have hcz39_1 : w38.cell? ⟨gb143, 1, none⟩ = some (.slice none 0 0) := (blk_cell BK143.out 1).trans rfl; have hfz39_0 := blk_frozen BK143.out 0; have hfz39_1 := blk_frozen BK143.out 1; obtain ⟨Ao40, co40, eo40⟩ := Kd.V_slice HO140.out; subst eo40))
        go_ret
        exact ⟨by first | rfl | (simp [errW_none, errW_some] <;> rfl) | (simp [*, errW_none, errW_some] <;> rfl), by repeat (first | (with_reducible first | exact HB.out | apply below_alloc | apply pw_below_drewN | apply below_drew1 | refine below_set ?_ GE143.out) | exact HB.out)⟩
    · rw [if_neg c4] at H
      have c4b0 : (t136 == 0) = false := beq_eq_false_iff_ne.mpr c4
      have c4b1 : (t136 != 0) = true := bne_iff_ne.mpr c4
      obtain rfl := Option.some.inj H
      go_enter Try.func10, Try.ntmps10
      go_wp2_with (first | ((with_reducible refine gate_callee (f := 11) rfl ?_); refine goesL_ (some 7) rfl rfl Try.func11 (by kernel_rfl) rfl #[.slice none 0 0, .int .i64 1, .slice none 0 0] rfl (by (try simp only [List.map_toArray, List.map_cons, List.map_nil]); first | done | rfl | (simp only [List.length_drop, List.length_take]; rfl)) ?_; (refine (frame_Put.calls k (fun k_ => False) _ _ ([] : List Int) 1 _ _ ([] : List Int) t133 t136 _ ?side1 ?side2 ?side3 A1.out).mono ?_); (case side1 => exact Kd.V_nil _ _ _ _ _); (case side2 => exact Kd.C_nil _ _); (case side3 => exact Nat.le_refl _); rintro e w41 ⟨v134, rfl, ho0, hb⟩; refine ⟨_, rfl, ?_⟩; have n0_ := Aside0.mk (Kd.R_lower (Kd.R_mono (ok' := fun k_ => True) ho0 (fun _ hk_ => trivial)) (below_size (by repeat (first | (with_reducible first | exact HB.out | apply below_alloc | apply pw_below_drewN | apply below_drew1) | exact HB.out)))); have n1_ := Aside0.mk (below_step (by repeat (first | (with_reducible first | exact HB.out | apply below_alloc | apply pw_below_drewN | apply below_drew1) | exact HB.out)) hb); clear HB; have HO135 := n0_; have HB := n1_; clear n0_ n1_; (try clear hb); (try clear hb2); (try clear hk); (try clear hi); (try clear ho0); obtain ⟨Ao42, co42, eo42⟩ := Kd.R_slice HO135.out; subst eo42) | ((with_reducible refine gate_callee (f := 13) rfl ?_); refine goesL_ (some 12) rfl rfl Try.func13 (by kernel_rfl) rfl #[.slice Ao42 t133.length co42, .int .i64 0] rfl (by (try simp only [List.map_toArray, List.map_cons, List.map_nil]); first | done | rfl | (simp only [List.length_drop, List.length_take]; rfl)) ?_; (with_reducible refine (frame_Take.calls _ _ t133 0 t137 t138 t141 t142 _ ?side1 ?side2 A2.out).mono ?_); (case side1 => repeat (first | exact (Kd.R_reads' HO135.out).2.2 | (with_reducible refine Kd.C_alloc ?_ _) | (with_reducible refine Kd.C_drewN ?_ _) | (with_reducible refine Kd.C_drew ?_))); (case side2 => exact (Kd.R_reads' HO135.out).2.1); rintro e w43 ⟨v139, rfl, ho0, hb⟩; refine ⟨_, rfl, ?_⟩; have n0_ := Aside0.mk (Kd.R_below (by (with_reducible repeat (first | apply Kd.R_alloc | apply Kd.R_drewN | apply Kd.R_drew)); exact HO135.out) hb); have n1_ := Aside0.mk (Kd.V_lower (Kd.V_mono (ok' := fun k_ => some k_ ≠ (.slice Ao42 t133.length co42 : Value).ownBlock) ho0 (fun k_ hk_ => (Kd.fresh' (Kd.R_lt (by (with_reducible repeat (first | apply Kd.R_alloc | apply Kd.R_drewN | apply Kd.R_drew)); exact HO135.out)) k_ hk_))) (below_size (by repeat (first | (with_reducible first | exact HB.out | apply below_alloc | apply pw_below_drewN | apply below_drew1) | exact HB.out)))); have n2_ := Aside0.mk (below_step (by repeat (first | (with_reducible first | exact HB.out | apply below_alloc | apply pw_below_drewN | apply below_drew1) | exact HB.out)) hb); clear HO135; clear HB; have HO135 := n0_; have HO140 := n1_; have HB := n2_; clear n0_ n1_ n2_; (try clear hb); (try clear hb2); (try clear hk); (try clear hi); (try clear ho0)) | ((with_reducible refine gate_dst (N := 3) rfl ?_); (try (refine gate_guard (by rfl) ?_; dsimp only)); refine box_event ?hg (N := 3) ?hd (cs := #[.int .i64 0, .slice none 0 0]) (t := 29) ?hr ?_; (case hd => rfl); (case hg => rfl); (case hr => first | (go_simp; done) | (go_simp; rfl)); intro gb143 hg w44 hbox hb; have n0_ := Aside0.mk (Kd.R_below (by (with_reducible repeat (first | apply Kd.R_alloc | apply Kd.R_drewN | apply Kd.R_drew)); exact HO135.out) hb); have n1_ := Aside0.mk (Kd.V_below (Kd.V_elderB (by (with_reducible repeat (first | apply Kd.V_alloc | apply Kd.V_drewN | apply Kd.V_drew)); exact HO140.out) gb143 (Nat.le_of_eq hg.symm)) hb); have n2_ := Aside0.mk (below_step (by repeat (first | (with_reducible first | exact HB.out | apply below_alloc | apply pw_below_drewN | apply below_drew1) | exact HB.out)) hb); have n3_ := Aside0.mk (hbox); have n4_ := Aside0.mk ((by rw [hg]; exact (below_size (by repeat (first | (with_reducible first | exact HB.out | apply below_alloc | apply pw_below_drewN | apply below_drew1) | exact HB.out))) : w.heap.size ≤ gb143)); have n5_ := Aside0.mk ((by rw [hg]; exact (below_size (by repeat (first | (with_reducible first | exact HB.out | apply below_alloc | apply pw_below_drewN | apply below_drew1) | exact HB.out))) : w.heap.size ≤ gb143)); clear HO135; clear HO140; clear HB; have HO135 := n0_; have HO140 := n1_; have HB := n2_; have BK143 := n3_; have GW143 := n4_; have GE143 := n5_; clear n0_ n1_ n2_ n3_ n4_ n5_; clear hb hbox hg; have hcz45_0 : w44.cell? ⟨gb143, 0, none⟩ = some (.int .i64 0) := (blk_cell BK143.out 0).trans rfl; have hcz45_1 : w44.cell? ⟨gb143, 1, none⟩ = some (.slice none 0 0) := (blk_cell BK143.out 1).trans rfl; have hfz45_0 := blk_frozen BK143.out 0; have hfz45_1 := blk_frozen BK143.out 1; obtain ⟨Ao46, co46, eo46⟩ := Kd.V_slice HO140.out; subst eo46))
      go_ret
      exact ⟨by first | rfl | (simp [errW_none, errW_some] <;> rfl) | (simp [*, errW_none, errW_some] <;> rfl), by repeat (first | (with_reducible first | exact HB.out | apply below_alloc | apply pw_below_drewN | apply below_drew1 | refine below_set ?_ GE143.out) | exact HB.out)⟩
  · rw [if_neg c3] at H
    have c3b0 : ((t133.length : Int) == 12) = false := beq_eq_false_iff_ne.mpr c3
    have c3b1 : ((t133.length : Int) != 12) = true := bne_iff_ne.mpr c3
    obtain rfl := Option.some.inj H
    go_enter Try.func10, Try.ntmps10
    go_wp2_with (first | ((with_reducible refine gate_callee (f := 11) rfl ?_); refine goesL_ (some 7) rfl rfl Try.func11 (by kernel_rfl) rfl #[.slice none 0 0, .int .i64 1, .slice none 0 0] rfl (by (try simp only [List.map_toArray, List.map_cons, List.map_nil]); first | done | rfl | (simp only [List.length_drop, List.length_take]; rfl)) ?_; (refine (frame_Put.calls k (fun k_ => False) _ _ ([] : List Int) 1 _ _ ([] : List Int) t133 t136 _ ?side1 ?side2 ?side3 A1.out).mono ?_); (case side1 => exact Kd.V_nil _ _ _ _ _); (case side2 => exact Kd.C_nil _ _); (case side3 => exact Nat.le_refl _); rintro e w47 ⟨v134, rfl, ho0, hb⟩; refine ⟨_, rfl, ?_⟩; have n0_ := Aside0.mk (Kd.R_lower (Kd.R_mono (ok' := fun k_ => True) ho0 (fun _ hk_ => trivial)) (below_size (by repeat (first | (with_reducible first | exact HB.out | apply below_alloc | apply pw_below_drewN | apply below_drew1) | exact HB.out)))); have n1_ := Aside0.mk (below_step (by repeat (first | (with_reducible first | exact HB.out | apply below_alloc | apply pw_below_drewN | apply below_drew1) | exact HB.out)) hb); clear HB; have HO135 := n0_; have HB := n1_; clear n0_ n1_; (try clear hb); (try clear hb2); (try clear hk); (try clear hi); (try clear ho0); obtain ⟨Ao48, co48, eo48⟩ := Kd.R_slice HO135.out; subst eo48) | ((with_reducible refine gate_callee (f := 13) rfl ?_); refine goesL_ (some 12) rfl rfl Try.func13 (by kernel_rfl) rfl #[.slice Ao48 t133.length co48, .int .i64 0] rfl (by (try simp only [List.map_toArray, List.map_cons, List.map_nil]); first | done | rfl | (simp only [List.length_drop, List.length_take]; rfl)) ?_; (with_reducible refine (frame_Take.calls _ _ t133 0 t137 t138 t141 t142 _ ?side1 ?side2 A2.out).mono ?_); (case side1 => repeat (first | exact (Kd.R_reads' HO135.out).2.2 | (with_reducible refine Kd.C_alloc ?_ _) | (with_reducible refine Kd.C_drewN ?_ _) | (with_reducible refine Kd.C_drew ?_))); (case side2 => exact (Kd.R_reads' HO135.out).2.1); rintro e w49 ⟨v139, rfl, ho0, hb⟩; refine ⟨_, rfl, ?_⟩; have n0_ := Aside0.mk (Kd.R_below (by (with_reducible repeat (first | apply Kd.R_alloc | apply Kd.R_drewN | apply Kd.R_drew)); exact HO135.out) hb); have n1_ := Aside0.mk (Kd.V_lower (Kd.V_mono (ok' := fun k_ => some k_ ≠ (.slice Ao48 t133.length co48 : Value).ownBlock) ho0 (fun k_ hk_ => (Kd.fresh' (Kd.R_lt (by (with_reducible repeat (first | apply Kd.R_alloc | apply Kd.R_drewN | apply Kd.R_drew)); exact HO135.out)) k_ hk_))) (below_size (by repeat (first | (with_reducible first | exact HB.out | apply below_alloc | apply pw_below_drewN | apply below_drew1) | exact HB.out)))); have n2_ := Aside0.mk (below_step (by repeat (first | (with_reducible first | exact HB.out | apply below_alloc | apply pw_below_drewN | apply below_drew1) | exact HB.out)) hb); clear HO135; clear HB; have HO135 := n0_; have HO140 := n1_; have HB := n2_; clear n0_ n1_ n2_; (try clear hb); (try clear hb2); (try clear hk); (try clear hi); (try clear ho0)) | ((with_reducible refine gate_dst (N := 3) rfl ?_); (try (refine gate_guard (by rfl) ?_; dsimp only)); refine box_event ?hg (N := 3) ?hd (cs := #[.int .i64 0, .slice none 0 0]) (t := 29) ?hr ?_; (case hd => rfl); (case hg => rfl); (case hr => first | (go_simp; done) | (go_simp; rfl)); intro gb143 hg w50 hbox hb; have n0_ := Aside0.mk (Kd.R_below (by (with_reducible repeat (first | apply Kd.R_alloc | apply Kd.R_drewN | apply Kd.R_drew)); exact HO135.out) hb); have n1_ := Aside0.mk (Kd.V_below (Kd.V_elderB (by (with_reducible repeat (first | apply Kd.V_alloc | apply Kd.V_drewN | apply Kd.V_drew)); exact HO140.out) gb143 (Nat.le_of_eq hg.symm)) hb); have n2_ := Aside0.mk (below_step (by repeat (first | (with_reducible first | exact HB.out | apply below_alloc | apply pw_below_drewN | apply below_drew1) | exact HB.out)) hb); have n3_ := Aside0.mk (hbox); have n4_ := Aside0.mk ((by rw [hg]; exact (below_size (by repeat (first | (with_reducible first | exact HB.out | apply below_alloc | apply pw_below_drewN | apply below_drew1) | exact HB.out))) : w.heap.size ≤ gb143)); have n5_ := Aside0.mk ((by rw [hg]; exact (below_size (by repeat (first | (with_reducible first | exact HB.out | apply below_alloc | apply pw_below_drewN | apply below_drew1) | exact HB.out))) : w.heap.size ≤ gb143)); clear HO135; clear HO140; clear HB; have HO135 := n0_; have HO140 := n1_; have HB := n2_; have BK143 := n3_; have GW143 := n4_; have GE143 := n5_; clear n0_ n1_ n2_ n3_ n4_ n5_; clear hb hbox hg; have hcz51_0 : w50.cell? ⟨gb143, 0, none⟩ = some (.int .i64 0) := (blk_cell BK143.out 0).trans rfl; have hcz51_1 : w50.cell? ⟨gb143, 1, none⟩ = some (.slice none 0 0) := (blk_cell BK143.out 1).trans rfl; have hfz51_0 := blk_frozen BK143.out 0; have hfz51_1 := blk_frozen BK143.out 1; obtain ⟨Ao52, co52, eo52⟩ := Kd.V_slice HO140.out; subst eo52))
    go_ret
    exact ⟨by first | rfl | (simp [errW_none, errW_some] <;> rfl) | (simp [*, errW_none, errW_some] <;> rfl), by repeat (first | (with_reducible first | exact HB.out | apply below_alloc | apply pw_below_drewN | apply below_drew1 | refine below_set ?_ GE143.out) | exact HB.out)⟩

end Go.Proofs.Ytcnapbpljghfoaa.PCrc

/- What the printed functions of the document and of frame tell, in plain words: what is framed, what is taken. -/
namespace Go.Proofs.Ytcnapbpljghfoaa.Plain
open Go.RowKit Go.Proofs.YtcnapbpljghfoaaW.PrintWords Go.Proofs.YtcnapbpljghfoaaW.PrintLast Go.Proofs.YtcnapbpljghfoaaW.PrintMore
open Go.Proofs.Ytcnapbpljghfoaa.PCrc
open Go.Proofs.Ytcnapbpljghfoaa.Hand (moreF sealF ownF tailL sum_f tail_f refsumF fixF concatF takeO)
set_option linter.unusedVariables false
set_option linter.unusedSimpArgs false

theorem strOfNums_extract (l : List Int) (i j : Nat) : (strOfNums l).extract i j = strOfNums ((l.take j).drop i) := by
  apply ByteArray.ext
  rw [ByteArray.data_extract]
  apply Array.ext'
  simp [strOfNums, List.map_take, List.map_drop, List.extract_eq_take_drop]
  rw [List.drop_take]
theorem bt_strOfNums {l : List Int} (h : isB l) (i : Nat) (hi : i < l.length) : bt (strOfNums l) (i : Int) = l.getD i 0 := by
  unfold bt
  rw [dif_pos (by rw [strOfNums_size, Int.toNat_natCast]; exact hi)]
  simp only [Int.toNat_natCast]
  have hx := h l[i] (List.getElem_mem _)
  rw [List.getD_eq_getElem?_getD, List.getElem?_eq_getElem hi]
  have e : ((strOfNums l)[i]'(by rw [strOfNums_size]; exact hi)) = UInt8.ofNat (l[i]).toNat := by
    simp [strOfNums, ByteArray.getElem_eq_getElem_data]
  rw [e, UInt8.toNat_ofNat', Option.getD_some]
  omega
theorem str_eq {l r : List Int} (h : isB l) (h' : isB r) : (strOfNums l).toList = (strOfNums r).toList ↔ l = r := ⟨strOfNums_inj h h', fun e => by rw [e]⟩

theorem refseal_f {l : List Int} (hb : isB l) (hl : l.length ≤ 140737488355328) : concordanceref1_Seal.f (strOfNums l) = some (strOfNums (l ++ tailL (moreN 0 l))) := by
  unfold concordanceref1_Seal.f concordanceref1_Sum.f refsumF concordanceref1_four.f
  rw [if_pos (by rw [strOfNums_size]; exact hl), Option.bind_some, Option.bind_some, if_pos (by rw [strOfNums_size, strOfNums_size]; simp only [List.length_cons, List.length_nil]; omega), bytesOf_strOfNums hb, strOfNums_append]
  rfl
theorem refopen_f {l : List Int} (hb : isB l) (hl : l.length ≤ 140737488355328) : concordanceref1_Open.f (strOfNums l) = some (strOfNums (openL l).1, (openL l).2) := by
  unfold concordanceref1_Open.f openL
  rw [strOfNums_size, w64 (by omega) (by omega)]
  by_cases h4 : l.length < 4
  · rw [if_pos (by omega), if_pos h4]
    rfl
  · have e : ((l.length : Int) - 4).toNat = l.length - 4 := by omega
    rw [if_neg (by omega), if_pos (by omega), if_pos (by omega), if_neg h4, e, strOfNums_extract, List.drop_zero, refseal_f (isB_take hb _) (by rw [List.length_take]; omega), Option.bind_some]
    have hsp : l = l.take (l.length - 4) ++ l.drop (l.length - 4) := (List.take_append_drop _ _).symm
    have hiff : (strOfNums (l.take (l.length - 4) ++ tailL (moreN 0 (l.take (l.length - 4))))).toList = (strOfNums l).toList ↔ tailL (moreN 0 (l.take (l.length - 4))) = l.drop (l.length - 4) := by
      rw [str_eq (sealed_isB (isB_take hb _)) hb]
      constructor
      · intro h
        conv at h => rhs; rw [hsp]
        exact List.append_cancel_left h
      · intro h
        rw [h]
        exact hsp.symm
    by_cases ht : tailL (moreN 0 (l.take (l.length - 4))) = l.drop (l.length - 4)
    · rw [if_pos ht, if_pos (hiff.2 ht)]
    · rw [if_neg ht, if_neg (fun h => ht (hiff.1 h))]
      rfl
theorem reffixed_three {l : List Int} (hb : isB l) (hl : l.length = 3) (k : Nat) : concordanceref1_Fixed.f (k + 5) (strOfNums l) 3 = some ((three l : Int), 0) := by
  have hf := fixedV_three hb hl
  obtain ⟨a, b, c, rfl⟩ : ∃ a b c, l = [a, b, c] := by
    match l, hl with
    | [a, b, c], _ => exact ⟨a, b, c, rfl⟩
  have b0 := bt_strOfNums hb 0 (by simp)
  have b1 := bt_strOfNums hb 1 (by simp)
  have b2 := bt_strOfNums hb 2 (by simp)
  rw [show ((0 : Nat) : Int) = 0 from rfl] at b0
  rw [show ((1 : Nat) : Int) = 1 from rfl] at b1
  rw [show ((2 : Nat) : Int) = 2 from rfl] at b2
  have hs : ((strOfNums [a, b, c]).size : Int) = 3 := by rw [strOfNums_size]; rfl
  unfold concordanceref1_Fixed.f
  rw [if_neg (by omega), concordanceref1_Fixed.j0, if_neg (by simp), hs, if_neg (by omega)]
  rw [show k + 4 = (k + 3) + 1 from rfl, concordanceref1_Fixed.l0, if_pos (by omega), if_pos (by omega), hs, if_pos (by omega), b0, w64 (by omega) (by omega)]
  rw [show k + 3 = (k + 2) + 1 from rfl, concordanceref1_Fixed.l0, if_pos (by omega), if_pos (by omega), hs, if_pos (by omega), show (0 : Int) + 1 = 1 from rfl, b1, w64 (by omega) (by omega)]
  rw [show k + 2 = (k + 1) + 1 from rfl, concordanceref1_Fixed.l0, if_pos (by omega), if_pos (by omega), hs, if_pos (by omega), show (1 : Int) + 1 = 2 from rfl, b2, w64 (by omega) (by omega)]
  rw [concordanceref1_Fixed.l0, if_neg (by omega), ← hf]
  rfl
theorem frameok_f (k : Nat) (a n : Int) : concordanceref1_FrameOk.f (k + 1) a n = some (if a < 1 ∨ 250 < a then 1 else if 70000 < n then 2 else 0) := by
  unfold concordanceref1_FrameOk.f
  by_cases h1 : a < 1
  · rw [if_pos h1, concordanceref1_FrameOk.j0, if_pos rfl, if_pos (.inl h1)]
  · rw [if_neg h1, concordanceref1_FrameOk.j0]
    by_cases h2 : a > 250
    · rw [decide_eq_true h2, if_pos rfl, if_pos (.inr h2)]
    · rw [decide_eq_false h2, if_neg (by simp), if_neg (show ¬ (a < 1 ∨ 250 < a) from by omega)]
      by_cases h3 : 70000 < n
      · rw [if_pos (show n > 70000 from h3), if_pos h3]
      · rw [if_neg (show ¬ n > 70000 from h3), if_neg h3]
theorem take_getD {l : List Int} {m : Nat} (h : 0 < m) : (l.take m).getD 0 0 = l.getD 0 0 := by
  cases l with
  | nil => simp
  | cons x l => cases m with
    | zero => omega
    | succ m => rfl
/-- The document's Unframe tells what frame.Take tells. -/
theorem unframe_f {l : List Int} (hb : isB l) (hl : l.length ≤ 140737488355328) (a : Int) (ha : -9223372036854775808 ≤ a) (ha2 : a < 9223372036854775808) (k : Nat) : concordanceref1_Unframe.f (k + 6) (strOfNums l) a = some ((takeF l a).1, strOfNums (takeF l a).2.1, (takeF l a).2.2.1, (takeF l a).2.2.2) := by
  unfold concordanceref1_Unframe.f takeF
  by_cases h1 : a < 0
  · rw [if_pos h1, concordanceref1_Unframe.j0, if_pos rfl, if_pos (.inl h1)]
    rfl
  · rw [if_neg h1, concordanceref1_Unframe.j0, strOfNums_size]
    by_cases h2 : (l.length : Int) < a
    · rw [decide_eq_true h2, if_pos rfl, if_pos (.inr h2)]
      rfl
    · rw [decide_eq_false h2, if_neg (by simp), if_neg (show ¬ (a < 0 ∨ (l.length : Int) < a) from by omega)]
      obtain ⟨n, rfl⟩ := Int.eq_ofNat_of_zero_le (show 0 ≤ a by omega)
      rw [w64 (x := (l.length : Int) - n) (by omega) (by omega), w64 (x := (n : Int) + 8) (by omega) (by omega), w64 (x := (n : Int) + 12) (by omega) (by omega), Int.toNat_natCast, List.length_drop]
      by_cases h3 : l.length - n < 8
      · rw [if_pos (show (l.length : Int) - n < 8 from by omega), if_pos h3]
        rfl
      · rw [if_neg (show ¬ (l.length : Int) - n < 8 from by omega), if_neg h3, if_pos (by omega), if_pos (by omega), if_pos (by omega), strOfNums_extract, show ((n : Int) + 8).toNat = n + 8 from by omega]
        have e8 : (l.take (n + 8)).drop n = (l.drop n).take 8 := by rw [List.drop_take]; congr 1; omega
        have hb8 := isB_take (isB_drop hb n) 8
        have hl8 : ((l.drop n).take 8).length = 8 := by rw [List.length_take, List.length_drop]; omega
        rw [e8, refopen_f hb8 (by omega), Option.bind_some]
        have hol := openL_len (l := (l.drop n).take 8)
        have hoB := openL_isB hb8
        rw [hl8] at hol
        by_cases h4 : (openL ((l.drop n).take 8)).2 = 0
        · have hx4 : ((openL ((l.drop n).take 8)).1).length = 4 := by rw [(hol h4).1, List.length_take, hl8]; rfl
          generalize (openL ((l.drop n).take 8)).1 = x at hx4 hoB ⊢
          have hb3 := isB_drop hoB 1
          have hl3 : (x.drop 1).length = 3 := by rw [List.length_drop]; omega
          have hn3 := three_lt hb3 hl3
          have hk := bt_strOfNums hoB 0 (by omega)
          rw [show ((0 : Nat) : Int) = 0 from rfl] at hk
          have hk2 : 0 ≤ x.getD 0 0 ∧ x.getD 0 0 < 256 := by
            rw [List.getD_eq_getElem?_getD, List.getElem?_eq_getElem (show 0 < x.length by omega)]
            exact hoB _ (List.getElem_mem _)
          rw [if_pos h4, if_pos h4]
          dsimp only
          rw [strOfNums_size, if_pos (by omega), strOfNums_extract, List.take_length, reffixed_three hb3 hl3, Option.bind_some, if_pos (by omega), hk]
          dsimp only
          unfold recB
          generalize three (x.drop 1) = q at hn3 ⊢
          generalize x.getD 0 0 = c at hk2 ⊢
          rw [w64 (x := c) (by omega) (by omega), w64 (x := (q : Int)) (by omega) (by omega), frameok_f, Option.bind_some, w64 (x := (l.length : Int) - n - 8) (by omega) (by omega), w64 (x := (q : Int) + 4) (by omega) (by omega), w64 (x := (n : Int) + 12 + q) (by omega) (by omega)]
          by_cases h5 : c < 1 ∨ 250 < c
          · rw [if_pos h5, if_neg (by omega), if_pos (show c < 1 ∨ 250 < c ∨ 70000 < q from by omega)]
            rfl
          · rw [if_neg h5]
            by_cases h6 : 70000 < (q : Int)
            · rw [if_pos h6, if_neg (by omega), if_pos (show c < 1 ∨ 250 < c ∨ 70000 < q from by omega)]
              rfl
            · rw [if_neg h6, if_pos rfl, if_neg (show ¬ (c < 1 ∨ 250 < c ∨ 70000 < q) from by omega), List.length_drop]
              by_cases h7 : (l.length : Int) - n - 8 < (q : Int) + 4
              · rw [if_pos h7, if_pos (show ((l.length - n : Nat) : Int) - 8 < (q : Int) + 4 from by omega)]
                rfl
              · rw [if_neg h7, if_neg (show ¬ ((l.length - n : Nat) : Int) - 8 < (q : Int) + 4 from by omega), if_pos (by omega), if_pos (by omega), if_pos (by omega), strOfNums_extract, show ((n : Int) + 12 + q).toNat = n + (12 + q) from by omega]
                have e9 : (l.take (n + (12 + q))).drop (n + 8) = ((l.drop n).take (12 + q)).drop 8 := by
                  rw [← List.drop_drop, List.drop_take]
                  congr 2
                  omega
                rw [e9, refopen_f (isB_drop (isB_take (isB_drop hb n) _) 8) (by rw [List.length_drop, List.length_take, List.length_drop]; omega), Option.bind_some]
                by_cases h8 : (openL (((l.drop n).take (12 + q)).drop 8)).2 = 0
                · rw [if_pos h8, if_pos h8]
                · rw [if_neg h8, if_neg h8]
                  rfl
        · rw [if_neg h4, if_neg h4]
          rfl

/-- A record: its head (the kind, the length), sealed, and its body, sealed. -/
def headL (kind : Int) (n : Nat) : List Int := (kind % 256) :: fixL n 3
def recL (kind : Int) (body : List Int) : List Int := (headL kind body.length ++ tailL (moreN 0 (headL kind body.length))) ++ (body ++ tailL (moreN 0 body))
theorem headL_length (kind : Int) (n : Nat) : (headL kind n).length = 4 := rfl
theorem fixL_isB (n s : Nat) : isB (fixL n s) := by
  induction s with
  | zero => intro x hx; cases hx
  | succ s ih =>
    intro x hx
    rcases List.mem_cons.1 hx with rfl | hx
    · omega
    · exact ih x hx
theorem headL_isB (kind : Int) (n : Nat) : isB (headL kind n) := by
  intro x hx
  rcases List.mem_cons.1 hx with rfl | hx
  · omega
  · exact fixL_isB n 3 x hx
theorem recL_isB {kind : Int} {body : List Int} (hb : isB body) : isB (recL kind body) := isB_append (sealed_isB (headL_isB _ _)) (sealed_isB hb)
theorem recL_length (kind : Int) (body : List Int) : (recL kind body).length = body.length + 12 := by
  unfold recL
  rw [List.length_append, List.length_append, List.length_append, headL_length, tailL_length, tailL_length]
  omega
/-- What frame.Put tells. -/
def putF (l : List Int) (kind : Int) (body : List Int) : List Int × Int := if kind < 1 ∨ 250 < kind then ([], 1) else if 70000 < body.length then ([], 2) else (l ++ recL kind body, 0)
theorem put_f {l body : List Int} (hl : l.length ≤ 140737488200000) (hbb : isB body) (hbl : body.length ≤ 140737488200000) (kind : Int) (k : Nat) : frame_Put.f (k + 1) l kind body = some (putF l kind body) := by
  unfold frame_Put.f putF
  by_cases h1 : kind < 1
  · rw [if_pos h1, frame_Put.j0, if_pos rfl, if_pos (.inl h1)]
  · rw [if_neg h1, frame_Put.j0]
    by_cases h2 : kind > 250
    · rw [decide_eq_true h2, if_pos rfl, if_pos (.inr h2)]
    · rw [decide_eq_false h2, if_neg (by simp), if_neg (show ¬ (kind < 1 ∨ 250 < kind) from by omega)]
      by_cases h3 : 70000 < body.length
      · rw [if_pos (show (body.length : Int) > 70000 from by omega), if_pos h3]
      · have hh := headL_isB kind body.length
        have hfx : num_Fix.f [kind % 256] (IntKind.u64.wrap (body.length : Int)) 3 = some (headL kind body.length) := by
          unfold num_Fix.f fixF
          rw [wrap_u64, if_pos ⟨by simp, by omega, by omega⟩, show ((body.length : Int) % 18446744073709551616).toNat = body.length from by omega]
          rfl
        have hcc : slices_Concat_byte_byte.f [l, headL kind body.length ++ tailL (moreN 0 (headL kind body.length)), body ++ tailL (moreN 0 body)] = some (l ++ recL kind body) := by
          unfold slices_Concat_byte_byte.f concatF
          have hfl : [l, headL kind body.length ++ tailL (moreN 0 (headL kind body.length)), body ++ tailL (moreN 0 body)].flatten = l ++ recL kind body := by
            simp only [List.flatten_cons, List.flatten_nil, List.append_nil]
            rfl
          rw [hfl, if_pos ⟨by simp, by rw [List.length_append, recL_length]; omega⟩]
        rw [if_neg (show ¬ (body.length : Int) > 70000 from by omega), if_neg h3, hfx, Option.bind_some, seal_f hh (by rw [headL_length]; omega), Option.bind_some, seal_f hbb (by omega), Option.bind_some, hcc, Option.bind_some]
theorem three_fix {n : Nat} (h : n < 16777216) : three (fixL n 3) = n := by
  unfold three
  simp only [fixL, List.getD_cons_zero, List.getD_cons_succ]
  omega
/-- What was framed is taken again. -/
theorem take_rec {l r body : List Int} {kind : Int} (hb : isB body) (h1 : 1 ≤ kind) (h2 : kind ≤ 250) (h3 : body.length ≤ 70000) : takeF (l ++ recL kind body ++ r) l.length = (kind, body, (l.length : Int) + 12 + body.length, 0) := by
  have hlen : (l ++ recL kind body ++ r).length = l.length + (body.length + 12) + r.length := by rw [List.length_append, List.length_append, recL_length]
  have hdrop : (l ++ recL kind body ++ r).drop l.length = recL kind body ++ r := by rw [List.append_assoc, List.drop_left]
  have hh : (headL kind body.length ++ tailL (moreN 0 (headL kind body.length))).length = 8 := rfl
  have hrec : recL kind body ++ r = (headL kind body.length ++ tailL (moreN 0 (headL kind body.length))) ++ ((body ++ tailL (moreN 0 body)) ++ r) := by
    unfold recL
    rw [List.append_assoc]
  have ht8 : (recL kind body ++ r).take 8 = headL kind body.length ++ tailL (moreN 0 (headL kind body.length)) := by
    rw [hrec]
    exact List.take_left' hh
  have hs : (body ++ tailL (moreN 0 body)).length = body.length + 4 := by rw [List.length_append, tailL_length]
  have ht12 : ((recL kind body ++ r).take (12 + body.length)).drop 8 = body ++ tailL (moreN 0 body) := by
    rw [hrec, show 12 + body.length = 8 + (body.length + 4) from by omega, List.drop_take, show 8 + (body.length + 4) - 8 = body.length + 4 from by omega, List.drop_left' hh]
    exact List.take_left' hs
  unfold takeF
  rw [if_neg (by omega), Int.toNat_natCast, hdrop, ht8, openL_seal, if_neg (by rw [List.length_append, recL_length]; omega), if_pos rfl]
  unfold recB
  dsimp only
  have hk : (headL kind body.length).getD 0 0 = kind := by show kind % 256 = kind; omega
  have hd : (headL kind body.length).drop 1 = fixL body.length 3 := rfl
  rw [hk, hd, three_fix (by omega), if_neg (by omega), if_neg (by rw [List.length_append, recL_length]; omega), ht12, openL_seal, if_pos rfl]
/-- awake tells true. -/
theorem awake3_f (k : Nat) : concordancelaw3_awake.f (k + 1) = some true := by
  unfold concordancelaw3_awake.f
  have hn : isB [] := by intro x hx; cases hx
  rw [put_f (by simp) hn (by simp), Option.bind_some]
  have hp : putF [] 1 [] = (recL 1 [], 0) := by
    unfold putF
    rw [if_neg (by omega), if_neg (by simp), List.nil_append]
  have ht := take_rec (l := []) (r := []) (body := []) (kind := 1) hn (by omega) (by omega) (by simp)
  rw [List.nil_append, List.append_nil, List.length_nil] at ht
  have hto : frame_Take.f (recL 1 []) 0 = some (1, [], 12, 0) := by
    unfold frame_Take.f takeO
    rw [if_pos ⟨recL_isB hn, by rw [recL_length]; simp⟩]
    rw [show (((0 : Nat) : Int)) = 0 from rfl] at ht
    rw [ht]
    rfl
  rw [hp]
  dsimp only
  rw [hto, Option.bind_some, if_pos (by rw [recL_length]; simp), if_pos rfl, if_pos rfl, if_pos (by simp), if_pos rfl, if_pos rfl]
  decide +kernel
end Go.Proofs.Ytcnapbpljghfoaa.Plain

/- concordancelaw3.FramePuts, walked by hand: a record is framed as the document says, or refused; it is taken again. -/
namespace Go.Proofs.Ytcnapbpljghfoaa.Plain
open Go.RowKit Go.Proofs.YtcnapbpljghfoaaW.PrintWords Go.Proofs.YtcnapbpljghfoaaW.PrintLast Go.Proofs.YtcnapbpljghfoaaW.PrintMore
open Go.Proofs.Ytcnapbpljghfoaa.PCrc
open Go.Proofs.Ytcnapbpljghfoaa.Hand (moreF sealF ownF tailL sum_f tail_f refsumF fixF concatF takeO)
set_option linter.unusedVariables false
set_option linter.unusedSimpArgs false
theorem reffix3 (n : Nat) (k : Nat) : concordanceref1_Fix.f (k + 4) (n : Int) 3 = some (strOfNums (fixL n 3)) := by
  unfold concordanceref1_Fix.f
  rw [show mn (mx 3 0) 8 = 3 from by unfold mn mx; decide, if_pos (by omega), if_pos (by decide), show List.replicate (3 : Int).toNat (0 : Int) = [0, 0, 0] from rfl]
  have s0 : shr .u64 (n : Int) 0 % 256 = ((n % 256 : Nat) : Int) := by
    unfold shr
    rw [show min (0 : Int).toNat IntKind.u64.bits = 0 from by decide]
    omega
  have s1 : shr .u64 (n : Int) 8 % 256 = ((n / 256 % 256 : Nat) : Int) := by
    unfold shr
    rw [show min (8 : Int).toNat IntKind.u64.bits = 8 from by decide]
    omega
  have s2 : shr .u64 (n : Int) 16 % 256 = ((n / 65536 % 256 : Nat) : Int) := by
    unfold shr
    rw [show min (16 : Int).toNat IntKind.u64.bits = 16 from by decide]
    omega
  rw [show k + 4 = (k + 3) + 1 from rfl, concordanceref1_Fix.l0, if_pos (by omega), w64 (x := 8 * 0) (by omega) (by omega), if_pos (by omega), w64 (x := 3 - 1) (by omega) (by omega), w64 (x := (3 : Int) - 1 - 0) (by omega) (by omega), if_pos (by omega), if_pos (by simp), show (8 : Int) * 0 = 0 from rfl, s0, w64 (by omega) (by omega)]
  rw [show k + 3 = (k + 2) + 1 from rfl, concordanceref1_Fix.l0, if_pos (by omega), w64 (x := 8 * (0 + 1)) (by omega) (by omega), if_pos (by omega), w64 (x := 3 - 1) (by omega) (by omega), w64 (x := (3 : Int) - 1 - (0 + 1)) (by omega) (by omega), if_pos (by omega), if_pos (by simp), show (8 : Int) * (0 + 1) = 8 from rfl, s1, w64 (by omega) (by omega)]
  rw [show k + 2 = (k + 1) + 1 from rfl, concordanceref1_Fix.l0, if_pos (by omega), w64 (x := 8 * (0 + 1 + 1)) (by omega) (by omega), if_pos (by omega), w64 (x := 3 - 1) (by omega) (by omega), w64 (x := (3 : Int) - 1 - (0 + 1 + 1)) (by omega) (by omega), if_pos (by omega), if_pos (by simp), show (8 : Int) * (0 + 1 + 1) = 16 from rfl, s2, w64 (by omega) (by omega)]
  rw [concordanceref1_Fix.l0, if_neg (by omega)]
  congr 2
  show [((n / 65536 % 256 : Nat) : Int), ((n / 256 % 256 : Nat) : Int), ((n % 256 : Nat) : Int)] = [((n / 256 ^ 2 % 256 : Nat) : Int), ((n / 256 ^ 1 % 256 : Nat) : Int), ((n / 256 ^ 0 % 256 : Nat) : Int)]
  simp
theorem refframe_f {body : List Int} (hb : isB body) (hl : body.length ≤ 140737488200000) (kind : Int) (k : Nat) : concordanceref1_Frame.f (k + 4) kind (strOfNums body) = some (strOfNums (recL kind body)) := by
  unfold concordanceref1_Frame.f
  rw [Option.bind_some, strOfNums_size, wrap_u64, show ((body.length : Int) % 18446744073709551616) = ((body.length : Nat) : Int) from by omega, reffix3, Option.bind_some, strOfNums_size, strOfNums_size, if_pos (by simp [fixL_length]), strOfNums_append]
  have e : [kind % 256] ++ fixL body.length 3 = headL kind body.length := rfl
  rw [e, refseal_f (headL_isB _ _) (by rw [headL_length]; omega), Option.bind_some, refseal_f hb (by omega), Option.bind_some, strOfNums_size, strOfNums_size, if_pos (by rw [List.length_append, List.length_append, headL_length, tailL_length, tailL_length]; omega), strOfNums_append]
  rfl
end Go.Proofs.Ytcnapbpljghfoaa.Plain
namespace Go.Proofs.Ytcnapbpljghfoaa.Hand
open Go.RowKit Go.Proofs.YtcnapbpljghfoaaW.PrintWords Go.Proofs.YtcnapbpljghfoaaW.PrintLast Go.Proofs.YtcnapbpljghfoaaW.PrintMore
open Go.Proofs.Ytcnapbpljghfoaa.Plain Go.Proofs.Ytcnapbpljghfoaa.PCrc
set_option linter.unusedVariables false
set_option linter.unusedSimpArgs false
/-- A row that came in reads so whatever becomes of the world above it. -/
theorem F_came {k : IntKind} {w : World} {A : Option Addr} {n : Nat} {xs : List Int} (h : Kd.C (Kd.int k) w A n xs) : Kd.F (Kd.int k) w (fun _ => True) A n xs := fun W' hk => (Kd.heap_int k).C (fun j hj => hk j trivial hj) h
def puts.T8 : Bool × List (List Nat × List Nat) := (true, [([], []), ([0], [0]), ([1], [1]), ([2], [2]), ([3, 2], [2, 3]), ([2], [2]), ([5, 2], [2, 5]), ([2], [2]), ([2], [2]), ([8, 2], [2, 8]), ([7, 9, 2, 2], [2, 7, 9]), ([6, 10, 2], [2, 6, 10]), ([4, 11, 2], [2, 4, 11]), ([2, 12], [2, 12]), ([13, 10], [13]), ([14], [14]), ([15, 14], [14, 15]), ([14, 16], [14, 16]), ([17, 14], [17]), ([18], [18]), ([18], [18]), ([20, 18], [18, 20]), ([19, 21, 18], [18, 19, 21]), ([18, 22], [18, 22]), ([23, 18], [23]), ([24], [24]), ([25, 24], [24, 25]), ([24], [24]), ([26, 27, 24], [24, 26, 27]), ([24, 28], [24, 28]), ([29, 24], [29]), ([30], [30]), ([31, 30], [30, 31]), ([32, 30], [30, 32]), ([30], [30]), ([34, 30], [30, 34]), ([33, 35, 30], [30, 33, 35]), ([30, 36], [30, 36]), ([37, 30], [37]), ([38], [38]), ([38], [38]), ([40, 38], [38, 40]), ([38], [38]), ([42, 38], [38, 42]), ([43, 38, 38], [38, 43]), ([41, 44, 38], [38, 41, 44]), ([39, 45, 38], [38, 39, 45]), ([38, 46], [38, 46]), ([47, 44], [47]), ([48, 48], [48]), ([48, 49], [48, 49]), ([50, 49, 0, 1, 2, 3, 4, 5, 6, 7, 8, 9, 10, 11, 12, 13, 14, 15, 16, 17, 18, 19, 20, 21, 22, 23, 24, 25, 26, 27, 28, 29, 30, 31, 32, 33, 34, 35, 36, 37, 38, 39, 40, 41, 42, 43, 44, 45, 46, 47, 48, 49, 50], [50])])
def puts.B8 : List Nat := [0, 1, 3, 7, 15, 7, 39, 7, 7, 263, 903, 2023, 4095, 8191, 16383, 32767, 65535, 131071, 262143, 524287, 524287, 1572863, 4194303, 8388607, 16777215, 33554431, 67108863, 33554431, 268435455, 536870911, 1073741823, 2147483647, 4294967295, 8589934591, 2147483647, 19327352831, 68719476735, 137438953471, 274877906943, 549755813887, 549755813887, 1649267441663, 549755813887, 4947802324991, 13743895347199, 34634616274943, 70368744177663, 140737488355327, 281474976710655, 562949953421311, 1125899906842623, 2251799813685247]
theorem puts.tab8 : rtab .any (opsOf Try.f3 8) = puts.T8 := by kernel_rfl
theorem puts.bits8 : waitsOk puts.T8.2 puts.B8 = true := by kernel_rfl

set_option maxHeartbeats 4000000 in
set_option maxRecDepth 100000 in
theorem puts_walk (A0 : Option Addr) (c0 : Nat) (l0 : List Int) (a1 : Int) (A2 : Option Addr) (c2 : Nat) (l2 : List Int) (w : World) (hr0 : Kd.C (Kd.int .u8) w A0 l0.length l0) (hc0 : l0.length ≤ c0) (_y0 : l0.length * 1 ≤ 140737488351232) (hw0 : ∀ n ∈ l0, (Lit.int .u8 n).wf = true) (hw1 : (Lit.int .i64 a1).wf = true)
    (hr2 : Kd.C (Kd.int .u8) w A2 l2.length l2) (hc2 : l2.length ≤ c2) (_y2 : l2.length * 1 ≤ 140737488351232) (hw2 : ∀ n ∈ l2, (Lit.int .u8 n).wf = true) :
    Calls Try.prog 3 #[.slice A0 l0.length c0, .int .i64 a1, .slice A2 l2.length c2] w fun e w' => e = .returned (.bool true) ∧ Below w.heap.size w w' := by
  have hb0 : isB l0 := fun x hx => Plain.wf_u8 (hw0 x hx)
  have hb2 : isB l2 := fun x hx => Plain.wf_u8 (hw2 x hx)
  have HAW := Aside0.mk (awake3_f 0)
  have HR0 := Aside0.mk hr0
  have HR2 := Aside0.mk hr2
  have HB := Aside0.mk (Below.refl w.heap.size w)
  clear hw0 hw2 hr0 hr2 _y0 _y2
  by_cases c1 : 2000 < l0.length
  · have d1 : decide (2000 < (l0.length : Int)) = true := decide_eq_true (by omega)
    clear hb0 hb2
    go_enter Try.func3, Try.ntmps3
    go_wp2_with (first | (go_at_call 10; refine (concordancelaw3_awake.calls _ _ _ HAW.out).mono ?_; rintro e w7 ⟨rfl, hb⟩; have n1_ := Aside0.mk (below_step HB.out hb); clear HB hb; have HB := n1_; clear n1_))
    go_ret
    exact ⟨rfl, HB.out⟩
  · have d1 : decide (2000 < (l0.length : Int)) = false := decide_eq_false (by omega)
    by_cases c2' : 3000 < l2.length
    · have d2 : decide (3000 < (l2.length : Int)) = true := decide_eq_true (by omega)
      clear hb0 hb2
      go_enter Try.func3, Try.ntmps3
      go_wp2_with (first | (go_at_call 10; refine (concordancelaw3_awake.calls _ _ _ HAW.out).mono ?_; rintro e w7 ⟨rfl, hb⟩; have n1_ := Aside0.mk (below_step HB.out hb); clear HB hb; have HB := n1_; clear n1_))
      go_ret
      exact ⟨rfl, HB.out⟩
    · have d2 : decide (3000 < (l2.length : Int)) = false := decide_eq_false (by omega)
      have hput := put_f (l := l0) (by omega) hb2 (by omega) a1 0
      unfold putF at hput
      have hokf := frameok_f 0 a1 (l2.length : Int)
      by_cases c3 : a1 < 1 ∨ 250 < a1
      · rw [if_pos c3] at hput hokf
        have HPUT := Aside0.mk hput
        have HOKF := Aside0.mk hokf
        clear hput hokf hb0 hb2
        go_enter Try.func3, Try.ntmps3
        go_wp2_with (first | (go_at_call 11; refine (frame_Put.calls 1 (fun _ => True) A0 c0 l0 _ A2 c2 l2 _ _ _ ⟨A0, c0, rfl, hc0, F_came HR0.out⟩ HR2.out hc2 HPUT.out).mono ?_; rintro e w2 ⟨v2, rfl, ho, hb⟩; obtain ⟨A3, c3, rfl⟩ := Kd.R_slice ho; have HO3 := Aside0.mk (Kd.R_reads' ho).2; clear ho; have n1_ := Aside0.mk (below_step HB.out hb); clear HB hb; have HB := n1_; clear n1_) | (go_at_call 12; refine (concordanceref1_FrameOk.calls _ _ _ _ _ HOKF.out).mono ?_; rintro e w3 ⟨rfl, ⟨nd, rfl⟩⟩; have n0_ := Aside0.mk (And.intro HO3.out.1 (Kd.C_drewN HO3.out.2 nd)); clear HO3; have HO3 := n0_; clear n0_; have n1_ := Aside0.mk (pw_below_drewN HB.out nd); clear HB; have HB := n1_; clear n1_) | (go_at_call 10; refine (concordancelaw3_awake.calls _ _ _ HAW.out).mono ?_; rintro e w7 ⟨rfl, hb⟩; have n1_ := Aside0.mk (below_step HB.out hb); clear HB hb; have HB := n1_; clear n1_))
        go_ret
        exact ⟨rfl, HB.out⟩
      · rw [if_neg c3] at hput hokf
        rw [if_neg (by omega)] at hput hokf
        have hrl := recL_length a1 l2
        have hrB := recL_isB (kind := a1) hb2
        have hfr := refframe_f hb2 (by omega) a1 0
        have ht := take_rec (l := l0) (r := []) (kind := a1) hb2 (by omega) (by omega) (by omega)
        rw [List.append_nil] at ht
        have hcat := strOfNums_append l0 (recL a1 l2)
        have hlen : (l0 ++ recL a1 l2).length = l0.length + 12 + l2.length := by rw [List.length_append, hrl]; omega
        obtain ⟨q, eq⟩ : ∃ q, recL a1 l2 = q := ⟨_, rfl⟩
        rw [eq] at hput hrl hrB ht hfr hcat hlen
        obtain ⟨r, er⟩ : ∃ r, l0 ++ q = r := ⟨_, rfl⟩
        rw [er] at hput ht hcat hlen
        have hBr : isB r := by rw [← er]; exact isB_append hb0 hrB
        have htk : takeO r (l0.length : Int) = some (a1, l2, (r.length : Int), 0) := by
          unfold takeO
          rw [if_pos ⟨hBr, by omega⟩, ht, hlen]
          simp
        have hsz : frame_Size.f (l2.length : Int) = some ((l2.length : Int) + 12) := by
          unfold frame_Size.f mx
          rw [if_neg (by omega), w64 (by omega) (by omega), Int.add_comm]
        have HPUT := Aside0.mk hput
        have HOKF := Aside0.mk hokf
        have HTK := Aside0.mk htk
        have HFR := Aside0.mk hfr
        have HSZ := Aside0.mk hsz
        have HQS := Aside0.mk (show q.length ≤ 4000 ∧ l0.length ≤ 2000 from ⟨by omega, by omega⟩)
        have hll : (l0.length : Int) ≤ 2000 := by omega
        have hl2 : (l2.length : Int) ≤ 3000 := by omega
        have hrr : (r.length : Int) ≤ 6000 := by omega
        have hrlen : wrap64 ((l0.length : Int) + ((l2.length : Int) + 12)) = (r.length : Int) := by rw [w64 (by omega) (by omega)]; omega
        have HCS := Aside0.mk (show ¬ 9223372036854775807 < (strOfNums l0).size + (strOfNums q).size by rw [strOfNums_size, strOfNums_size]; omega)
        clear hput hokf htk hfr hsz ht hrl hrB hb0 hb2 hlen hBr eq er
        go_enter Try.func3, Try.ntmps3
        go_wp2_with (first | (go_at_call 11; refine (frame_Put.calls 1 (fun _ => True) A0 c0 l0 _ A2 c2 l2 _ _ _ ⟨A0, c0, rfl, hc0, F_came HR0.out⟩ HR2.out hc2 HPUT.out).mono ?_; rintro e w2 ⟨v2, rfl, ho, hb⟩; obtain ⟨A3, c3, rfl⟩ := Kd.R_slice ho; have HO3 := Aside0.mk (Kd.R_reads' ho).2; clear ho; have n1_ := Aside0.mk (below_step HB.out hb); clear HB hb; have HB := n1_; clear n1_) | (go_at_call 12; refine (concordanceref1_FrameOk.calls _ _ _ _ _ HOKF.out).mono ?_; rintro e w3 ⟨rfl, ⟨nd, rfl⟩⟩; have n0_ := Aside0.mk (And.intro HO3.out.1 (Kd.C_drewN HO3.out.2 nd)); clear HO3; have HO3 := n0_; clear n0_; have n1_ := Aside0.mk (pw_below_drewN HB.out nd); clear HB; have HB := n1_; clear n1_) | (go_at_call 13; refine (take_calls _ _ r _ _ _ _ _ _ HO3.out.2 HO3.out.1 HTK.out).mono ?_; rintro e w5 ⟨v5, rfl, hv, hb⟩; obtain ⟨A5, c5, rfl, hle5, hF5⟩ := hv; have n0_ := Aside0.mk (And.intro HO3.out.1 (Kd.C_alloc (Kd.C_below HO3.out.2 hb) (.cells #[.int .i64 a1, .slice A5 l2.length c5] 29))); have HBD := Aside0.mk (Kd.C_alloc (Kd.F_now hF5) (.cells #[.int .i64 a1, .slice A5 l2.length c5] 29)); have HBX := Aside0.mk (blk_new w5 (.cells #[.int .i64 a1, .slice A5 l2.length c5] 29)); have n1_ := Aside0.mk (below_alloc (below_step HB.out hb) (.cells #[.int .i64 a1, .slice A5 l2.length c5] 29)); clear HO3 HB; have HO3 := n0_; have HB := n1_; clear n0_ n1_ hb hF5))
        refine start_ (n := 52) (S := fun w' => Below (w5.alloc (.cells #[.int .i64 a1, .slice A5 l2.length c5] 29)).heap.size (w5.alloc (.cells #[.int .i64 a1, .slice A5 l2.length c5] 29)) w') (ds := []) #[false, false, false, false, false, false, false, false, false, false, false, false, false, false, false, false, false, false, false, false, false, false, false, false, false, false, false, false, false, false, false, false, false, false, false, false, false, false, false, false, false, false, false, false, false, false, false, false, false, false, false, false] (by kernel_rfl) rfl rfl (below_drew1 (Below.refl _ _)) (fun hHeld => ?_)
        refine with_tabW puts.tab8 puts.bits8 (fun HT_ HW_ => ?_)
        refine pure_ (i := 0) (N := some 54) (v := ?_) (a' := ?_) #[true, false, false, false, false, false, false, false, false, false, false, false, false, false, false, false, false, false, false, false, false, false, false, false, false, false, false, false, false, false, false, false, false, false, false, false, false, false, false, false, false, false, false, false, false, false, false, false, false, false, false, false] rfl rfl (any_of HT_.out (by kernel_rfl)) (fun _ _ _ h => h) (Or.inl ⟨by rfl, ?_⟩) ?_ ?_
        rotate_left
        · intro w'
          go_simp
          with_reducible rfl
        rotate_left
        · simp only [Act.put, List.setIfInBounds_toArray, List.set_cons_zero, List.set_cons_succ, i64_w, i32_w]
          rfl
        refine pure_ (i := 1) (N := some 55) (v := ?_) (a' := ?_) #[true, true, false, false, false, false, false, false, false, false, false, false, false, false, false, false, false, false, false, false, false, false, false, false, false, false, false, false, false, false, false, false, false, false, false, false, false, false, false, false, false, false, false, false, false, false, false, false, false, false, false, false] rfl rfl (any_of HT_.out (by kernel_rfl)) (fun _ _ _ h => h) (Or.inl ⟨by rfl, ?_⟩) ?_ ?_
        rotate_left
        · intro w'
          go_simp
          with_reducible rfl
        rotate_left
        · simp only [Act.put, List.setIfInBounds_toArray, List.set_cons_zero, List.set_cons_succ, i64_w, i32_w]
          rfl
        refine pure_ (i := 2) (N := some 56) (v := ?_) (a' := ?_) #[true, true, true, false, false, false, false, false, false, false, false, false, false, false, false, false, false, false, false, false, false, false, false, false, false, false, false, false, false, false, false, false, false, false, false, false, false, false, false, false, false, false, false, false, false, false, false, false, false, false, false, false] rfl rfl (any_of HT_.out (by kernel_rfl)) (fun _ _ _ h => h) (Or.inl ⟨by rfl, ?_⟩) ?_ ?_
        rotate_left
        · intro w'
          go_simp
          with_reducible rfl
        rotate_left
        · simp only [Act.put, List.setIfInBounds_toArray, List.set_cons_zero, List.set_cons_succ, i64_w, i32_w]
          rfl
        refine pure_ (i := 3) (N := some 57) (v := ?_) (a' := ?_) #[true, true, true, true, false, false, false, false, false, false, false, false, false, false, false, false, false, false, false, false, false, false, false, false, false, false, false, false, false, false, false, false, false, false, false, false, false, false, false, false, false, false, false, false, false, false, false, false, false, false, false, false] rfl rfl (any_of HT_.out (by kernel_rfl)) (fun _ _ _ h => h) (Or.inl ⟨by rfl, ?_⟩) ?_ ?_
        rotate_left
        · intro w'
          go_simp
          with_reducible rfl
        rotate_left
        · simp only [Act.put, List.setIfInBounds_toArray, List.set_cons_zero, List.set_cons_succ, i64_w, i32_w]
          rfl
        refine take_ (i := 4) (N := some 58) (v := ?_) (a' := ?_) #[true, true, true, true, true, false, false, false, false, false, false, false, false, false, false, false, false, false, false, false, false, false, false, false, false, false, false, false, false, false, false, false, false, false, false, false, false, false, false, false, false, false, false, false, false, false, false, false, false, false, false, false] rfl rfl (take_ofW HT_.out HW_.out (by kernel_rfl)) (fun _ _ _ h => h) (Or.inl ⟨by rfl, ?_⟩) hHeld ?_ ?_
        rotate_left
        · intro w' hS
          have hcv := Kd.C_string (P := Try.prog) (A := A3) (c := c3) Try.underlying22 Try.underlying5 Try.underlying9 (Kd.C_below HO3.out.2 hS)
          go_simp
          with_reducible rfl
        rotate_left
        · simp only [Act.put, List.setIfInBounds_toArray, List.set_cons_zero, List.set_cons_succ, i64_w, i32_w]
          rfl
        refine pure_ (i := 5) (N := some 59) (v := ?_) (a' := ?_) #[true, true, true, true, true, true, false, false, false, false, false, false, false, false, false, false, false, false, false, false, false, false, false, false, false, false, false, false, false, false, false, false, false, false, false, false, false, false, false, false, false, false, false, false, false, false, false, false, false, false, false, false] rfl rfl (any_of HT_.out (by kernel_rfl)) (fun _ _ _ h => h) (Or.inl ⟨by rfl, ?_⟩) ?_ ?_
        rotate_left
        · intro w'
          go_simp
          with_reducible rfl
        rotate_left
        · simp only [Act.put, List.setIfInBounds_toArray, List.set_cons_zero, List.set_cons_succ, i64_w, i32_w]
          rfl
        refine take_ (i := 6) (N := some 60) (v := ?_) (a' := ?_) #[true, true, true, true, true, true, true, false, false, false, false, false, false, false, false, false, false, false, false, false, false, false, false, false, false, false, false, false, false, false, false, false, false, false, false, false, false, false, false, false, false, false, false, false, false, false, false, false, false, false, false, false] rfl rfl (take_ofW HT_.out HW_.out (by kernel_rfl)) (fun _ _ _ h => h) (Or.inl ⟨by rfl, ?_⟩) hHeld ?_ ?_
        rotate_left
        · intro w' hS
          have hcv := Kd.C_string (P := Try.prog) (A := A0) (c := c0) Try.underlying22 Try.underlying5 Try.underlying9 (Kd.C_below HR0.out (below_step HB.out hS))
          go_simp
          with_reducible rfl
        rotate_left
        · simp only [Act.put, List.setIfInBounds_toArray, List.set_cons_zero, List.set_cons_succ, i64_w, i32_w]
          rfl
        refine pure_ (i := 7) (N := some 61) (v := ?_) (a' := ?_) #[true, true, true, true, true, true, true, true, false, false, false, false, false, false, false, false, false, false, false, false, false, false, false, false, false, false, false, false, false, false, false, false, false, false, false, false, false, false, false, false, false, false, false, false, false, false, false, false, false, false, false, false] rfl rfl (any_of HT_.out (by kernel_rfl)) (fun _ _ _ h => h) (Or.inl ⟨by rfl, ?_⟩) ?_ ?_
        rotate_left
        · intro w'
          go_simp
          with_reducible rfl
        rotate_left
        · simp only [Act.put, List.setIfInBounds_toArray, List.set_cons_zero, List.set_cons_succ, i64_w, i32_w]
          rfl
        refine pure_ (i := 8) (N := some 62) (v := ?_) (a' := ?_) #[true, true, true, true, true, true, true, true, true, false, false, false, false, false, false, false, false, false, false, false, false, false, false, false, false, false, false, false, false, false, false, false, false, false, false, false, false, false, false, false, false, false, false, false, false, false, false, false, false, false, false, false] rfl rfl (any_of HT_.out (by kernel_rfl)) (fun _ _ _ h => h) (Or.inl ⟨by rfl, ?_⟩) ?_ ?_
        rotate_left
        · intro w'
          go_simp
          with_reducible rfl
        rotate_left
        · simp only [Act.put, List.setIfInBounds_toArray, List.set_cons_zero, List.set_cons_succ, i64_w, i32_w]
          rfl
        refine take_ (i := 9) (N := some 63) (v := ?_) (a' := ?_) #[true, true, true, true, true, true, true, true, true, true, false, false, false, false, false, false, false, false, false, false, false, false, false, false, false, false, false, false, false, false, false, false, false, false, false, false, false, false, false, false, false, false, false, false, false, false, false, false, false, false, false, false] rfl rfl (take_ofW HT_.out HW_.out (by kernel_rfl)) (fun _ _ _ h => h) (Or.inl ⟨by rfl, ?_⟩) hHeld ?_ ?_
        rotate_left
        · intro w' hS
          have hcv := Kd.C_string (P := Try.prog) (A := A2) (c := c2) Try.underlying22 Try.underlying5 Try.underlying9 (Kd.C_below HR2.out (below_step HB.out hS))
          go_simp
          with_reducible rfl
        rotate_left
        · simp only [Act.put, List.setIfInBounds_toArray, List.set_cons_zero, List.set_cons_succ, i64_w, i32_w]
          rfl
        refine one_ (i := 10) (N := some 64) #[true, true, true, true, true, true, true, true, true, true, true, false, false, false, false, false, false, false, false, false, false, false, false, false, false, false, false, false, false, false, false, false, false, false, false, false, false, false, false, false, false, false, false, false, false, false, false, false, false, false, false, false] rfl rfl (one_of HT_.out (by kernel_rfl)) (by decide) (fun K hK => ?_)
        refine goes_ Try.func14 (by kernel_rfl) rfl #[.int .i64 a1, .string (strOfNums l2)] (by rfl) rfl rfl (by (try simp only [List.map_toArray, List.map_cons, List.map_nil]); first | done | rfl) ?_
        with_reducible refine (concordanceref1_Frame.calls _ _ _ _ _ HFR.out).mono ?_
        rintro e w6 ⟨rfl, hb⟩
        refine ⟨_, rfl, ?_⟩
        have hS_ := below_step hHeld hb
        refine hK.out _ _ hS_ (fun hHeld => ?_)
        clear hK K
        refine norm_ (a' := ?_) ?_ ?_
        rotate_left
        · show Act.put _ (some 64) _ = _
          simp only [Act.put, List.setIfInBounds_toArray, List.set_cons_zero, List.set_cons_succ, i64_w, i32_w]
          rfl
        refine pure_ (i := 11) (N := some 65) (v := ?_) (a' := ?_) #[true, true, true, true, true, true, true, true, true, true, true, true, false, false, false, false, false, false, false, false, false, false, false, false, false, false, false, false, false, false, false, false, false, false, false, false, false, false, false, false, false, false, false, false, false, false, false, false, false, false, false, false] rfl rfl (any_of HT_.out (by kernel_rfl)) (fun _ _ _ h => h) (Or.inl ⟨by rfl, ?_⟩) ?_ ?_
        rotate_left
        · intro w'
          go_simp
          rw [if_neg HCS.out]
        rotate_left
        · simp only [Act.put, List.setIfInBounds_toArray, List.set_cons_zero, List.set_cons_succ, i64_w, i32_w]
          rfl
        refine pure_ (i := 12) (N := some 66) (v := ?_) (a' := ?_) #[true, true, true, true, true, true, true, true, true, true, true, true, true, false, false, false, false, false, false, false, false, false, false, false, false, false, false, false, false, false, false, false, false, false, false, false, false, false, false, false, false, false, false, false, false, false, false, false, false, false, false, false] rfl rfl (any_of HT_.out (by kernel_rfl)) (fun _ _ _ h => h) (Or.inl ⟨by rfl, ?_⟩) ?_ ?_
        rotate_left
        · intro w'
          go_simp
          with_reducible rfl
        rotate_left
        · simp only [Act.put, List.setIfInBounds_toArray, List.set_cons_zero, List.set_cons_succ, i64_w, i32_w]
          rfl
        refine pure_ (i := 13) (N := some 67) (v := ?_) (a' := ?_) #[true, true, true, true, true, true, true, true, true, true, true, true, true, true, false, false, false, false, false, false, false, false, false, false, false, false, false, false, false, false, false, false, false, false, false, false, false, false, false, false, false, false, false, false, false, false, false, false, false, false, false, false] rfl rfl (any_of HT_.out (by kernel_rfl)) (fun _ _ _ h => h) (Or.inl ⟨by rfl, ?_⟩) ?_ ?_
        rotate_left
        · intro w'
          go_simp
          with_reducible rfl
        rotate_left
        · simp only [Act.put, List.setIfInBounds_toArray, List.set_cons_zero, List.set_cons_succ, i64_w, i32_w]
          rfl
        refine pure_ (i := 14) (N := some 68) (v := ?_) (a' := ?_) #[true, true, true, true, true, true, true, true, true, true, true, true, true, true, true, false, false, false, false, false, false, false, false, false, false, false, false, false, false, false, false, false, false, false, false, false, false, false, false, false, false, false, false, false, false, false, false, false, false, false, false, false] rfl rfl (any_of HT_.out (by kernel_rfl)) (fun _ _ _ h => h) (Or.inl ⟨by rfl, ?_⟩) ?_ ?_
        rotate_left
        · intro w'
          go_simp
          with_reducible rfl
        rotate_left
        · simp only [Act.put, List.setIfInBounds_toArray, List.set_cons_zero, List.set_cons_succ, i64_w, i32_w]
          rfl
        refine pure_ (i := 15) (N := some 69) (v := ?_) (a' := ?_) #[true, true, true, true, true, true, true, true, true, true, true, true, true, true, true, true, false, false, false, false, false, false, false, false, false, false, false, false, false, false, false, false, false, false, false, false, false, false, false, false, false, false, false, false, false, false, false, false, false, false, false, false] rfl rfl (any_of HT_.out (by kernel_rfl)) (fun _ _ _ h => h) (Or.inl ⟨by rfl, ?_⟩) ?_ ?_
        rotate_left
        · intro w'
          go_simp
          with_reducible rfl
        rotate_left
        · simp only [Act.put, List.setIfInBounds_toArray, List.set_cons_zero, List.set_cons_succ, i64_w, i32_w]
          rfl
        refine pure_ (i := 16) (N := some 70) (v := ?_) (a' := ?_) #[true, true, true, true, true, true, true, true, true, true, true, true, true, true, true, true, true, false, false, false, false, false, false, false, false, false, false, false, false, false, false, false, false, false, false, false, false, false, false, false, false, false, false, false, false, false, false, false, false, false, false, false] rfl rfl (any_of HT_.out (by kernel_rfl)) (fun _ _ _ h => h) (Or.inl ⟨by rfl, ?_⟩) ?_ ?_
        rotate_left
        · intro w'
          go_simp
          with_reducible rfl
        rotate_left
        · simp only [Act.put, List.setIfInBounds_toArray, List.set_cons_zero, List.set_cons_succ, i64_w, i32_w]
          rfl
        refine pure_ (i := 17) (N := some 71) (v := ?_) (a' := ?_) #[true, true, true, true, true, true, true, true, true, true, true, true, true, true, true, true, true, true, false, false, false, false, false, false, false, false, false, false, false, false, false, false, false, false, false, false, false, false, false, false, false, false, false, false, false, false, false, false, false, false, false, false] rfl rfl (any_of HT_.out (by kernel_rfl)) (fun _ _ _ h => h) (Or.inl ⟨by rfl, ?_⟩) ?_ ?_
        rotate_left
        · intro w'
          go_simp
          with_reducible rfl
        rotate_left
        · simp only [Act.put, List.setIfInBounds_toArray, List.set_cons_zero, List.set_cons_succ, i64_w, i32_w]
          rfl
        refine pure_ (i := 18) (N := some 72) (v := ?_) (a' := ?_) #[true, true, true, true, true, true, true, true, true, true, true, true, true, true, true, true, true, true, true, false, false, false, false, false, false, false, false, false, false, false, false, false, false, false, false, false, false, false, false, false, false, false, false, false, false, false, false, false, false, false, false, false] rfl rfl (any_of HT_.out (by kernel_rfl)) (fun _ _ _ h => h) (Or.inl ⟨by rfl, ?_⟩) ?_ ?_
        rotate_left
        · intro w'
          go_simp
          with_reducible rfl
        rotate_left
        · simp only [Act.put, List.setIfInBounds_toArray, List.set_cons_zero, List.set_cons_succ, i64_w, i32_w]
          rfl
        refine pure_ (i := 19) (N := some 73) (v := ?_) (a' := ?_) #[true, true, true, true, true, true, true, true, true, true, true, true, true, true, true, true, true, true, true, true, false, false, false, false, false, false, false, false, false, false, false, false, false, false, false, false, false, false, false, false, false, false, false, false, false, false, false, false, false, false, false, false] rfl rfl (any_of HT_.out (by kernel_rfl)) (fun _ _ _ h => h) (Or.inl ⟨by rfl, ?_⟩) ?_ ?_
        rotate_left
        · intro w'
          go_simp
          with_reducible rfl
        rotate_left
        · simp only [Act.put, List.setIfInBounds_toArray, List.set_cons_zero, List.set_cons_succ, i64_w, i32_w]
          rfl
        refine pure_ (i := 20) (N := some 74) (v := ?_) (a' := ?_) #[true, true, true, true, true, true, true, true, true, true, true, true, true, true, true, true, true, true, true, true, true, false, false, false, false, false, false, false, false, false, false, false, false, false, false, false, false, false, false, false, false, false, false, false, false, false, false, false, false, false, false, false] rfl rfl (any_of HT_.out (by kernel_rfl)) (fun _ _ _ h => h) (Or.inl ⟨by rfl, ?_⟩) ?_ ?_
        rotate_left
        · intro w'
          go_simp
          with_reducible rfl
        rotate_left
        · simp only [Act.put, List.setIfInBounds_toArray, List.set_cons_zero, List.set_cons_succ, i64_w, i32_w]
          rfl
        refine pure_ (i := 21) (N := some 75) (v := ?_) (a' := ?_) #[true, true, true, true, true, true, true, true, true, true, true, true, true, true, true, true, true, true, true, true, true, true, false, false, false, false, false, false, false, false, false, false, false, false, false, false, false, false, false, false, false, false, false, false, false, false, false, false, false, false, false, false] rfl rfl (any_of HT_.out (by kernel_rfl)) (fun _ _ _ h => h) (Or.inl ⟨by rfl, ?_⟩) ?_ ?_
        rotate_left
        · intro w'
          go_simp
          with_reducible rfl
        rotate_left
        · simp only [Act.put, List.setIfInBounds_toArray, List.set_cons_zero, List.set_cons_succ, i64_w, i32_w]
          rfl
        refine pure_ (i := 22) (N := some 76) (v := ?_) (a' := ?_) #[true, true, true, true, true, true, true, true, true, true, true, true, true, true, true, true, true, true, true, true, true, true, true, false, false, false, false, false, false, false, false, false, false, false, false, false, false, false, false, false, false, false, false, false, false, false, false, false, false, false, false, false] rfl rfl (any_of HT_.out (by kernel_rfl)) (fun _ _ _ h => h) (Or.inl ⟨by rfl, ?_⟩) ?_ ?_
        rotate_left
        · intro w'
          go_simp
          with_reducible rfl
        rotate_left
        · simp only [Act.put, List.setIfInBounds_toArray, List.set_cons_zero, List.set_cons_succ, i64_w, i32_w]
          rfl
        refine pure_ (i := 23) (N := some 77) (v := ?_) (a' := ?_) #[true, true, true, true, true, true, true, true, true, true, true, true, true, true, true, true, true, true, true, true, true, true, true, true, false, false, false, false, false, false, false, false, false, false, false, false, false, false, false, false, false, false, false, false, false, false, false, false, false, false, false, false] rfl rfl (any_of HT_.out (by kernel_rfl)) (fun _ _ _ h => h) (Or.inl ⟨by rfl, ?_⟩) ?_ ?_
        rotate_left
        · intro w'
          go_simp
          with_reducible rfl
        rotate_left
        · simp only [Act.put, List.setIfInBounds_toArray, List.set_cons_zero, List.set_cons_succ, i64_w, i32_w]
          rfl
        refine pure_ (i := 24) (N := some 78) (v := ?_) (a' := ?_) #[true, true, true, true, true, true, true, true, true, true, true, true, true, true, true, true, true, true, true, true, true, true, true, true, true, false, false, false, false, false, false, false, false, false, false, false, false, false, false, false, false, false, false, false, false, false, false, false, false, false, false, false] rfl rfl (any_of HT_.out (by kernel_rfl)) (fun _ _ _ h => h) (Or.inl ⟨by rfl, ?_⟩) ?_ ?_
        rotate_left
        · intro w'
          go_simp
          with_reducible rfl
        rotate_left
        · simp only [Act.put, List.setIfInBounds_toArray, List.set_cons_zero, List.set_cons_succ, i64_w, i32_w]
          rfl
        refine pure_ (i := 25) (N := some 79) (v := ?_) (a' := ?_) #[true, true, true, true, true, true, true, true, true, true, true, true, true, true, true, true, true, true, true, true, true, true, true, true, true, true, false, false, false, false, false, false, false, false, false, false, false, false, false, false, false, false, false, false, false, false, false, false, false, false, false, false] rfl rfl (any_of HT_.out (by kernel_rfl)) (fun _ _ _ h => h) (Or.inl ⟨by rfl, ?_⟩) ?_ ?_
        rotate_left
        · intro w'
          go_simp
          with_reducible rfl
        rotate_left
        · simp only [Act.put, List.setIfInBounds_toArray, List.set_cons_zero, List.set_cons_succ, i64_w, i32_w]
          rfl
        refine take_ (i := 26) (N := some 80) (v := ?_) (a' := ?_) #[true, true, true, true, true, true, true, true, true, true, true, true, true, true, true, true, true, true, true, true, true, true, true, true, true, true, true, false, false, false, false, false, false, false, false, false, false, false, false, false, false, false, false, false, false, false, false, false, false, false, false, false] rfl rfl (take_ofW HT_.out HW_.out (by kernel_rfl)) (fun _ _ _ h => h) (Or.inl ⟨by rfl, ?_⟩) hHeld ?_ ?_
        rotate_left
        · intro w' hS
          have hbk := blk_below HBX.out hS
          have hx0 := blk_cell hbk 0
          have hx1 := blk_cell hbk 1
          go_simp
          with_reducible rfl
        rotate_left
        · simp only [Act.put, List.setIfInBounds_toArray, List.set_cons_zero, List.set_cons_succ, i64_w, i32_w]
          rfl
        refine pure_ (i := 27) (N := some 81) (v := ?_) (a' := ?_) #[true, true, true, true, true, true, true, true, true, true, true, true, true, true, true, true, true, true, true, true, true, true, true, true, true, true, true, true, false, false, false, false, false, false, false, false, false, false, false, false, false, false, false, false, false, false, false, false, false, false, false, false] rfl rfl (any_of HT_.out (by kernel_rfl)) (fun _ _ _ h => h) (Or.inl ⟨by rfl, ?_⟩) ?_ ?_
        rotate_left
        · intro w'
          go_simp
          with_reducible rfl
        rotate_left
        · simp only [Act.put, List.setIfInBounds_toArray, List.set_cons_zero, List.set_cons_succ, i64_w, i32_w]
          rfl
        refine pure_ (i := 28) (N := some 82) (v := ?_) (a' := ?_) #[true, true, true, true, true, true, true, true, true, true, true, true, true, true, true, true, true, true, true, true, true, true, true, true, true, true, true, true, true, false, false, false, false, false, false, false, false, false, false, false, false, false, false, false, false, false, false, false, false, false, false, false] rfl rfl (any_of HT_.out (by kernel_rfl)) (fun _ _ _ h => h) (Or.inl ⟨by rfl, ?_⟩) ?_ ?_
        rotate_left
        · intro w'
          go_simp
          with_reducible rfl
        rotate_left
        · simp only [Act.put, List.setIfInBounds_toArray, List.set_cons_zero, List.set_cons_succ, i64_w, i32_w]
          rfl
        refine pure_ (i := 29) (N := some 83) (v := ?_) (a' := ?_) #[true, true, true, true, true, true, true, true, true, true, true, true, true, true, true, true, true, true, true, true, true, true, true, true, true, true, true, true, true, true, false, false, false, false, false, false, false, false, false, false, false, false, false, false, false, false, false, false, false, false, false, false] rfl rfl (any_of HT_.out (by kernel_rfl)) (fun _ _ _ h => h) (Or.inl ⟨by rfl, ?_⟩) ?_ ?_
        rotate_left
        · intro w'
          go_simp
          with_reducible rfl
        rotate_left
        · simp only [Act.put, List.setIfInBounds_toArray, List.set_cons_zero, List.set_cons_succ, i64_w, i32_w]
          rfl
        refine pure_ (i := 30) (N := some 84) (v := ?_) (a' := ?_) #[true, true, true, true, true, true, true, true, true, true, true, true, true, true, true, true, true, true, true, true, true, true, true, true, true, true, true, true, true, true, true, false, false, false, false, false, false, false, false, false, false, false, false, false, false, false, false, false, false, false, false, false] rfl rfl (any_of HT_.out (by kernel_rfl)) (fun _ _ _ h => h) (Or.inl ⟨by rfl, ?_⟩) ?_ ?_
        rotate_left
        · intro w'
          go_simp
          with_reducible rfl
        rotate_left
        · simp only [Act.put, List.setIfInBounds_toArray, List.set_cons_zero, List.set_cons_succ, i64_w, i32_w]
          rfl
        refine pure_ (i := 31) (N := some 85) (v := ?_) (a' := ?_) #[true, true, true, true, true, true, true, true, true, true, true, true, true, true, true, true, true, true, true, true, true, true, true, true, true, true, true, true, true, true, true, true, false, false, false, false, false, false, false, false, false, false, false, false, false, false, false, false, false, false, false, false] rfl rfl (any_of HT_.out (by kernel_rfl)) (fun _ _ _ h => h) (Or.inl ⟨by rfl, ?_⟩) ?_ ?_
        rotate_left
        · intro w'
          go_simp
          with_reducible rfl
        rotate_left
        · simp only [Act.put, List.setIfInBounds_toArray, List.set_cons_zero, List.set_cons_succ, i64_w, i32_w]
          rfl
        refine take_ (i := 32) (N := some 86) (v := ?_) (a' := ?_) #[true, true, true, true, true, true, true, true, true, true, true, true, true, true, true, true, true, true, true, true, true, true, true, true, true, true, true, true, true, true, true, true, true, false, false, false, false, false, false, false, false, false, false, false, false, false, false, false, false, false, false, false] rfl rfl (take_ofW HT_.out HW_.out (by kernel_rfl)) (fun _ _ _ h => h) (Or.inl ⟨by rfl, ?_⟩) hHeld ?_ ?_
        rotate_left
        · intro w' hS
          have hbk := blk_below HBX.out hS
          have hx0 := blk_cell hbk 0
          have hx1 := blk_cell hbk 1
          go_simp
          with_reducible rfl
        rotate_left
        · simp only [Act.put, List.setIfInBounds_toArray, List.set_cons_zero, List.set_cons_succ, i64_w, i32_w]
          rfl
        refine take_ (i := 33) (N := some 87) (v := ?_) (a' := ?_) #[true, true, true, true, true, true, true, true, true, true, true, true, true, true, true, true, true, true, true, true, true, true, true, true, true, true, true, true, true, true, true, true, true, true, false, false, false, false, false, false, false, false, false, false, false, false, false, false, false, false, false, false] rfl rfl (take_ofW HT_.out HW_.out (by kernel_rfl)) (fun _ _ _ h => h) (Or.inl ⟨by rfl, ?_⟩) hHeld ?_ ?_
        rotate_left
        · intro w' hS
          have hcv := Kd.C_string (P := Try.prog) (A := A5) (c := c5) Try.underlying22 Try.underlying5 Try.underlying9 (Kd.C_below HBD.out hS)
          go_simp
          with_reducible rfl
        rotate_left
        · simp only [Act.put, List.setIfInBounds_toArray, List.set_cons_zero, List.set_cons_succ, i64_w, i32_w]
          rfl
        refine pure_ (i := 34) (N := some 88) (v := ?_) (a' := ?_) #[true, true, true, true, true, true, true, true, true, true, true, true, true, true, true, true, true, true, true, true, true, true, true, true, true, true, true, true, true, true, true, true, true, true, true, false, false, false, false, false, false, false, false, false, false, false, false, false, false, false, false, false] rfl rfl (any_of HT_.out (by kernel_rfl)) (fun _ _ _ h => h) (Or.inl ⟨by rfl, ?_⟩) ?_ ?_
        rotate_left
        · intro w'
          go_simp
          with_reducible rfl
        rotate_left
        · simp only [Act.put, List.setIfInBounds_toArray, List.set_cons_zero, List.set_cons_succ, i64_w, i32_w]
          rfl
        refine take_ (i := 35) (N := some 89) (v := ?_) (a' := ?_) #[true, true, true, true, true, true, true, true, true, true, true, true, true, true, true, true, true, true, true, true, true, true, true, true, true, true, true, true, true, true, true, true, true, true, true, true, false, false, false, false, false, false, false, false, false, false, false, false, false, false, false, false] rfl rfl (take_ofW HT_.out HW_.out (by kernel_rfl)) (fun _ _ _ h => h) (Or.inl ⟨by rfl, ?_⟩) hHeld ?_ ?_
        rotate_left
        · intro w' hS
          have hcv := Kd.C_string (P := Try.prog) (A := A2) (c := c2) Try.underlying22 Try.underlying5 Try.underlying9 (Kd.C_below HR2.out (below_step HB.out hS))
          go_simp
          with_reducible rfl
        rotate_left
        · simp only [Act.put, List.setIfInBounds_toArray, List.set_cons_zero, List.set_cons_succ, i64_w, i32_w]
          rfl
        refine pure_ (i := 36) (N := some 90) (v := ?_) (a' := ?_) #[true, true, true, true, true, true, true, true, true, true, true, true, true, true, true, true, true, true, true, true, true, true, true, true, true, true, true, true, true, true, true, true, true, true, true, true, true, false, false, false, false, false, false, false, false, false, false, false, false, false, false, false] rfl rfl (any_of HT_.out (by kernel_rfl)) (fun _ _ _ h => h) (Or.inl ⟨by rfl, ?_⟩) ?_ ?_
        rotate_left
        · intro w'
          go_simp
          with_reducible rfl
        rotate_left
        · simp only [Act.put, List.setIfInBounds_toArray, List.set_cons_zero, List.set_cons_succ, i64_w, i32_w]
          rfl
        refine pure_ (i := 37) (N := some 91) (v := ?_) (a' := ?_) #[true, true, true, true, true, true, true, true, true, true, true, true, true, true, true, true, true, true, true, true, true, true, true, true, true, true, true, true, true, true, true, true, true, true, true, true, true, true, false, false, false, false, false, false, false, false, false, false, false, false, false, false] rfl rfl (any_of HT_.out (by kernel_rfl)) (fun _ _ _ h => h) (Or.inl ⟨by rfl, ?_⟩) ?_ ?_
        rotate_left
        · intro w'
          go_simp
          with_reducible rfl
        rotate_left
        · simp only [Act.put, List.setIfInBounds_toArray, List.set_cons_zero, List.set_cons_succ, i64_w, i32_w]
          rfl
        refine pure_ (i := 38) (N := some 92) (v := ?_) (a' := ?_) #[true, true, true, true, true, true, true, true, true, true, true, true, true, true, true, true, true, true, true, true, true, true, true, true, true, true, true, true, true, true, true, true, true, true, true, true, true, true, true, false, false, false, false, false, false, false, false, false, false, false, false, false] rfl rfl (any_of HT_.out (by kernel_rfl)) (fun _ _ _ h => h) (Or.inl ⟨by rfl, ?_⟩) ?_ ?_
        rotate_left
        · intro w'
          go_simp
          with_reducible rfl
        rotate_left
        · simp only [Act.put, List.setIfInBounds_toArray, List.set_cons_zero, List.set_cons_succ, i64_w, i32_w]
          rfl
        refine pure_ (i := 39) (N := some 93) (v := ?_) (a' := ?_) #[true, true, true, true, true, true, true, true, true, true, true, true, true, true, true, true, true, true, true, true, true, true, true, true, true, true, true, true, true, true, true, true, true, true, true, true, true, true, true, true, false, false, false, false, false, false, false, false, false, false, false, false] rfl rfl (any_of HT_.out (by kernel_rfl)) (fun _ _ _ h => h) (Or.inl ⟨by rfl, ?_⟩) ?_ ?_
        rotate_left
        · intro w'
          go_simp
          with_reducible rfl
        rotate_left
        · simp only [Act.put, List.setIfInBounds_toArray, List.set_cons_zero, List.set_cons_succ, i64_w, i32_w]
          rfl
        refine pure_ (i := 40) (N := some 94) (v := ?_) (a' := ?_) #[true, true, true, true, true, true, true, true, true, true, true, true, true, true, true, true, true, true, true, true, true, true, true, true, true, true, true, true, true, true, true, true, true, true, true, true, true, true, true, true, true, false, false, false, false, false, false, false, false, false, false, false] rfl rfl (any_of HT_.out (by kernel_rfl)) (fun _ _ _ h => h) (Or.inl ⟨by rfl, ?_⟩) ?_ ?_
        rotate_left
        · intro w'
          go_simp
          with_reducible rfl
        rotate_left
        · simp only [Act.put, List.setIfInBounds_toArray, List.set_cons_zero, List.set_cons_succ, i64_w, i32_w]
          rfl
        refine pure_ (i := 41) (N := some 95) (v := ?_) (a' := ?_) #[true, true, true, true, true, true, true, true, true, true, true, true, true, true, true, true, true, true, true, true, true, true, true, true, true, true, true, true, true, true, true, true, true, true, true, true, true, true, true, true, true, true, false, false, false, false, false, false, false, false, false, false] rfl rfl (any_of HT_.out (by kernel_rfl)) (fun _ _ _ h => h) (Or.inl ⟨by rfl, ?_⟩) ?_ ?_
        rotate_left
        · intro w'
          go_simp
          with_reducible rfl
        rotate_left
        · simp only [Act.put, List.setIfInBounds_toArray, List.set_cons_zero, List.set_cons_succ, i64_w, i32_w]
          rfl
        refine pure_ (i := 42) (N := some 96) (v := ?_) (a' := ?_) #[true, true, true, true, true, true, true, true, true, true, true, true, true, true, true, true, true, true, true, true, true, true, true, true, true, true, true, true, true, true, true, true, true, true, true, true, true, true, true, true, true, true, true, false, false, false, false, false, false, false, false, false] rfl rfl (any_of HT_.out (by kernel_rfl)) (fun _ _ _ h => h) (Or.inl ⟨by rfl, ?_⟩) ?_ ?_
        rotate_left
        · intro w'
          go_simp
          with_reducible rfl
        rotate_left
        · simp only [Act.put, List.setIfInBounds_toArray, List.set_cons_zero, List.set_cons_succ, i64_w, i32_w]
          rfl
        refine pure_ (i := 43) (N := some 97) (v := ?_) (a' := ?_) #[true, true, true, true, true, true, true, true, true, true, true, true, true, true, true, true, true, true, true, true, true, true, true, true, true, true, true, true, true, true, true, true, true, true, true, true, true, true, true, true, true, true, true, true, false, false, false, false, false, false, false, false] rfl rfl (any_of HT_.out (by kernel_rfl)) (fun _ _ _ h => h) (Or.inl ⟨by rfl, ?_⟩) ?_ ?_
        rotate_left
        · intro w'
          go_simp
          with_reducible rfl
        rotate_left
        · simp only [Act.put, List.setIfInBounds_toArray, List.set_cons_zero, List.set_cons_succ, i64_w, i32_w]
          rfl
        refine one_ (i := 44) (N := some 98) #[true, true, true, true, true, true, true, true, true, true, true, true, true, true, true, true, true, true, true, true, true, true, true, true, true, true, true, true, true, true, true, true, true, true, true, true, true, true, true, true, true, true, true, true, true, false, false, false, false, false, false, false] rfl rfl (one_of HT_.out (by kernel_rfl)) (by decide) (fun K hK => ?_)
        refine goes_ Try.func15 (by kernel_rfl) rfl #[.int .i64 (l2.length : Int)] (by rfl) rfl rfl (by (try simp only [List.map_toArray, List.map_cons, List.map_nil]); first | done | rfl) ?_
        with_reducible refine (frame_Size.calls _ _ _ HSZ.out).mono ?_
        rintro e w8 ⟨rfl, hb⟩
        refine ⟨_, rfl, ?_⟩
        have hS_ := below_step hHeld hb
        refine hK.out _ _ hS_ (fun hHeld => ?_)
        clear hK K
        refine norm_ (a' := ?_) ?_ ?_
        rotate_left
        · show Act.put _ (some 98) _ = _
          simp only [Act.put, List.setIfInBounds_toArray, List.set_cons_zero, List.set_cons_succ, i64_w, i32_w]
          rfl
        refine pure_ (i := 45) (N := some 99) (v := ?_) (a' := ?_) #[true, true, true, true, true, true, true, true, true, true, true, true, true, true, true, true, true, true, true, true, true, true, true, true, true, true, true, true, true, true, true, true, true, true, true, true, true, true, true, true, true, true, true, true, true, true, false, false, false, false, false, false] rfl rfl (any_of HT_.out (by kernel_rfl)) (fun _ _ _ h => h) (Or.inl ⟨by rfl, ?_⟩) ?_ ?_
        rotate_left
        · intro w'
          go_simp
          with_reducible rfl
        rotate_left
        · simp only [Act.put, List.setIfInBounds_toArray, List.set_cons_zero, List.set_cons_succ, i64_w, i32_w]
          rfl
        refine pure_ (i := 46) (N := some 100) (v := ?_) (a' := ?_) #[true, true, true, true, true, true, true, true, true, true, true, true, true, true, true, true, true, true, true, true, true, true, true, true, true, true, true, true, true, true, true, true, true, true, true, true, true, true, true, true, true, true, true, true, true, true, true, false, false, false, false, false] rfl rfl (any_of HT_.out (by kernel_rfl)) (fun _ _ _ h => h) (Or.inl ⟨by rfl, ?_⟩) ?_ ?_
        rotate_left
        · intro w'
          go_simp
          with_reducible rfl
        rotate_left
        · simp only [Act.put, List.setIfInBounds_toArray, List.set_cons_zero, List.set_cons_succ, i64_w, i32_w]
          rfl
        refine pure_ (i := 47) (N := some 101) (v := ?_) (a' := ?_) #[true, true, true, true, true, true, true, true, true, true, true, true, true, true, true, true, true, true, true, true, true, true, true, true, true, true, true, true, true, true, true, true, true, true, true, true, true, true, true, true, true, true, true, true, true, true, true, true, false, false, false, false] rfl rfl (any_of HT_.out (by kernel_rfl)) (fun _ _ _ h => h) (Or.inl ⟨by rfl, ?_⟩) ?_ ?_
        rotate_left
        · intro w'
          go_simp
          with_reducible rfl
        rotate_left
        · simp only [Act.put, List.setIfInBounds_toArray, List.set_cons_zero, List.set_cons_succ, i64_w, i32_w]
          rfl
        refine pure_ (i := 48) (N := some 102) (v := ?_) (a' := ?_) #[true, true, true, true, true, true, true, true, true, true, true, true, true, true, true, true, true, true, true, true, true, true, true, true, true, true, true, true, true, true, true, true, true, true, true, true, true, true, true, true, true, true, true, true, true, true, true, true, true, false, false, false] rfl rfl (any_of HT_.out (by kernel_rfl)) (fun _ _ _ h => h) (Or.inl ⟨by rfl, ?_⟩) ?_ ?_
        rotate_left
        · intro w'
          go_simp
          with_reducible rfl
        rotate_left
        · simp only [Act.put, List.setIfInBounds_toArray, List.set_cons_zero, List.set_cons_succ, i64_w, i32_w]
          rfl
        refine one_ (i := 49) (N := some 103) #[true, true, true, true, true, true, true, true, true, true, true, true, true, true, true, true, true, true, true, true, true, true, true, true, true, true, true, true, true, true, true, true, true, true, true, true, true, true, true, true, true, true, true, true, true, true, true, true, true, true, false, false] rfl rfl (one_of HT_.out (by kernel_rfl)) (by decide) (fun K hK => ?_)
        refine goes_ Try.func10 (by kernel_rfl) rfl #[] (by rfl) rfl rfl (by (try simp only [List.map_toArray, List.map_cons, List.map_nil]); first | done | rfl) ?_
        with_reducible refine (concordancelaw3_awake.calls _ _ _ HAW.out).mono ?_
        rintro e w9 ⟨rfl, hb⟩
        refine ⟨_, rfl, ?_⟩
        have hS_ := below_step hHeld hb
        refine hK.out _ _ hS_ (fun hHeld => ?_)
        clear hK K
        refine norm_ (a' := ?_) ?_ ?_
        rotate_left
        · show Act.put _ (some 103) _ = _
          simp only [Act.put, List.setIfInBounds_toArray, List.set_cons_zero, List.set_cons_succ, i64_w, i32_w]
          rfl
        refine pure_ (i := 50) (N := some 104) (v := ?_) (a' := ?_) #[true, true, true, true, true, true, true, true, true, true, true, true, true, true, true, true, true, true, true, true, true, true, true, true, true, true, true, true, true, true, true, true, true, true, true, true, true, true, true, true, true, true, true, true, true, true, true, true, true, true, true, false] rfl rfl (any_of HT_.out (by kernel_rfl)) (fun _ _ _ h => h) (Or.inl ⟨by rfl, ?_⟩) ?_ ?_
        rotate_left
        · intro w'
          go_simp
          with_reducible rfl
        rotate_left
        · simp only [Act.put, List.setIfInBounds_toArray, List.set_cons_zero, List.set_cons_succ, i64_w, i32_w]
          rfl
        refine pure_ (i := 51) (N := some 6) (v := ?_) (a' := ?_) #[true, true, true, true, true, true, true, true, true, true, true, true, true, true, true, true, true, true, true, true, true, true, true, true, true, true, true, true, true, true, true, true, true, true, true, true, true, true, true, true, true, true, true, true, true, true, true, true, true, true, true, true] rfl rfl (any_of HT_.out (by kernel_rfl)) (fun _ _ _ h => h) (Or.inl ⟨by rfl, ?_⟩) ?_ ?_
        rotate_left
        · intro w'
          go_simp
          with_reducible rfl
        rotate_left
        · simp only [Act.put, List.setIfInBounds_toArray, List.set_cons_zero, List.set_cons_succ, i64_w, i32_w]
          rfl
        refine done_ (done_of HT_.out (by kernel_rfl)) ?_
        go_wp2
        go_ret
        exact ⟨rfl, below_step HB.out hHeld⟩
end Go.Proofs.Ytcnapbpljghfoaa.Hand
