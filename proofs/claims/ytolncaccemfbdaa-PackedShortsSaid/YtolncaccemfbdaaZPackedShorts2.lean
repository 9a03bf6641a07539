/- Texts of this seat, one behind the other: what concordance's PackedShorts reaches. -/
import Derived.Test.YtolncaccemfbdaaZPackedShorts0
import Derived.Test.YtolncaccemfbdaaZPackedShorts1
import Derived.Deep.QuietTactic
import Derived.Deep.Cut
import Derived.BigQuiet
/- concordancelaw6.plays of uint16, walked by hand: what New, Get, Len, Width, Bytes, Read and All answer is what the document says. -/
namespace Go.Proofs.Ytolncaccemfbdaa.V16
open Go.RowKit Go.Proofs.YtolncaccemfbdaaW.PrintWords Go.Proofs.YtolncaccemfbdaaW.PrintLast Go.Proofs.YtolncaccemfbdaaW.PrintMore
open Go.Proofs.Ytolncaccemfbdaa.Plain Go.Proofs.Ytolncaccemfbdaa.PPk Go.Proofs.Ytolncaccemfbdaa.Hand
attribute [local go_sem] max2_int min2_int max_two min_two
set_option linter.unusedVariables false
set_option linter.unusedSimpArgs false
theorem new_any (a0 : Int) (A1 : Option Addr) (c1 : Nat) (l1 : List Int) (w : World) (hr1 : Kd.C (Kd.int .u16) w A1 l1.length l1) (hc1 : l1.length ≤ c1) (hb : ∀ x ∈ l1, 0 ≤ x ∧ x < 65536) (hl : l1.length ≤ 1000000) (r : Int) (h : newE a0 l1 = r) :
    Calls Try.prog 16 #[.int .i64 a0, .slice A1 l1.length c1] w fun e w' => ∃ p, e = .returned (.tuple #[.pointer p, .int .i64 r]) ∧ (r = 0 → ∃ g, p = some ⟨g, 0, none⟩ ∧ VecAt .u16 86 w' g a0 l1) ∧ (r ≠ 0 → p = none) ∧ Below w.heap.size w w' := by
  by_cases h0 : r = 0
  · subst h0
    refine (new_good a0 A1 c1 l1 w hr1 hc1 hb hl h).mono ?_
    rintro e w2 ⟨g, rfl, _, hV, hb⟩
    exact ⟨_, rfl, fun _ => ⟨g, rfl, hV⟩, fun h => absurd rfl h, hb⟩
  · refine (new_bad a0 A1 c1 l1 w hr1 hc1 hb hl r h h0).mono ?_
    rintro e w2 ⟨rfl, hb⟩
    exact ⟨_, rfl, fun h => absurd h h0, fun _ => rfl, hb⟩
def plays.T7 : Bool × List (List Nat × List Nat) := (true, [([], []), ([0], [0]), ([1], [1]), ([2], [2]), ([3, 2], [2, 3]), ([2, 4], [2, 4]), ([5, 2], [5]), ([6], [6]), ([7, 6, 6], [6, 7]), ([6], [6]), ([9, 6], [6, 9]), ([8, 10, 6], [6, 8, 10]), ([6, 11], [6, 11]), ([12, 8], [12]), ([13], [13]), ([14, 13, 13], [13, 14]), ([13], [13]), ([15, 16, 13], [13, 15, 16]), ([13, 17], [13, 17]), ([18, 15], [18]), ([19], [19]), ([20, 19, 19], [19, 20]), ([21, 19], [19, 21]), ([19], [19]), ([19], [19]), ([23, 24, 21, 19], [19, 23, 24]), ([22, 25, 19], [19, 22, 25]), ([19, 26], [19, 26])])
def plays.B7 : List Nat := [0, 1, 3, 7, 15, 31, 63, 127, 255, 127, 639, 2047, 4095, 8191, 16383, 32767, 16383, 131071, 262143, 524287, 1048575, 2097151, 4194303, 1048575, 1048575, 29360127, 67108863, 134217727]
theorem plays.tab7 : rtab .any (opsOf Try.f32 7) = plays.T7 := by kernel_rfl
theorem plays.bits7 : waitsOk plays.T7.2 plays.B7 = true := by kernel_rfl
def plays.T19 : Bool × List (List Nat × List Nat) := (true, [([], []), ([0], [0]), ([1], [1]), ([2], [2]), ([3, 2], [2, 3]), ([2, 4], [2, 4]), ([5, 2], [5]), ([6], [6]), ([6], [6]), ([8, 6, 6], [6, 8]), ([9, 6], [6, 9]), ([7, 10, 6], [6, 7, 10]), ([6, 11], [6, 11]), ([12, 9], [12]), ([13], [13]), ([14, 13, 13], [13, 14]), ([15, 13], [13, 15]), ([13], [13]), ([17, 15, 13], [13, 17]), ([18, 13], [13, 18]), ([16, 19, 13], [13, 16, 19]), ([13, 20], [13, 20])])
def plays.B19 : List Nat := [0, 1, 3, 7, 15, 31, 63, 127, 127, 383, 895, 2047, 4095, 8191, 16383, 32767, 65535, 16383, 196607, 458751, 1048575, 2097151]
theorem plays.tab19 : rtab .any (opsOf Try.f32 19) = plays.T19 := by kernel_rfl
theorem plays.bits19 : waitsOk plays.T19.2 plays.B19 = true := by kernel_rfl
set_option maxHeartbeats 16000000 in
set_option maxRecDepth 100000 in
theorem plays_calls (a0 : Int) (A1 : Option Addr) (c1 : Nat) (l1 : List Int) (A3 : Option Addr) (c3 : Nat) (l3 : List Int) (a4 : Int) (w : World)
    (hr1 : Kd.C (Kd.int .u16) w A1 l1.length l1) (hc1 : l1.length ≤ c1) (hn1 : l1.length ≤ 2000) (hb1 : ∀ x ∈ l1, 0 ≤ x ∧ x < 65536)
    (hr3 : Kd.C (Kd.int .u8) w A3 l3.length l3) (hc3 : l3.length ≤ c3) (hn3 : l3.length ≤ 3000) (hb3 : isB l3) :
    Calls Try.prog 32 #[.int .i64 a0, .slice A1 l1.length c1, .int .i64 16, .slice A3 l3.length c3, .int .i64 a4] w fun e w' => e = .returned (.bool true) ∧ Below w.heap.size w w' := by
  have hb64 : ∀ x ∈ l1, 0 ≤ x ∧ x < 18446744073709551616 := fun x hx => by have := hb1 x hx; omega
  have HWI := Aside0.mk (wide_f_u16 l1 hb1 (by omega))
  have hmay := may_f a0 l1 hb64 (by omega)
  have HSAME := Aside0.mk (same_f l1 (by omega))
  have hwf := V16.width_f l1 hb1 (by omega)
  have hrw := refw_f l1 hb64 (by omega)
  have hpack := fun (r : List Int) (q : Nat) (h1 : q ≤ 64) (h2 : widthL l1 ≤ q) => read_pack (bits := 16) (r := r) h1 (show l1.length ≤ 100000 by omega) (width_lt hb64 h2) hb1
  have hne := @newE_ok a0 l1
  obtain ⟨m, em⟩ : ∃ m, widthL l1 = m := ⟨_, rfl⟩
  rw [em] at hwf hrw hpack hne
  obtain ⟨ne, ene⟩ : ∃ ne, newE a0 l1 = ne := ⟨_, rfl⟩
  rw [ene] at hmay hne
  have hgood := fun (ra rn : Int) (rx : List Int) (h : readF 16 l3 = (ra, rx, rn, 0)) => readF_good hb3 h
  have href := ref_read (l := l3) (B := 16) (by omega) hb3 (by omega)
  rw [show ((16 : Nat) : Int) = 16 from rfl] at href
  obtain ⟨ra, rx, rn, re, hrd⟩ : ∃ ra rx rn re, readF 16 l3 = (ra, rx, rn, re) := ⟨_, _, _, _, rfl⟩
  rw [hrd] at href
  have hT200 : l1.take (200000 : Int).toNat = l1 := List.take_of_length_le (by omega)
  obtain ⟨L3, eL3⟩ : ∃ L3, l1.take (3 : Int).toNat = L3 := ⟨_, rfl⟩
  have hL3 : L3.length = min 3 l1.length := by rw [← eL3, List.length_take]; rfl
  have HMIN := Aside0.mk (show (if (l1.length : Int) < 3 then (l1.length : Int) else 3) = (L3.length : Int) by
    by_cases h : l1.length < 3
    · rw [if_pos (by omega)]
      omega
    · rw [if_neg (by omega)]
      omega)
  have HMIN2 := Aside0.mk (show (if l1.length < 3 then (l1.length : Int) else 3) = (L3.length : Int) by
    by_cases h : l1.length < 3
    · rw [if_pos h]
      omega
    · rw [if_neg h]
      omega)
  have HENE := Aside0.mk ene
  have HMAY := Aside0.mk hmay
  have HWF := Aside0.mk hwf
  have HRW := Aside0.mk hrw
  have HPACK := Aside0.mk hpack
  have HNE := Aside0.mk hne
  have HRD := Aside0.mk hrd
  have HREF := Aside0.mk href
  have HGOOD := Aside0.mk hgood
  have HT200 := Aside0.mk hT200
  have HL3 := Aside0.mk eL3
  have HB := Aside0.mk (Below.refl w.heap.size w)
  have HR1 := Aside0.mk hr1
  have HR3 := Aside0.mk hr3
  have HN1 := Aside0.mk hn1
  have HN3 := Aside0.mk hn3
  have HB1 := Aside0.mk hb1
  have HIB := Aside0.mk hb3
  have HB64 := Aside0.mk hb64
  clear hb64 hmay hwf hrw hpack hne em ene href hrd hgood hT200 eL3 hL3 hr1 hr3 hn1 hn3 hb1 hb3
  go_enter Try.func32, Try.ntmps32
  go_upto_if 44 with (first | (go_at_call 16; refine (new_any a0 A1 c1 l1 _ (Kd.C_below HR1.out HB.out) hc1 HB1.out (by have := HN1.out; omega) _ HENE.out).mono ?_; rintro e w1 ⟨p, rfl, hp, hp0, hb⟩; have HP := Aside0.mk hp; have HP0 := Aside0.mk hp0; clear hp hp0; have n1_ := Aside0.mk (below_step HB.out hb); clear HB hb; have HB := n1_; clear n1_) | (go_at_call 56; refine (concordancelaw6_wide_uint16.calls _ A1 c1 l1 l1 _ (Kd.C_below HR1.out HB.out) hc1 HWI.out).mono ?_; rintro e w2 ⟨v2, rfl, ho, hb⟩; obtain ⟨AW, cW, rfl⟩ := Kd.R_slice ho; have HW := Aside0.mk (Kd.R_reads' ho).2; have n0_ := Aside0.mk (fun h0 => Exists.elim (HP.out h0) fun g h => (⟨g, h.1, h.2.below hb⟩ : ∃ g, p = some ⟨g, 0, none⟩ ∧ VecAt .u16 86 w2 g a0 l1)); clear HP ho; have HP := n0_; clear n0_; have n1_ := Aside0.mk (below_step HB.out hb); clear HB hb; have HB := n1_; clear n1_) | (go_at_call 34; refine (concordanceref6_May.calls _ a0 AW cW l1 ne _ HW.out.2 HW.out.1 HMAY.out).mono ?_; rintro e w3 ⟨rfl, hd⟩; have hb := hd.below; have n0_ := Aside0.mk (fun h0 => Exists.elim (HP.out h0) fun g h => (⟨g, h.1, h.2.below hb⟩ : ∃ g, p = some ⟨g, 0, none⟩ ∧ VecAt .u16 86 w3 g a0 l1)); have n2_ := Aside0.mk (And.intro HW.out.1 (Kd.C_below HW.out.2 hb)); clear HP HW hd; have HP := n0_; have HW := n2_; clear n0_ n2_; have n1_ := Aside0.mk (below_step HB.out hb); clear HB hb; have HB := n1_; clear n1_))
  go_cut [15, 16, 17, 18, 19, 20, 21, 22] from 32 (fun v15 v16 v17 v18 v19 v20 v21 v22 wx => Aside0 (Below w3.heap.size w3 wx))
  case first =>
    by_cases h0 : ne = 0
    · subst h0
      obtain ⟨g, rfl, hV⟩ := HP.out rfl
      have hok := HNE.out rfl
      obtain ⟨q, rfl⟩ := Int.eq_ofNat_of_zero_le hok.1
      have hq64 : q ≤ 64 := by omega
      have hX7 := HPACK.out [7] q hq64 (by omega)
      have hXl := vbytes_le (q := q) hq64 (l := l1) (by omega)
      have hXB := vbytes_isB (q := q) hq64 l1
      obtain ⟨X, eX⟩ : ∃ X, vbytes q l1 = X := ⟨_, rfl⟩
      rw [eX] at hX7 hXl hXB
      obtain ⟨S, eS⟩ : ∃ S, X ++ [7] = S := ⟨_, rfl⟩
      have hSl : S.length ≤ 800021 := by rw [← eS, List.length_append]; simp only [List.length_singleton]; omega
      have hSB : isB S := by rw [← eS]; exact isB_append hXB (fun x hx => by rw [List.mem_singleton.1 hx]; decide)
      rw [eS] at hX7
      have HV := Aside0.mk hV
      have HQ := Aside0.mk hq64
      have HX7 := Aside0.mk hX7
      have HXL := Aside0.mk hXl
      have HEX := Aside0.mk eX
      have HES := Aside0.mk eS
      have HSL := Aside0.mk hSl
      have HSB := Aside0.mk hSB
      have HL1 := Aside0.mk (show l1.length ≤ 100000 by have := HN1.out; omega)
      clear hV hok hq64 hX7 hXl hXB eX eS hSl hSB HP HP0 HNE HPACK HMAY HENE HWI
      go_wp2
      refine start_ (n := 28) (S := fun w' => Below w3.heap.size w3 w') (ds := []) #[false, false, false, false, false, false, false, false, false, false, false, false, false, false, false, false, false, false, false, false, false, false, false, false, false, false, false, false] (by kernel_rfl) rfl rfl (below_drew1 (Below.refl _ _)) (fun hHeld => ?_)
      refine with_tabW plays.tab7 plays.bits7 (fun HT_ HW_ => ?_)
      refine pure_ (i := 0) (N := some 52) (v := ?_) (a' := ?_) #[true, false, false, false, false, false, false, false, false, false, false, false, false, false, false, false, false, false, false, false, false, false, false, false, false, false, false, false] rfl rfl (any_of HT_.out (by kernel_rfl)) (fun _ _ _ h => h) (Or.inl ⟨by rfl, ?_⟩) ?_ ?_
      rotate_left
      · intro w'
        go_simp
        with_reducible rfl
      rotate_left
      · simp only [Act.put, List.setIfInBounds_toArray, List.set_cons_zero, List.set_cons_succ, i64_w, i32_w]
        rfl
      refine pure_ (i := 1) (N := some 53) (v := ?_) (a' := ?_) #[true, true, false, false, false, false, false, false, false, false, false, false, false, false, false, false, false, false, false, false, false, false, false, false, false, false, false, false] rfl rfl (any_of HT_.out (by kernel_rfl)) (fun _ _ _ h => h) (Or.inl ⟨by rfl, ?_⟩) ?_ ?_
      rotate_left
      · intro w'
        go_simp
        with_reducible rfl
      rotate_left
      · simp only [Act.put, List.setIfInBounds_toArray, List.set_cons_zero, List.set_cons_succ, i64_w, i32_w]
        rfl
      refine pure_ (i := 2) (N := some 54) (v := ?_) (a' := ?_) #[true, true, true, false, false, false, false, false, false, false, false, false, false, false, false, false, false, false, false, false, false, false, false, false, false, false, false, false] rfl rfl (any_of HT_.out (by kernel_rfl)) (fun _ _ _ h => h) (Or.inl ⟨by rfl, ?_⟩) ?_ ?_
      rotate_left
      · intro w'
        go_simp
        with_reducible rfl
      rotate_left
      · simp only [Act.put, List.setIfInBounds_toArray, List.set_cons_zero, List.set_cons_succ, i64_w, i32_w]
        rfl
      refine pure_ (i := 3) (N := some 55) (v := ?_) (a' := ?_) #[true, true, true, true, false, false, false, false, false, false, false, false, false, false, false, false, false, false, false, false, false, false, false, false, false, false, false, false] rfl rfl (any_of HT_.out (by kernel_rfl)) (fun _ _ _ h => h) (Or.inl ⟨by rfl, ?_⟩) ?_ ?_
      rotate_left
      · intro w'
        go_simp
        with_reducible rfl
      rotate_left
      · simp only [Act.put, List.setIfInBounds_toArray, List.set_cons_zero, List.set_cons_succ, i64_w, i32_w]
        rfl
      refine pure_ (i := 4) (N := some 56) (v := ?_) (a' := ?_) #[true, true, true, true, true, false, false, false, false, false, false, false, false, false, false, false, false, false, false, false, false, false, false, false, false, false, false, false] rfl rfl (any_of HT_.out (by kernel_rfl)) (fun _ _ _ h => h) (Or.inl ⟨by rfl, ?_⟩) ?_ ?_
      rotate_left
      · intro w'
        go_simp
        with_reducible rfl
      rotate_left
      · simp only [Act.put, List.setIfInBounds_toArray, List.set_cons_zero, List.set_cons_succ, i64_w, i32_w]
        rfl
      refine pure_ (i := 5) (N := some 57) (v := ?_) (a' := ?_) #[true, true, true, true, true, true, false, false, false, false, false, false, false, false, false, false, false, false, false, false, false, false, false, false, false, false, false, false] rfl rfl (any_of HT_.out (by kernel_rfl)) (fun _ _ _ h => h) (Or.inl ⟨by rfl, ?_⟩) ?_ ?_
      rotate_left
      · intro w'
        go_simp
        with_reducible rfl
      rotate_left
      · simp only [Act.put, List.setIfInBounds_toArray, List.set_cons_zero, List.set_cons_succ, i64_w, i32_w]
        rfl
      refine pure_ (i := 6) (N := some 58) (v := ?_) (a' := ?_) #[true, true, true, true, true, true, true, false, false, false, false, false, false, false, false, false, false, false, false, false, false, false, false, false, false, false, false, false] rfl rfl (any_of HT_.out (by kernel_rfl)) (fun _ _ _ h => h) (Or.inl ⟨by rfl, ?_⟩) ?_ ?_
      rotate_left
      · intro w'
        go_simp
        with_reducible rfl
      rotate_left
      · simp only [Act.put, List.setIfInBounds_toArray, List.set_cons_zero, List.set_cons_succ, i64_w, i32_w]
        rfl
      refine pure_ (i := 7) (N := some 59) (v := ?_) (a' := ?_) #[true, true, true, true, true, true, true, true, false, false, false, false, false, false, false, false, false, false, false, false, false, false, false, false, false, false, false, false] rfl rfl (any_of HT_.out (by kernel_rfl)) (fun _ _ _ h => h) (Or.inl ⟨by rfl, ?_⟩) ?_ ?_
      rotate_left
      · intro w'
        go_simp
        with_reducible rfl
      rotate_left
      · simp only [Act.put, List.setIfInBounds_toArray, List.set_cons_zero, List.set_cons_succ, i64_w, i32_w]
        rfl
      refine pure_ (i := 9) (N := some 61) (v := ?_) (a' := ?_) #[true, true, true, true, true, true, true, true, false, true, false, false, false, false, false, false, false, false, false, false, false, false, false, false, false, false, false, false] rfl rfl (any_of HT_.out (by kernel_rfl)) (fun _ _ _ h => h) (Or.inl ⟨by rfl, ?_⟩) ?_ ?_
      rotate_left
      · intro w'
        go_simp
        with_reducible rfl
      rotate_left
      · simp only [Act.put, List.setIfInBounds_toArray, List.set_cons_zero, List.set_cons_succ, i64_w, i32_w]
        rfl
      refine pure_ (i := 10) (N := some 62) (v := ?_) (a' := ?_) #[true, true, true, true, true, true, true, true, false, true, true, false, false, false, false, false, false, false, false, false, false, false, false, false, false, false, false, false] rfl rfl (any_of HT_.out (by kernel_rfl)) (fun _ _ _ h => h) (Or.inl ⟨by rfl, ?_⟩) ?_ ?_
      rotate_left
      · intro w'
        go_simp
        with_reducible rfl
      rotate_left
      · simp only [Act.put, List.setIfInBounds_toArray, List.set_cons_zero, List.set_cons_succ, i64_w, i32_w]
        rfl
      refine one_ (i := 8) (N := some 60) #[true, true, true, true, true, true, true, true, true, true, true, false, false, false, false, false, false, false, false, false, false, false, false, false, false, false, false, false] rfl rfl (one_of HT_.out (by kernel_rfl)) (by decide) (fun K hK => ?_)
      refine goes_ Try.func28 (by kernel_rfl) rfl #[.pointer (some ⟨g, 0, none⟩)] (by rfl) rfl rfl (by (try simp only [List.map_toArray, List.map_cons, List.map_nil]); first | done | rfl) ?_
      refine (V16.len_calls g (q : Int) l1 _ (HV.out.below hHeld)).mono ?_
      rintro e w5 ⟨rfl, rfl⟩
      refine ⟨_, rfl, ?_⟩
      have hS_ := hHeld
      refine hK.out _ _ hS_ (fun hHeld => ?_)
      clear hK K
      refine norm_ (a' := ?_) ?_ ?_
      rotate_left
      · show Act.put _ (some 60) _ = _
        simp only [Act.put, List.setIfInBounds_toArray, List.set_cons_zero, List.set_cons_succ, i64_w, i32_w]
        rfl
      refine pure_ (i := 11) (N := some 63) (v := ?_) (a' := ?_) #[true, true, true, true, true, true, true, true, true, true, true, true, false, false, false, false, false, false, false, false, false, false, false, false, false, false, false, false] rfl rfl (any_of HT_.out (by kernel_rfl)) (fun _ _ _ h => h) (Or.inl ⟨by rfl, ?_⟩) ?_ ?_
      rotate_left
      · intro w'
        go_simp
        with_reducible rfl
      rotate_left
      · simp only [Act.put, List.setIfInBounds_toArray, List.set_cons_zero, List.set_cons_succ, i64_w, i32_w]
        rfl
      refine pure_ (i := 12) (N := some 64) (v := ?_) (a' := ?_) #[true, true, true, true, true, true, true, true, true, true, true, true, true, false, false, false, false, false, false, false, false, false, false, false, false, false, false, false] rfl rfl (any_of HT_.out (by kernel_rfl)) (fun _ _ _ h => h) (Or.inl ⟨by rfl, ?_⟩) ?_ ?_
      rotate_left
      · intro w'
        go_simp
        with_reducible rfl
      rotate_left
      · simp only [Act.put, List.setIfInBounds_toArray, List.set_cons_zero, List.set_cons_succ, i64_w, i32_w]
        rfl
      refine pure_ (i := 13) (N := some 65) (v := ?_) (a' := ?_) #[true, true, true, true, true, true, true, true, true, true, true, true, true, true, false, false, false, false, false, false, false, false, false, false, false, false, false, false] rfl rfl (any_of HT_.out (by kernel_rfl)) (fun _ _ _ h => h) (Or.inl ⟨by rfl, ?_⟩) ?_ ?_
      rotate_left
      · intro w'
        go_simp
        with_reducible rfl
      rotate_left
      · simp only [Act.put, List.setIfInBounds_toArray, List.set_cons_zero, List.set_cons_succ, i64_w, i32_w]
        rfl
      refine pure_ (i := 14) (N := some 66) (v := ?_) (a' := ?_) #[true, true, true, true, true, true, true, true, true, true, true, true, true, true, true, false, false, false, false, false, false, false, false, false, false, false, false, false] rfl rfl (any_of HT_.out (by kernel_rfl)) (fun _ _ _ h => h) (Or.inl ⟨by rfl, ?_⟩) ?_ ?_
      rotate_left
      · intro w'
        go_simp
        with_reducible rfl
      rotate_left
      · simp only [Act.put, List.setIfInBounds_toArray, List.set_cons_zero, List.set_cons_succ, i64_w, i32_w]
        rfl
      refine pure_ (i := 16) (N := some 68) (v := ?_) (a' := ?_) #[true, true, true, true, true, true, true, true, true, true, true, true, true, true, true, false, true, false, false, false, false, false, false, false, false, false, false, false] rfl rfl (any_of HT_.out (by kernel_rfl)) (fun _ _ _ h => h) (Or.inl ⟨by rfl, ?_⟩) ?_ ?_
      rotate_left
      · intro w'
        go_simp
        with_reducible rfl
      rotate_left
      · simp only [Act.put, List.setIfInBounds_toArray, List.set_cons_zero, List.set_cons_succ, i64_w, i32_w]
        rfl
      refine one_ (i := 15) (N := some 67) #[true, true, true, true, true, true, true, true, true, true, true, true, true, true, true, true, true, false, false, false, false, false, false, false, false, false, false, false] rfl rfl (one_of HT_.out (by kernel_rfl)) (by decide) (fun K hK => ?_)
      refine goes_ Try.func57 (by kernel_rfl) rfl #[.pointer (some ⟨g, 0, none⟩)] (by rfl) rfl rfl (by (try simp only [List.map_toArray, List.map_cons, List.map_nil]); first | done | rfl) ?_
      refine (V16.wid_calls g (q : Int) l1 _ (HV.out.below hHeld)).mono ?_
      rintro e w5 ⟨rfl, rfl⟩
      refine ⟨_, rfl, ?_⟩
      have hS_ := hHeld
      refine hK.out _ _ hS_ (fun hHeld => ?_)
      clear hK K
      refine norm_ (a' := ?_) ?_ ?_
      rotate_left
      · show Act.put _ (some 67) _ = _
        simp only [Act.put, List.setIfInBounds_toArray, List.set_cons_zero, List.set_cons_succ, i64_w, i32_w]
        rfl
      refine pure_ (i := 17) (N := some 69) (v := ?_) (a' := ?_) #[true, true, true, true, true, true, true, true, true, true, true, true, true, true, true, true, true, true, false, false, false, false, false, false, false, false, false, false] rfl rfl (any_of HT_.out (by kernel_rfl)) (fun _ _ _ h => h) (Or.inl ⟨by rfl, ?_⟩) ?_ ?_
      rotate_left
      · intro w'
        go_simp
        with_reducible rfl
      rotate_left
      · simp only [Act.put, List.setIfInBounds_toArray, List.set_cons_zero, List.set_cons_succ, i64_w, i32_w]
        rfl
      refine pure_ (i := 18) (N := some 70) (v := ?_) (a' := ?_) #[true, true, true, true, true, true, true, true, true, true, true, true, true, true, true, true, true, true, true, false, false, false, false, false, false, false, false, false] rfl rfl (any_of HT_.out (by kernel_rfl)) (fun _ _ _ h => h) (Or.inl ⟨by rfl, ?_⟩) ?_ ?_
      rotate_left
      · intro w'
        go_simp
        with_reducible rfl
      rotate_left
      · simp only [Act.put, List.setIfInBounds_toArray, List.set_cons_zero, List.set_cons_succ, i64_w, i32_w]
        rfl
      refine pure_ (i := 19) (N := some 71) (v := ?_) (a' := ?_) #[true, true, true, true, true, true, true, true, true, true, true, true, true, true, true, true, true, true, true, true, false, false, false, false, false, false, false, false] rfl rfl (any_of HT_.out (by kernel_rfl)) (fun _ _ _ h => h) (Or.inl ⟨by rfl, ?_⟩) ?_ ?_
      rotate_left
      · intro w'
        go_simp
        with_reducible rfl
      rotate_left
      · simp only [Act.put, List.setIfInBounds_toArray, List.set_cons_zero, List.set_cons_succ, i64_w, i32_w]
        rfl
      refine pure_ (i := 20) (N := some 72) (v := ?_) (a' := ?_) #[true, true, true, true, true, true, true, true, true, true, true, true, true, true, true, true, true, true, true, true, true, false, false, false, false, false, false, false] rfl rfl (any_of HT_.out (by kernel_rfl)) (fun _ _ _ h => h) (Or.inl ⟨by rfl, ?_⟩) ?_ ?_
      rotate_left
      · intro w'
        go_simp
        with_reducible rfl
      rotate_left
      · simp only [Act.put, List.setIfInBounds_toArray, List.set_cons_zero, List.set_cons_succ, i64_w, i32_w]
        rfl
      refine pure_ (i := 23) (N := some 75) (v := ?_) (a' := ?_) #[true, true, true, true, true, true, true, true, true, true, true, true, true, true, true, true, true, true, true, true, true, false, false, true, false, false, false, false] rfl rfl (any_of HT_.out (by kernel_rfl)) (fun _ _ _ h => h) (Or.inl ⟨by rfl, ?_⟩) ?_ ?_
      rotate_left
      · intro w'
        go_simp
        with_reducible rfl
      rotate_left
      · simp only [Act.put, List.setIfInBounds_toArray, List.set_cons_zero, List.set_cons_succ, i64_w, i32_w]
        rfl
      refine pure_ (i := 24) (N := some 76) (v := ?_) (a' := ?_) #[true, true, true, true, true, true, true, true, true, true, true, true, true, true, true, true, true, true, true, true, true, false, false, true, true, false, false, false] rfl rfl (any_of HT_.out (by kernel_rfl)) (fun _ _ _ h => h) (Or.inl ⟨by rfl, ?_⟩) ?_ ?_
      rotate_left
      · intro w'
        go_simp
        with_reducible rfl
      rotate_left
      · simp only [Act.put, List.setIfInBounds_toArray, List.set_cons_zero, List.set_cons_succ, i64_w, i32_w]
        rfl
      refine join_ (σ := Option Addr × Nat) 2 #[true, true, true, true, true, true, true, true, true, true, true, true, true, true, true, true, true, true, true, true, true, true, true, true, true, true, false, false] (fun s_ => [(73, .slice s_.1 X.length s_.2), (74, .string (strOfNums X)), (77, .string (strOfNums X))]) (fun _ w' => Below w3.heap.size w3 w') ?_ ?_
      rotate_left
      · intro hCont
        refine one_ (i := 21) (N := some 73) #[true, true, true, true, true, true, true, true, true, true, true, true, true, true, true, true, true, true, true, true, true, true, false, true, true, false, false, false] rfl rfl (one_of HT_.out (by kernel_rfl)) (by decide) (fun K hK => ?_)
        refine goes_ Try.func19 (by kernel_rfl) rfl #[.pointer (some ⟨g, 0, none⟩)] (by rfl) rfl rfl (by (try simp only [List.map_toArray, List.map_cons, List.map_nil]); first | done | rfl) ?_
        refine (V16.bytes_calls g q l1 _ (HV.out.below hHeld) HQ.out HL1.out HB1.out).mono ?_
        rintro e w5 ⟨v5, rfl, ho5, hb⟩
        rw [HEX.out] at ho5
        obtain ⟨A5, c5, rfl⟩ := Kd.R_slice ho5
        refine ⟨_, rfl, ?_⟩
        have hS_ := below_step hHeld hb
        have hC5 := (Kd.R_reads' ho5).2.2
        refine hK.out _ _ hS_ (fun hHeld => ?_)
        clear hK K
        refine norm_ (a' := ?_) ?_ ?_
        rotate_left
        · show Act.put _ (some 73) _ = _
          simp only [Act.put, List.setIfInBounds_toArray, List.set_cons_zero, List.set_cons_succ, i64_w, i32_w]
          rfl
        refine two_ (i := 22) (j := 25) (Ni := some 74) (Nj := some 77) #[true, true, true, true, true, true, true, true, true, true, true, true, true, true, true, true, true, true, true, true, true, true, true, true, true, false, false, false] #[true, true, true, true, true, true, true, true, true, true, true, true, true, true, true, true, true, true, true, true, true, true, false, true, true, true, false, false] rfl rfl rfl rfl (two_of HT_.out (by kernel_rfl)) (by decide) (by decide) (fun K hK => ?_) (fun K hK => ?_)
        · skip
          have hcv := Kd.C_string (P := Try.prog) (A := A5) (c := c5) Try.underlying23 Try.underlying5 Try.underlying9 hC5
          refine value_ (w1 := ?_) (v := ?_) (by rfl) rfl ?_ ?_
          rotate_left 2
          · go_simp
            constructor
            · rfl
            · rfl
          clear hcv
          have hS_ := hHeld
          refine hK.out _ _ hS_ (fun hHeld => ?_)
          clear hK K
          refine norm_ (a' := ?_) ?_ ?_
          rotate_left
          · show Act.put _ (some 74) _ = _
            simp only [Act.put, List.setIfInBounds_toArray, List.set_cons_zero, List.set_cons_succ, i64_w, i32_w]
            rfl
          refine one_ (i := 25) (N := some 77) #[true, true, true, true, true, true, true, true, true, true, true, true, true, true, true, true, true, true, true, true, true, true, true, true, true, true, false, false] rfl rfl (one_of HT_.out (by kernel_rfl)) (by decide) (fun K hK => ?_)
          refine goes_ Try.func36 (by kernel_rfl) rfl #[.int .i64 (q : Int), .slice AW l1.length cW] (by rfl) rfl rfl (by (try simp only [List.map_toArray, List.map_cons, List.map_nil]); first | done | rfl) ?_
          refine (refbytes_calls q AW cW l1 _ (Kd.C_below HW.out.2 hHeld) HW.out.1 HQ.out HL1.out HB64.out).mono ?_
          rw [HEX.out]
          rintro e w6 ⟨rfl, hb⟩
          refine ⟨_, rfl, ?_⟩
          have hS_ := below_step hHeld hb
          (try replace hC5 := Kd.C_below hC5 hb)
          refine hK.out _ _ hS_ (fun hHeld => ?_)
          clear hK K
          refine norm_ (a' := ?_) ?_ ?_
          rotate_left
          · show Act.put _ (some 77) _ = _
            simp only [Act.put, List.setIfInBounds_toArray, List.set_cons_zero, List.set_cons_succ, i64_w, i32_w]
            rfl
          exact norm_ (by simp only [putAll, Act.put, List.setIfInBounds_toArray, List.set_cons_zero, List.set_cons_succ] <;> rfl) (hCont (A5, c5) _ hHeld)
        · skip
          refine goes_ Try.func36 (by kernel_rfl) rfl #[.int .i64 (q : Int), .slice AW l1.length cW] (by rfl) rfl rfl (by (try simp only [List.map_toArray, List.map_cons, List.map_nil]); first | done | rfl) ?_
          refine (refbytes_calls q AW cW l1 _ (Kd.C_below HW.out.2 hHeld) HW.out.1 HQ.out HL1.out HB64.out).mono ?_
          rw [HEX.out]
          rintro e w6 ⟨rfl, hb⟩
          refine ⟨_, rfl, ?_⟩
          have hS_ := below_step hHeld hb
          (try replace hC5 := Kd.C_below hC5 hb)
          refine hK.out _ _ hS_ (fun hHeld => ?_)
          clear hK K
          refine norm_ (a' := ?_) ?_ ?_
          rotate_left
          · show Act.put _ (some 77) _ = _
            simp only [Act.put, List.setIfInBounds_toArray, List.set_cons_zero, List.set_cons_succ, i64_w, i32_w]
            rfl
          refine one_ (i := 22) (N := some 74) #[true, true, true, true, true, true, true, true, true, true, true, true, true, true, true, true, true, true, true, true, true, true, true, true, true, true, false, false] rfl rfl (one_of HT_.out (by kernel_rfl)) (by decide) (fun K hK => ?_)
          have hcv := Kd.C_string (P := Try.prog) (A := A5) (c := c5) Try.underlying23 Try.underlying5 Try.underlying9 hC5
          refine value_ (w1 := ?_) (v := ?_) (by rfl) rfl ?_ ?_
          rotate_left 2
          · go_simp
            constructor
            · rfl
            · rfl
          clear hcv
          have hS_ := hHeld
          refine hK.out _ _ hS_ (fun hHeld => ?_)
          clear hK K
          refine norm_ (a' := ?_) ?_ ?_
          rotate_left
          · show Act.put _ (some 74) _ = _
            simp only [Act.put, List.setIfInBounds_toArray, List.set_cons_zero, List.set_cons_succ, i64_w, i32_w]
            rfl
          exact norm_ (by simp only [putAll, Act.put, List.setIfInBounds_toArray, List.set_cons_zero, List.set_cons_succ] <;> rfl) (hCont (A5, c5) _ hHeld)
      rintro ⟨A5, c5⟩ w6 hHeld
      refine norm_ (a' := ?_) ?_ ?_
      rotate_left
      · simp only [putAll, Act.put, List.setIfInBounds_toArray, List.set_cons_zero, List.set_cons_succ, i64_w, i32_w]
        rfl
      refine pure_ (i := 26) (N := some 78) (v := ?_) (a' := ?_) #[true, true, true, true, true, true, true, true, true, true, true, true, true, true, true, true, true, true, true, true, true, true, true, true, true, true, true, false] rfl rfl (any_of HT_.out (by kernel_rfl)) (fun _ _ _ h => h) (Or.inl ⟨by rfl, ?_⟩) ?_ ?_
      rotate_left
      · intro w'
        go_simp
        with_reducible rfl
      rotate_left
      · simp only [Act.put, List.setIfInBounds_toArray, List.set_cons_zero, List.set_cons_succ, i64_w, i32_w]
        rfl
      refine pure_ (i := 27) (N := some 79) (v := ?_) (a' := ?_) #[true, true, true, true, true, true, true, true, true, true, true, true, true, true, true, true, true, true, true, true, true, true, true, true, true, true, true, true] rfl rfl (any_of HT_.out (by kernel_rfl)) (fun _ _ _ h => h) (Or.inl ⟨by rfl, ?_⟩) ?_ ?_
      rotate_left
      · intro w'
        go_simp
        with_reducible rfl
      rotate_left
      · simp only [Act.put, List.setIfInBounds_toArray, List.set_cons_zero, List.set_cons_succ, i64_w, i32_w]
        rfl
      refine done_ (done_of HT_.out (by kernel_rfl)) ?_
      have HB3 := Aside0.mk hHeld
      have hmin := HMIN.out
      have hmin2 := HMIN2.out
      clear hHeld
      go_upto_region 13 with (first | ((with_reducible refine gate_callee (f := 58) rfl ?_); refine goesL_ (some 82) rfl rfl Try.func58 (by kernel_rfl) rfl #[.pointer (some ⟨g, 0, none⟩), .int .i64 200000] rfl (by (try simp only [List.map_toArray, List.map_cons, List.map_nil]); first | done | rfl) ?_; refine (V16.all_calls g (q : Int) l1 200000 _ (HV.out.below HB3.out) HL1.out HB1.out (by decide)).mono ?_; rintro e w7 ⟨v7, rfl, ho, hb⟩; rw [HT200.out] at ho; obtain ⟨A7, c7, rfl⟩ := Kd.R_slice ho; refine ⟨_, rfl, ?_⟩; have H7 := Aside0.mk (Kd.R_reads' ho).2; clear ho; have n1_ := Aside0.mk (below_step HB3.out hb); clear HB3 hb; have HB3 := n1_; clear n1_) | ((with_reducible refine gate_callee (f := 58) rfl ?_); refine goesL_ (some 87) rfl rfl Try.func58 (by kernel_rfl) rfl #[.pointer (some ⟨g, 0, none⟩), .int .i64 3] rfl (by (try simp only [List.map_toArray, List.map_cons, List.map_nil]); first | done | rfl) ?_; refine (V16.all_calls g (q : Int) l1 3 _ (HV.out.below HB3.out) HL1.out HB1.out (by decide)).mono ?_; rintro e w8 ⟨v8, rfl, ho, hb⟩; rw [HL3.out] at ho; obtain ⟨A8, c8, rfl⟩ := Kd.R_slice ho; refine ⟨_, rfl, ?_⟩; have n2_ := Aside0.mk (And.intro H7.out.1 (Kd.C_below H7.out.2 hb)); clear ho H7; have H7 := n2_; clear n2_; have n1_ := Aside0.mk (below_step HB3.out hb); clear HB3 hb; have HB3 := n1_; clear n1_) | (go_at_call 38; refine (concordancelaw6_same.calls _ A7 c7 l1 AW cW l1 true _ H7.out.2 H7.out.1 (Kd.C_below HW.out.2 HB3.out) HW.out.1 HSAME.out).mono ?_; rintro e w9 ⟨rfl, hd⟩; have hb := hd.below; clear hd H7; have n1_ := Aside0.mk (below_step HB3.out hb); clear HB3 hb; have HB3 := n1_; clear n1_))
      clear hmin hmin2
      by_cases k1 : a4 < 0
      · have d1 : decide (0 ≤ a4) = false := decide_eq_false (by omega)
        have HXX := Aside0.mk (show (if 0 ≤ a4 ∧ a4 < (l1.length : Int) then rd l1 a4 else 0) = 0 from if_neg (fun h => by omega))
        clear k1
        go_wp2_with (first | (go_at_call 30; refine (V16.get_calls g (q : Int) l1 _ _ (HV.out.below HB3.out)).mono ?_; rw [HXX.out]; rintro e w10 ⟨rfl, rfl⟩) | (go_at_call 19; refine (V16.bytes_calls g q l1 _ (HV.out.below HB3.out) HQ.out HL1.out HB1.out).mono ?_; rintro e w11 ⟨v11, rfl, ho, hb⟩; rw [HEX.out] at ho; obtain ⟨AX, cX, rfl⟩ := Kd.R_slice ho; have HOX := Aside0.mk ho; have HBX := Aside0.mk hb; clear ho hb) | ((with_reducible refine gate_builtin (b := .append) (xs := #[.tmp 130, .tmp 131]) rfl ?_); at_builtin; refine Kd.R_append (Kd.int .u8) (w0 := w10) w10.heap.size rfl (.tmp 130) (.tmp 131) 23 5 (.int .u8 0) 1 rfl Try.underlying23 hinfo_u8 rfl (by decide) (by omega) (.slice AX X.length cX) X 7 [.int .u8 7] (fun _ => True) (fun _ => False) rfl rfl rfl (fun _ h => h.elim) (fun _ _ => trivial) HOX.out HBX.out HBX.out.size (by have := HXL.out; omega) ?_; intro v12 w12 ho hb hg hat; rw [HES.out] at ho; obtain ⟨AS, cS, rfl⟩ := Kd.R_slice ho; have HSC := Aside0.mk (Kd.R_reads' ho).2; clear ho hg hat HOX HBX; have n1_ := Aside0.mk (below_step HB3.out hb); clear HB3 hb; have HB3 := n1_; clear n1_) | (go_at_call 26; refine (V16.read_good AS cS S _ HSC.out.2 HSC.out.1 HSB.out (by have := HSL.out; omega) _ _ _ HX7.out).mono ?_; rintro e w13 ⟨g3, rfl, hV3, hb⟩; have HV3 := Aside0.mk hV3; clear hV3 HSC; have n1_ := Aside0.mk (below_step HB3.out hb); clear HB3 hb; have HB3 := n1_; clear n1_))
        refine start_ (n := 22) (S := fun w' => Below w13.heap.size w13 w') (ds := []) #[false, false, false, false, false, false, false, false, false, false, false, false, false, false, false, false, false, false, false, false, false, false] (by kernel_rfl) rfl rfl (below_drew1 (Below.refl _ _)) (fun hHeld => ?_)
        refine with_tabW plays.tab19 plays.bits19 (fun HT_ HW_ => ?_)
        refine pure_ (i := 0) (N := some 137) (v := ?_) (a' := ?_) #[true, false, false, false, false, false, false, false, false, false, false, false, false, false, false, false, false, false, false, false, false, false] rfl rfl (any_of HT_.out (by kernel_rfl)) (fun _ _ _ h => h) (Or.inl ⟨by rfl, ?_⟩) ?_ ?_
        rotate_left
        · intro w'
          go_simp
          with_reducible rfl
        rotate_left
        · simp only [Act.put, List.setIfInBounds_toArray, List.set_cons_zero, List.set_cons_succ, i64_w, i32_w]
          rfl
        refine pure_ (i := 1) (N := some 138) (v := ?_) (a' := ?_) #[true, true, false, false, false, false, false, false, false, false, false, false, false, false, false, false, false, false, false, false, false, false] rfl rfl (any_of HT_.out (by kernel_rfl)) (fun _ _ _ h => h) (Or.inl ⟨by rfl, ?_⟩) ?_ ?_
        rotate_left
        · intro w'
          go_simp
          with_reducible rfl
        rotate_left
        · simp only [Act.put, List.setIfInBounds_toArray, List.set_cons_zero, List.set_cons_succ, i64_w, i32_w]
          rfl
        refine pure_ (i := 2) (N := some 139) (v := ?_) (a' := ?_) #[true, true, true, false, false, false, false, false, false, false, false, false, false, false, false, false, false, false, false, false, false, false] rfl rfl (any_of HT_.out (by kernel_rfl)) (fun _ _ _ h => h) (Or.inl ⟨by rfl, ?_⟩) ?_ ?_
        rotate_left
        · intro w'
          go_simp
          with_reducible rfl
        rotate_left
        · simp only [Act.put, List.setIfInBounds_toArray, List.set_cons_zero, List.set_cons_succ, i64_w, i32_w]
          rfl
        refine pure_ (i := 3) (N := some 140) (v := ?_) (a' := ?_) #[true, true, true, true, false, false, false, false, false, false, false, false, false, false, false, false, false, false, false, false, false, false] rfl rfl (any_of HT_.out (by kernel_rfl)) (fun _ _ _ h => h) (Or.inl ⟨by rfl, ?_⟩) ?_ ?_
        rotate_left
        · intro w'
          go_simp
          with_reducible rfl
        rotate_left
        · simp only [Act.put, List.setIfInBounds_toArray, List.set_cons_zero, List.set_cons_succ, i64_w, i32_w]
          rfl
        refine pure_ (i := 4) (N := some 141) (v := ?_) (a' := ?_) #[true, true, true, true, true, false, false, false, false, false, false, false, false, false, false, false, false, false, false, false, false, false] rfl rfl (any_of HT_.out (by kernel_rfl)) (fun _ _ _ h => h) (Or.inl ⟨by rfl, ?_⟩) ?_ ?_
        rotate_left
        · intro w'
          go_simp
          with_reducible rfl
        rotate_left
        · simp only [Act.put, List.setIfInBounds_toArray, List.set_cons_zero, List.set_cons_succ, i64_w, i32_w]
          rfl
        refine pure_ (i := 5) (N := some 142) (v := ?_) (a' := ?_) #[true, true, true, true, true, true, false, false, false, false, false, false, false, false, false, false, false, false, false, false, false, false] rfl rfl (any_of HT_.out (by kernel_rfl)) (fun _ _ _ h => h) (Or.inl ⟨by rfl, ?_⟩) ?_ ?_
        rotate_left
        · intro w'
          go_simp
          with_reducible rfl
        rotate_left
        · simp only [Act.put, List.setIfInBounds_toArray, List.set_cons_zero, List.set_cons_succ, i64_w, i32_w]
          rfl
        refine pure_ (i := 6) (N := some 143) (v := ?_) (a' := ?_) #[true, true, true, true, true, true, true, false, false, false, false, false, false, false, false, false, false, false, false, false, false, false] rfl rfl (any_of HT_.out (by kernel_rfl)) (fun _ _ _ h => h) (Or.inl ⟨by rfl, ?_⟩) ?_ ?_
        rotate_left
        · intro w'
          go_simp
          with_reducible rfl
        rotate_left
        · simp only [Act.put, List.setIfInBounds_toArray, List.set_cons_zero, List.set_cons_succ, i64_w, i32_w]
          rfl
        refine pure_ (i := 7) (N := some 144) (v := ?_) (a' := ?_) #[true, true, true, true, true, true, true, true, false, false, false, false, false, false, false, false, false, false, false, false, false, false] rfl rfl (any_of HT_.out (by kernel_rfl)) (fun _ _ _ h => h) (Or.inl ⟨by rfl, ?_⟩) ?_ ?_
        rotate_left
        · intro w'
          go_simp
          with_reducible rfl
        rotate_left
        · simp only [Act.put, List.setIfInBounds_toArray, List.set_cons_zero, List.set_cons_succ, i64_w, i32_w]
          rfl
        refine pure_ (i := 8) (N := some 145) (v := ?_) (a' := ?_) #[true, true, true, true, true, true, true, true, true, false, false, false, false, false, false, false, false, false, false, false, false, false] rfl rfl (any_of HT_.out (by kernel_rfl)) (fun _ _ _ h => h) (Or.inl ⟨by rfl, ?_⟩) ?_ ?_
        rotate_left
        · intro w'
          go_simp
          with_reducible rfl
        rotate_left
        · simp only [Act.put, List.setIfInBounds_toArray, List.set_cons_zero, List.set_cons_succ, i64_w, i32_w]
          rfl
        refine one_ (i := 9) (N := some 146) #[true, true, true, true, true, true, true, true, true, true, false, false, false, false, false, false, false, false, false, false, false, false] rfl rfl (one_of HT_.out (by kernel_rfl)) (by decide) (fun K hK => ?_)
        refine goes_ Try.func19 (by kernel_rfl) rfl #[.pointer (some ⟨g, 0, none⟩)] (by rfl) rfl rfl (by (try simp only [List.map_toArray, List.map_cons, List.map_nil]); first | done | rfl) ?_
        refine (V16.bytes_calls g q l1 _ ((HV.out.below HB3.out).below hHeld) HQ.out HL1.out HB1.out).mono ?_
        rintro e w14 ⟨v14, rfl, ho14, hb⟩
        rw [HEX.out] at ho14
        obtain ⟨A14, c14, rfl⟩ := Kd.R_slice ho14
        refine ⟨_, rfl, ?_⟩
        have hS_ := below_step hHeld hb
        refine hK.out _ _ hS_ (fun hHeld => ?_)
        clear hK K
        refine norm_ (a' := ?_) ?_ ?_
        rotate_left
        · show Act.put _ (some 146) _ = _
          simp only [Act.put, List.setIfInBounds_toArray, List.set_cons_zero, List.set_cons_succ, i64_w, i32_w]
          rfl
        refine pure_ (i := 10) (N := some 147) (v := ?_) (a' := ?_) #[true, true, true, true, true, true, true, true, true, true, true, false, false, false, false, false, false, false, false, false, false, false] rfl rfl (any_of HT_.out (by kernel_rfl)) (fun _ _ _ h => h) (Or.inl ⟨by rfl, ?_⟩) ?_ ?_
        rotate_left
        · intro w'
          go_simp
          with_reducible rfl
        rotate_left
        · simp only [Act.put, List.setIfInBounds_toArray, List.set_cons_zero, List.set_cons_succ, i64_w, i32_w]
          rfl
        refine pure_ (i := 11) (N := some 148) (v := ?_) (a' := ?_) #[true, true, true, true, true, true, true, true, true, true, true, true, false, false, false, false, false, false, false, false, false, false] rfl rfl (any_of HT_.out (by kernel_rfl)) (fun _ _ _ h => h) (Or.inl ⟨by rfl, ?_⟩) ?_ ?_
        rotate_left
        · intro w'
          go_simp
          with_reducible rfl
        rotate_left
        · simp only [Act.put, List.setIfInBounds_toArray, List.set_cons_zero, List.set_cons_succ, i64_w, i32_w]
          rfl
        refine pure_ (i := 12) (N := some 149) (v := ?_) (a' := ?_) #[true, true, true, true, true, true, true, true, true, true, true, true, true, false, false, false, false, false, false, false, false, false] rfl rfl (any_of HT_.out (by kernel_rfl)) (fun _ _ _ h => h) (Or.inl ⟨by rfl, ?_⟩) ?_ ?_
        rotate_left
        · intro w'
          go_simp
          with_reducible rfl
        rotate_left
        · simp only [Act.put, List.setIfInBounds_toArray, List.set_cons_zero, List.set_cons_succ, i64_w, i32_w]
          rfl
        refine pure_ (i := 13) (N := some 150) (v := ?_) (a' := ?_) #[true, true, true, true, true, true, true, true, true, true, true, true, true, true, false, false, false, false, false, false, false, false] rfl rfl (any_of HT_.out (by kernel_rfl)) (fun _ _ _ h => h) (Or.inl ⟨by rfl, ?_⟩) ?_ ?_
        rotate_left
        · intro w'
          go_simp
          with_reducible rfl
        rotate_left
        · simp only [Act.put, List.setIfInBounds_toArray, List.set_cons_zero, List.set_cons_succ, i64_w, i32_w]
          rfl
        refine pure_ (i := 14) (N := some 151) (v := ?_) (a' := ?_) #[true, true, true, true, true, true, true, true, true, true, true, true, true, true, true, false, false, false, false, false, false, false] rfl rfl (any_of HT_.out (by kernel_rfl)) (fun _ _ _ h => h) (Or.inl ⟨by rfl, ?_⟩) ?_ ?_
        rotate_left
        · intro w'
          go_simp
          with_reducible rfl
        rotate_left
        · simp only [Act.put, List.setIfInBounds_toArray, List.set_cons_zero, List.set_cons_succ, i64_w, i32_w]
          rfl
        refine pure_ (i := 17) (N := some 154) (v := ?_) (a' := ?_) #[true, true, true, true, true, true, true, true, true, true, true, true, true, true, true, false, false, true, false, false, false, false] rfl rfl (any_of HT_.out (by kernel_rfl)) (fun _ _ _ h => h) (Or.inl ⟨by rfl, ?_⟩) ?_ ?_
        rotate_left
        · intro w'
          go_simp
          with_reducible rfl
        rotate_left
        · simp only [Act.put, List.setIfInBounds_toArray, List.set_cons_zero, List.set_cons_succ, i64_w, i32_w]
          rfl
        refine join_ (σ := Option Addr × Nat × Option Addr × Nat) 2 #[true, true, true, true, true, true, true, true, true, true, true, true, true, true, true, true, true, true, true, true, false, false] (fun s_ => [(152, .slice s_.1 X.length s_.2.1), (153, .string (strOfNums X)), (155, .slice s_.2.2.1 X.length s_.2.2.2), (156, .string (strOfNums X))]) (fun _ w' => Below w13.heap.size w13 w') ?_ ?_
        rotate_left
        · intro hCont
          refine one_ (i := 15) (N := some 152) #[true, true, true, true, true, true, true, true, true, true, true, true, true, true, true, true, false, true, false, false, false, false] rfl rfl (one_of HT_.out (by kernel_rfl)) (by decide) (fun K hK => ?_)
          refine goes_ Try.func19 (by kernel_rfl) rfl #[.pointer (some ⟨g3, 0, none⟩)] (by rfl) rfl rfl (by (try simp only [List.map_toArray, List.map_cons, List.map_nil]); first | done | rfl) ?_
          refine (V16.bytes_calls g3 q l1 _ (HV3.out.below hHeld) HQ.out HL1.out HB1.out).mono ?_
          rintro e w5 ⟨v5, rfl, ho5, hb⟩
          rw [HEX.out] at ho5
          obtain ⟨A5, c5, rfl⟩ := Kd.R_slice ho5
          refine ⟨_, rfl, ?_⟩
          have hS_ := below_step hHeld hb
          have hC5 := (Kd.R_reads' ho5).2.2
          (try replace hC6 := Kd.C_below hC6 hb)
          refine hK.out _ _ hS_ (fun hHeld => ?_)
          clear hK K
          refine norm_ (a' := ?_) ?_ ?_
          rotate_left
          · show Act.put _ (some 152) _ = _
            simp only [Act.put, List.setIfInBounds_toArray, List.set_cons_zero, List.set_cons_succ, i64_w, i32_w]
            rfl
          refine two_ (i := 16) (j := 18) (Ni := some 153) (Nj := some 155) #[true, true, true, true, true, true, true, true, true, true, true, true, true, true, true, true, true, true, false, false, false, false] #[true, true, true, true, true, true, true, true, true, true, true, true, true, true, true, true, false, true, true, false, false, false] rfl rfl rfl rfl (two_of HT_.out (by kernel_rfl)) (by decide) (by decide) (fun K hK => ?_) (fun K hK => ?_)
          · skip
            have hcv := Kd.C_string (P := Try.prog) (A := A5) (c := c5) Try.underlying23 Try.underlying5 Try.underlying9 hC5
            refine value_ (w1 := ?_) (v := ?_) (by rfl) rfl ?_ ?_
            rotate_left 2
            · go_simp
              constructor
              · rfl
              · rfl
            clear hcv
            have hS_ := hHeld
            refine hK.out _ _ hS_ (fun hHeld => ?_)
            clear hK K
            refine norm_ (a' := ?_) ?_ ?_
            rotate_left
            · show Act.put _ (some 153) _ = _
              simp only [Act.put, List.setIfInBounds_toArray, List.set_cons_zero, List.set_cons_succ, i64_w, i32_w]
              rfl
            refine one_ (i := 18) (N := some 155) #[true, true, true, true, true, true, true, true, true, true, true, true, true, true, true, true, true, true, true, false, false, false] rfl rfl (one_of HT_.out (by kernel_rfl)) (by decide) (fun K hK => ?_)
            refine goes_ Try.func19 (by kernel_rfl) rfl #[.pointer (some ⟨g, 0, none⟩)] (by rfl) rfl rfl (by (try simp only [List.map_toArray, List.map_cons, List.map_nil]); first | done | rfl) ?_
            refine (V16.bytes_calls g q l1 _ ((HV.out.below HB3.out).below hHeld) HQ.out HL1.out HB1.out).mono ?_
            rintro e w6 ⟨v6, rfl, ho6, hb⟩
            rw [HEX.out] at ho6
            obtain ⟨A6, c6, rfl⟩ := Kd.R_slice ho6
            refine ⟨_, rfl, ?_⟩
            have hS_ := below_step hHeld hb
            have hC6 := (Kd.R_reads' ho6).2.2
            (try replace hC5 := Kd.C_below hC5 hb)
            refine hK.out _ _ hS_ (fun hHeld => ?_)
            clear hK K
            refine norm_ (a' := ?_) ?_ ?_
            rotate_left
            · show Act.put _ (some 155) _ = _
              simp only [Act.put, List.setIfInBounds_toArray, List.set_cons_zero, List.set_cons_succ, i64_w, i32_w]
              rfl
            refine one_ (i := 19) (N := some 156) #[true, true, true, true, true, true, true, true, true, true, true, true, true, true, true, true, true, true, true, true, false, false] rfl rfl (one_of HT_.out (by kernel_rfl)) (by decide) (fun K hK => ?_)
            have hcv := Kd.C_string (P := Try.prog) (A := A6) (c := c6) Try.underlying23 Try.underlying5 Try.underlying9 hC6
            refine value_ (w1 := ?_) (v := ?_) (by rfl) rfl ?_ ?_
            rotate_left 2
            · go_simp
              constructor
              · rfl
              · rfl
            clear hcv
            have hS_ := hHeld
            refine hK.out _ _ hS_ (fun hHeld => ?_)
            clear hK K
            refine norm_ (a' := ?_) ?_ ?_
            rotate_left
            · show Act.put _ (some 156) _ = _
              simp only [Act.put, List.setIfInBounds_toArray, List.set_cons_zero, List.set_cons_succ, i64_w, i32_w]
              rfl
            exact norm_ (by simp only [putAll, Act.put, List.setIfInBounds_toArray, List.set_cons_zero, List.set_cons_succ] <;> rfl) (hCont (A5, c5, A6, c6) _ hHeld)
          · skip
            refine goes_ Try.func19 (by kernel_rfl) rfl #[.pointer (some ⟨g, 0, none⟩)] (by rfl) rfl rfl (by (try simp only [List.map_toArray, List.map_cons, List.map_nil]); first | done | rfl) ?_
            refine (V16.bytes_calls g q l1 _ ((HV.out.below HB3.out).below hHeld) HQ.out HL1.out HB1.out).mono ?_
            rintro e w6 ⟨v6, rfl, ho6, hb⟩
            rw [HEX.out] at ho6
            obtain ⟨A6, c6, rfl⟩ := Kd.R_slice ho6
            refine ⟨_, rfl, ?_⟩
            have hS_ := below_step hHeld hb
            have hC6 := (Kd.R_reads' ho6).2.2
            (try replace hC5 := Kd.C_below hC5 hb)
            refine hK.out _ _ hS_ (fun hHeld => ?_)
            clear hK K
            refine norm_ (a' := ?_) ?_ ?_
            rotate_left
            · show Act.put _ (some 155) _ = _
              simp only [Act.put, List.setIfInBounds_toArray, List.set_cons_zero, List.set_cons_succ, i64_w, i32_w]
              rfl
            refine two_ (i := 16) (j := 19) (Ni := some 153) (Nj := some 156) #[true, true, true, true, true, true, true, true, true, true, true, true, true, true, true, true, true, true, true, false, false, false] #[true, true, true, true, true, true, true, true, true, true, true, true, true, true, true, true, false, true, true, true, false, false] rfl rfl rfl rfl (two_of HT_.out (by kernel_rfl)) (by decide) (by decide) (fun K hK => ?_) (fun K hK => ?_)
            · skip
              have hcv := Kd.C_string (P := Try.prog) (A := A5) (c := c5) Try.underlying23 Try.underlying5 Try.underlying9 hC5
              refine value_ (w1 := ?_) (v := ?_) (by rfl) rfl ?_ ?_
              rotate_left 2
              · go_simp
                constructor
                · rfl
                · rfl
              clear hcv
              have hS_ := hHeld
              refine hK.out _ _ hS_ (fun hHeld => ?_)
              clear hK K
              refine norm_ (a' := ?_) ?_ ?_
              rotate_left
              · show Act.put _ (some 153) _ = _
                simp only [Act.put, List.setIfInBounds_toArray, List.set_cons_zero, List.set_cons_succ, i64_w, i32_w]
                rfl
              refine one_ (i := 19) (N := some 156) #[true, true, true, true, true, true, true, true, true, true, true, true, true, true, true, true, true, true, true, true, false, false] rfl rfl (one_of HT_.out (by kernel_rfl)) (by decide) (fun K hK => ?_)
              have hcv := Kd.C_string (P := Try.prog) (A := A6) (c := c6) Try.underlying23 Try.underlying5 Try.underlying9 hC6
              refine value_ (w1 := ?_) (v := ?_) (by rfl) rfl ?_ ?_
              rotate_left 2
              · go_simp
                constructor
                · rfl
                · rfl
              clear hcv
              have hS_ := hHeld
              refine hK.out _ _ hS_ (fun hHeld => ?_)
              clear hK K
              refine norm_ (a' := ?_) ?_ ?_
              rotate_left
              · show Act.put _ (some 156) _ = _
                simp only [Act.put, List.setIfInBounds_toArray, List.set_cons_zero, List.set_cons_succ, i64_w, i32_w]
                rfl
              exact norm_ (by simp only [putAll, Act.put, List.setIfInBounds_toArray, List.set_cons_zero, List.set_cons_succ] <;> rfl) (hCont (A5, c5, A6, c6) _ hHeld)
            · skip
              have hcv := Kd.C_string (P := Try.prog) (A := A6) (c := c6) Try.underlying23 Try.underlying5 Try.underlying9 hC6
              refine value_ (w1 := ?_) (v := ?_) (by rfl) rfl ?_ ?_
              rotate_left 2
              · go_simp
                constructor
                · rfl
                · rfl
              clear hcv
              have hS_ := hHeld
              refine hK.out _ _ hS_ (fun hHeld => ?_)
              clear hK K
              refine norm_ (a' := ?_) ?_ ?_
              rotate_left
              · show Act.put _ (some 156) _ = _
                simp only [Act.put, List.setIfInBounds_toArray, List.set_cons_zero, List.set_cons_succ, i64_w, i32_w]
                rfl
              refine one_ (i := 16) (N := some 153) #[true, true, true, true, true, true, true, true, true, true, true, true, true, true, true, true, true, true, true, true, false, false] rfl rfl (one_of HT_.out (by kernel_rfl)) (by decide) (fun K hK => ?_)
              have hcv := Kd.C_string (P := Try.prog) (A := A5) (c := c5) Try.underlying23 Try.underlying5 Try.underlying9 hC5
              refine value_ (w1 := ?_) (v := ?_) (by rfl) rfl ?_ ?_
              rotate_left 2
              · go_simp
                constructor
                · rfl
                · rfl
              clear hcv
              have hS_ := hHeld
              refine hK.out _ _ hS_ (fun hHeld => ?_)
              clear hK K
              refine norm_ (a' := ?_) ?_ ?_
              rotate_left
              · show Act.put _ (some 153) _ = _
                simp only [Act.put, List.setIfInBounds_toArray, List.set_cons_zero, List.set_cons_succ, i64_w, i32_w]
                rfl
              exact norm_ (by simp only [putAll, Act.put, List.setIfInBounds_toArray, List.set_cons_zero, List.set_cons_succ] <;> rfl) (hCont (A5, c5, A6, c6) _ hHeld)
        rintro ⟨A5, c5, A6, c6⟩ w14 hHeld
        refine norm_ (a' := ?_) ?_ ?_
        rotate_left
        · simp only [putAll, Act.put, List.setIfInBounds_toArray, List.set_cons_zero, List.set_cons_succ, i64_w, i32_w]
          rfl
        refine pure_ (i := 20) (N := some 157) (v := ?_) (a' := ?_) #[true, true, true, true, true, true, true, true, true, true, true, true, true, true, true, true, true, true, true, true, true, false] rfl rfl (any_of HT_.out (by kernel_rfl)) (fun _ _ _ h => h) (Or.inl ⟨by rfl, ?_⟩) ?_ ?_
        rotate_left
        · intro w'
          go_simp
          with_reducible rfl
        rotate_left
        · simp only [Act.put, List.setIfInBounds_toArray, List.set_cons_zero, List.set_cons_succ, i64_w, i32_w]
          rfl
        refine pure_ (i := 21) (N := some 158) (v := ?_) (a' := ?_) #[true, true, true, true, true, true, true, true, true, true, true, true, true, true, true, true, true, true, true, true, true, true] rfl rfl (any_of HT_.out (by kernel_rfl)) (fun _ _ _ h => h) (Or.inl ⟨by rfl, ?_⟩) ?_ ?_
        rotate_left
        · intro w'
          go_simp
          with_reducible rfl
        rotate_left
        · simp only [Act.put, List.setIfInBounds_toArray, List.set_cons_zero, List.set_cons_succ, i64_w, i32_w]
          rfl
        refine done_ (done_of HT_.out (by kernel_rfl)) ?_
        go_wp2
        go_meet
        exact ⟨below_step HB3.out hHeld⟩
      obtain ⟨i, rfl⟩ := Int.eq_ofNat_of_zero_le (show 0 ≤ a4 by omega)
      have d1 : decide ((0 : Int) ≤ (i : Int)) = true := decide_eq_true (by omega)
      by_cases k2 : (l1.length : Int) ≤ (i : Int)
      · have d2 : decide ((i : Int) < (l1.length : Int)) = false := decide_eq_false (by omega)
        have d3 : decide (i < l1.length) = false := decide_eq_false (by omega)
        have d4 : (i < l1.length) = False := eq_false (by omega)
        have HXX := Aside0.mk (show (if 0 ≤ (i : Int) ∧ (i : Int) < (l1.length : Int) then rd l1 (i : Int) else 0) = 0 from if_neg (fun h => by omega))
        clear k1 k2
        go_wp2_with (first | (go_at_call 30; refine (V16.get_calls g (q : Int) l1 _ _ (HV.out.below HB3.out)).mono ?_; rw [HXX.out]; rintro e w10 ⟨rfl, rfl⟩) | (go_at_call 19; refine (V16.bytes_calls g q l1 _ (HV.out.below HB3.out) HQ.out HL1.out HB1.out).mono ?_; rintro e w11 ⟨v11, rfl, ho, hb⟩; rw [HEX.out] at ho; obtain ⟨AX, cX, rfl⟩ := Kd.R_slice ho; have HOX := Aside0.mk ho; have HBX := Aside0.mk hb; clear ho hb) | ((with_reducible refine gate_builtin (b := .append) (xs := #[.tmp 130, .tmp 131]) rfl ?_); at_builtin; refine Kd.R_append (Kd.int .u8) (w0 := w10) w10.heap.size rfl (.tmp 130) (.tmp 131) 23 5 (.int .u8 0) 1 rfl Try.underlying23 hinfo_u8 rfl (by decide) (by omega) (.slice AX X.length cX) X 7 [.int .u8 7] (fun _ => True) (fun _ => False) rfl rfl rfl (fun _ h => h.elim) (fun _ _ => trivial) HOX.out HBX.out HBX.out.size (by have := HXL.out; omega) ?_; intro v12 w12 ho hb hg hat; rw [HES.out] at ho; obtain ⟨AS, cS, rfl⟩ := Kd.R_slice ho; have HSC := Aside0.mk (Kd.R_reads' ho).2; clear ho hg hat HOX HBX; have n1_ := Aside0.mk (below_step HB3.out hb); clear HB3 hb; have HB3 := n1_; clear n1_) | (go_at_call 26; refine (V16.read_good AS cS S _ HSC.out.2 HSC.out.1 HSB.out (by have := HSL.out; omega) _ _ _ HX7.out).mono ?_; rintro e w13 ⟨g3, rfl, hV3, hb⟩; have HV3 := Aside0.mk hV3; clear hV3 HSC; have n1_ := Aside0.mk (below_step HB3.out hb); clear HB3 hb; have HB3 := n1_; clear n1_))
        refine start_ (n := 22) (S := fun w' => Below w13.heap.size w13 w') (ds := []) #[false, false, false, false, false, false, false, false, false, false, false, false, false, false, false, false, false, false, false, false, false, false] (by kernel_rfl) rfl rfl (below_drew1 (Below.refl _ _)) (fun hHeld => ?_)
        refine with_tabW plays.tab19 plays.bits19 (fun HT_ HW_ => ?_)
        refine pure_ (i := 0) (N := some 137) (v := ?_) (a' := ?_) #[true, false, false, false, false, false, false, false, false, false, false, false, false, false, false, false, false, false, false, false, false, false] rfl rfl (any_of HT_.out (by kernel_rfl)) (fun _ _ _ h => h) (Or.inl ⟨by rfl, ?_⟩) ?_ ?_
        rotate_left
        · intro w'
          go_simp
          with_reducible rfl
        rotate_left
        · simp only [Act.put, List.setIfInBounds_toArray, List.set_cons_zero, List.set_cons_succ, i64_w, i32_w]
          rfl
        refine pure_ (i := 1) (N := some 138) (v := ?_) (a' := ?_) #[true, true, false, false, false, false, false, false, false, false, false, false, false, false, false, false, false, false, false, false, false, false] rfl rfl (any_of HT_.out (by kernel_rfl)) (fun _ _ _ h => h) (Or.inl ⟨by rfl, ?_⟩) ?_ ?_
        rotate_left
        · intro w'
          go_simp
          with_reducible rfl
        rotate_left
        · simp only [Act.put, List.setIfInBounds_toArray, List.set_cons_zero, List.set_cons_succ, i64_w, i32_w]
          rfl
        refine pure_ (i := 2) (N := some 139) (v := ?_) (a' := ?_) #[true, true, true, false, false, false, false, false, false, false, false, false, false, false, false, false, false, false, false, false, false, false] rfl rfl (any_of HT_.out (by kernel_rfl)) (fun _ _ _ h => h) (Or.inl ⟨by rfl, ?_⟩) ?_ ?_
        rotate_left
        · intro w'
          go_simp
          with_reducible rfl
        rotate_left
        · simp only [Act.put, List.setIfInBounds_toArray, List.set_cons_zero, List.set_cons_succ, i64_w, i32_w]
          rfl
        refine pure_ (i := 3) (N := some 140) (v := ?_) (a' := ?_) #[true, true, true, true, false, false, false, false, false, false, false, false, false, false, false, false, false, false, false, false, false, false] rfl rfl (any_of HT_.out (by kernel_rfl)) (fun _ _ _ h => h) (Or.inl ⟨by rfl, ?_⟩) ?_ ?_
        rotate_left
        · intro w'
          go_simp
          with_reducible rfl
        rotate_left
        · simp only [Act.put, List.setIfInBounds_toArray, List.set_cons_zero, List.set_cons_succ, i64_w, i32_w]
          rfl
        refine pure_ (i := 4) (N := some 141) (v := ?_) (a' := ?_) #[true, true, true, true, true, false, false, false, false, false, false, false, false, false, false, false, false, false, false, false, false, false] rfl rfl (any_of HT_.out (by kernel_rfl)) (fun _ _ _ h => h) (Or.inl ⟨by rfl, ?_⟩) ?_ ?_
        rotate_left
        · intro w'
          go_simp
          with_reducible rfl
        rotate_left
        · simp only [Act.put, List.setIfInBounds_toArray, List.set_cons_zero, List.set_cons_succ, i64_w, i32_w]
          rfl
        refine pure_ (i := 5) (N := some 142) (v := ?_) (a' := ?_) #[true, true, true, true, true, true, false, false, false, false, false, false, false, false, false, false, false, false, false, false, false, false] rfl rfl (any_of HT_.out (by kernel_rfl)) (fun _ _ _ h => h) (Or.inl ⟨by rfl, ?_⟩) ?_ ?_
        rotate_left
        · intro w'
          go_simp
          with_reducible rfl
        rotate_left
        · simp only [Act.put, List.setIfInBounds_toArray, List.set_cons_zero, List.set_cons_succ, i64_w, i32_w]
          rfl
        refine pure_ (i := 6) (N := some 143) (v := ?_) (a' := ?_) #[true, true, true, true, true, true, true, false, false, false, false, false, false, false, false, false, false, false, false, false, false, false] rfl rfl (any_of HT_.out (by kernel_rfl)) (fun _ _ _ h => h) (Or.inl ⟨by rfl, ?_⟩) ?_ ?_
        rotate_left
        · intro w'
          go_simp
          with_reducible rfl
        rotate_left
        · simp only [Act.put, List.setIfInBounds_toArray, List.set_cons_zero, List.set_cons_succ, i64_w, i32_w]
          rfl
        refine pure_ (i := 7) (N := some 144) (v := ?_) (a' := ?_) #[true, true, true, true, true, true, true, true, false, false, false, false, false, false, false, false, false, false, false, false, false, false] rfl rfl (any_of HT_.out (by kernel_rfl)) (fun _ _ _ h => h) (Or.inl ⟨by rfl, ?_⟩) ?_ ?_
        rotate_left
        · intro w'
          go_simp
          with_reducible rfl
        rotate_left
        · simp only [Act.put, List.setIfInBounds_toArray, List.set_cons_zero, List.set_cons_succ, i64_w, i32_w]
          rfl
        refine pure_ (i := 8) (N := some 145) (v := ?_) (a' := ?_) #[true, true, true, true, true, true, true, true, true, false, false, false, false, false, false, false, false, false, false, false, false, false] rfl rfl (any_of HT_.out (by kernel_rfl)) (fun _ _ _ h => h) (Or.inl ⟨by rfl, ?_⟩) ?_ ?_
        rotate_left
        · intro w'
          go_simp
          with_reducible rfl
        rotate_left
        · simp only [Act.put, List.setIfInBounds_toArray, List.set_cons_zero, List.set_cons_succ, i64_w, i32_w]
          rfl
        refine one_ (i := 9) (N := some 146) #[true, true, true, true, true, true, true, true, true, true, false, false, false, false, false, false, false, false, false, false, false, false] rfl rfl (one_of HT_.out (by kernel_rfl)) (by decide) (fun K hK => ?_)
        refine goes_ Try.func19 (by kernel_rfl) rfl #[.pointer (some ⟨g, 0, none⟩)] (by rfl) rfl rfl (by (try simp only [List.map_toArray, List.map_cons, List.map_nil]); first | done | rfl) ?_
        refine (V16.bytes_calls g q l1 _ ((HV.out.below HB3.out).below hHeld) HQ.out HL1.out HB1.out).mono ?_
        rintro e w14 ⟨v14, rfl, ho14, hb⟩
        rw [HEX.out] at ho14
        obtain ⟨A14, c14, rfl⟩ := Kd.R_slice ho14
        refine ⟨_, rfl, ?_⟩
        have hS_ := below_step hHeld hb
        refine hK.out _ _ hS_ (fun hHeld => ?_)
        clear hK K
        refine norm_ (a' := ?_) ?_ ?_
        rotate_left
        · show Act.put _ (some 146) _ = _
          simp only [Act.put, List.setIfInBounds_toArray, List.set_cons_zero, List.set_cons_succ, i64_w, i32_w]
          rfl
        refine pure_ (i := 10) (N := some 147) (v := ?_) (a' := ?_) #[true, true, true, true, true, true, true, true, true, true, true, false, false, false, false, false, false, false, false, false, false, false] rfl rfl (any_of HT_.out (by kernel_rfl)) (fun _ _ _ h => h) (Or.inl ⟨by rfl, ?_⟩) ?_ ?_
        rotate_left
        · intro w'
          go_simp
          with_reducible rfl
        rotate_left
        · simp only [Act.put, List.setIfInBounds_toArray, List.set_cons_zero, List.set_cons_succ, i64_w, i32_w]
          rfl
        refine pure_ (i := 11) (N := some 148) (v := ?_) (a' := ?_) #[true, true, true, true, true, true, true, true, true, true, true, true, false, false, false, false, false, false, false, false, false, false] rfl rfl (any_of HT_.out (by kernel_rfl)) (fun _ _ _ h => h) (Or.inl ⟨by rfl, ?_⟩) ?_ ?_
        rotate_left
        · intro w'
          go_simp
          with_reducible rfl
        rotate_left
        · simp only [Act.put, List.setIfInBounds_toArray, List.set_cons_zero, List.set_cons_succ, i64_w, i32_w]
          rfl
        refine pure_ (i := 12) (N := some 149) (v := ?_) (a' := ?_) #[true, true, true, true, true, true, true, true, true, true, true, true, true, false, false, false, false, false, false, false, false, false] rfl rfl (any_of HT_.out (by kernel_rfl)) (fun _ _ _ h => h) (Or.inl ⟨by rfl, ?_⟩) ?_ ?_
        rotate_left
        · intro w'
          go_simp
          with_reducible rfl
        rotate_left
        · simp only [Act.put, List.setIfInBounds_toArray, List.set_cons_zero, List.set_cons_succ, i64_w, i32_w]
          rfl
        refine pure_ (i := 13) (N := some 150) (v := ?_) (a' := ?_) #[true, true, true, true, true, true, true, true, true, true, true, true, true, true, false, false, false, false, false, false, false, false] rfl rfl (any_of HT_.out (by kernel_rfl)) (fun _ _ _ h => h) (Or.inl ⟨by rfl, ?_⟩) ?_ ?_
        rotate_left
        · intro w'
          go_simp
          with_reducible rfl
        rotate_left
        · simp only [Act.put, List.setIfInBounds_toArray, List.set_cons_zero, List.set_cons_succ, i64_w, i32_w]
          rfl
        refine pure_ (i := 14) (N := some 151) (v := ?_) (a' := ?_) #[true, true, true, true, true, true, true, true, true, true, true, true, true, true, true, false, false, false, false, false, false, false] rfl rfl (any_of HT_.out (by kernel_rfl)) (fun _ _ _ h => h) (Or.inl ⟨by rfl, ?_⟩) ?_ ?_
        rotate_left
        · intro w'
          go_simp
          with_reducible rfl
        rotate_left
        · simp only [Act.put, List.setIfInBounds_toArray, List.set_cons_zero, List.set_cons_succ, i64_w, i32_w]
          rfl
        refine pure_ (i := 17) (N := some 154) (v := ?_) (a' := ?_) #[true, true, true, true, true, true, true, true, true, true, true, true, true, true, true, false, false, true, false, false, false, false] rfl rfl (any_of HT_.out (by kernel_rfl)) (fun _ _ _ h => h) (Or.inl ⟨by rfl, ?_⟩) ?_ ?_
        rotate_left
        · intro w'
          go_simp
          with_reducible rfl
        rotate_left
        · simp only [Act.put, List.setIfInBounds_toArray, List.set_cons_zero, List.set_cons_succ, i64_w, i32_w]
          rfl
        refine join_ (σ := Option Addr × Nat × Option Addr × Nat) 2 #[true, true, true, true, true, true, true, true, true, true, true, true, true, true, true, true, true, true, true, true, false, false] (fun s_ => [(152, .slice s_.1 X.length s_.2.1), (153, .string (strOfNums X)), (155, .slice s_.2.2.1 X.length s_.2.2.2), (156, .string (strOfNums X))]) (fun _ w' => Below w13.heap.size w13 w') ?_ ?_
        rotate_left
        · intro hCont
          refine one_ (i := 15) (N := some 152) #[true, true, true, true, true, true, true, true, true, true, true, true, true, true, true, true, false, true, false, false, false, false] rfl rfl (one_of HT_.out (by kernel_rfl)) (by decide) (fun K hK => ?_)
          refine goes_ Try.func19 (by kernel_rfl) rfl #[.pointer (some ⟨g3, 0, none⟩)] (by rfl) rfl rfl (by (try simp only [List.map_toArray, List.map_cons, List.map_nil]); first | done | rfl) ?_
          refine (V16.bytes_calls g3 q l1 _ (HV3.out.below hHeld) HQ.out HL1.out HB1.out).mono ?_
          rintro e w5 ⟨v5, rfl, ho5, hb⟩
          rw [HEX.out] at ho5
          obtain ⟨A5, c5, rfl⟩ := Kd.R_slice ho5
          refine ⟨_, rfl, ?_⟩
          have hS_ := below_step hHeld hb
          have hC5 := (Kd.R_reads' ho5).2.2
          (try replace hC6 := Kd.C_below hC6 hb)
          refine hK.out _ _ hS_ (fun hHeld => ?_)
          clear hK K
          refine norm_ (a' := ?_) ?_ ?_
          rotate_left
          · show Act.put _ (some 152) _ = _
            simp only [Act.put, List.setIfInBounds_toArray, List.set_cons_zero, List.set_cons_succ, i64_w, i32_w]
            rfl
          refine two_ (i := 16) (j := 18) (Ni := some 153) (Nj := some 155) #[true, true, true, true, true, true, true, true, true, true, true, true, true, true, true, true, true, true, false, false, false, false] #[true, true, true, true, true, true, true, true, true, true, true, true, true, true, true, true, false, true, true, false, false, false] rfl rfl rfl rfl (two_of HT_.out (by kernel_rfl)) (by decide) (by decide) (fun K hK => ?_) (fun K hK => ?_)
          · skip
            have hcv := Kd.C_string (P := Try.prog) (A := A5) (c := c5) Try.underlying23 Try.underlying5 Try.underlying9 hC5
            refine value_ (w1 := ?_) (v := ?_) (by rfl) rfl ?_ ?_
            rotate_left 2
            · go_simp
              constructor
              · rfl
              · rfl
            clear hcv
            have hS_ := hHeld
            refine hK.out _ _ hS_ (fun hHeld => ?_)
            clear hK K
            refine norm_ (a' := ?_) ?_ ?_
            rotate_left
            · show Act.put _ (some 153) _ = _
              simp only [Act.put, List.setIfInBounds_toArray, List.set_cons_zero, List.set_cons_succ, i64_w, i32_w]
              rfl
            refine one_ (i := 18) (N := some 155) #[true, true, true, true, true, true, true, true, true, true, true, true, true, true, true, true, true, true, true, false, false, false] rfl rfl (one_of HT_.out (by kernel_rfl)) (by decide) (fun K hK => ?_)
            refine goes_ Try.func19 (by kernel_rfl) rfl #[.pointer (some ⟨g, 0, none⟩)] (by rfl) rfl rfl (by (try simp only [List.map_toArray, List.map_cons, List.map_nil]); first | done | rfl) ?_
            refine (V16.bytes_calls g q l1 _ ((HV.out.below HB3.out).below hHeld) HQ.out HL1.out HB1.out).mono ?_
            rintro e w6 ⟨v6, rfl, ho6, hb⟩
            rw [HEX.out] at ho6
            obtain ⟨A6, c6, rfl⟩ := Kd.R_slice ho6
            refine ⟨_, rfl, ?_⟩
            have hS_ := below_step hHeld hb
            have hC6 := (Kd.R_reads' ho6).2.2
            (try replace hC5 := Kd.C_below hC5 hb)
            refine hK.out _ _ hS_ (fun hHeld => ?_)
            clear hK K
            refine norm_ (a' := ?_) ?_ ?_
            rotate_left
            · show Act.put _ (some 155) _ = _
              simp only [Act.put, List.setIfInBounds_toArray, List.set_cons_zero, List.set_cons_succ, i64_w, i32_w]
              rfl
            refine one_ (i := 19) (N := some 156) #[true, true, true, true, true, true, true, true, true, true, true, true, true, true, true, true, true, true, true, true, false, false] rfl rfl (one_of HT_.out (by kernel_rfl)) (by decide) (fun K hK => ?_)
            have hcv := Kd.C_string (P := Try.prog) (A := A6) (c := c6) Try.underlying23 Try.underlying5 Try.underlying9 hC6
            refine value_ (w1 := ?_) (v := ?_) (by rfl) rfl ?_ ?_
            rotate_left 2
            · go_simp
              constructor
              · rfl
              · rfl
            clear hcv
            have hS_ := hHeld
            refine hK.out _ _ hS_ (fun hHeld => ?_)
            clear hK K
            refine norm_ (a' := ?_) ?_ ?_
            rotate_left
            · show Act.put _ (some 156) _ = _
              simp only [Act.put, List.setIfInBounds_toArray, List.set_cons_zero, List.set_cons_succ, i64_w, i32_w]
              rfl
            exact norm_ (by simp only [putAll, Act.put, List.setIfInBounds_toArray, List.set_cons_zero, List.set_cons_succ] <;> rfl) (hCont (A5, c5, A6, c6) _ hHeld)
          · skip
            refine goes_ Try.func19 (by kernel_rfl) rfl #[.pointer (some ⟨g, 0, none⟩)] (by rfl) rfl rfl (by (try simp only [List.map_toArray, List.map_cons, List.map_nil]); first | done | rfl) ?_
            refine (V16.bytes_calls g q l1 _ ((HV.out.below HB3.out).below hHeld) HQ.out HL1.out HB1.out).mono ?_
            rintro e w6 ⟨v6, rfl, ho6, hb⟩
            rw [HEX.out] at ho6
            obtain ⟨A6, c6, rfl⟩ := Kd.R_slice ho6
            refine ⟨_, rfl, ?_⟩
            have hS_ := below_step hHeld hb
            have hC6 := (Kd.R_reads' ho6).2.2
            (try replace hC5 := Kd.C_below hC5 hb)
            refine hK.out _ _ hS_ (fun hHeld => ?_)
            clear hK K
            refine norm_ (a' := ?_) ?_ ?_
            rotate_left
            · show Act.put _ (some 155) _ = _
              simp only [Act.put, List.setIfInBounds_toArray, List.set_cons_zero, List.set_cons_succ, i64_w, i32_w]
              rfl
            refine two_ (i := 16) (j := 19) (Ni := some 153) (Nj := some 156) #[true, true, true, true, true, true, true, true, true, true, true, true, true, true, true, true, true, true, true, false, false, false] #[true, true, true, true, true, true, true, true, true, true, true, true, true, true, true, true, false, true, true, true, false, false] rfl rfl rfl rfl (two_of HT_.out (by kernel_rfl)) (by decide) (by decide) (fun K hK => ?_) (fun K hK => ?_)
            · skip
              have hcv := Kd.C_string (P := Try.prog) (A := A5) (c := c5) Try.underlying23 Try.underlying5 Try.underlying9 hC5
              refine value_ (w1 := ?_) (v := ?_) (by rfl) rfl ?_ ?_
              rotate_left 2
              · go_simp
                constructor
                · rfl
                · rfl
              clear hcv
              have hS_ := hHeld
              refine hK.out _ _ hS_ (fun hHeld => ?_)
              clear hK K
              refine norm_ (a' := ?_) ?_ ?_
              rotate_left
              · show Act.put _ (some 153) _ = _
                simp only [Act.put, List.setIfInBounds_toArray, List.set_cons_zero, List.set_cons_succ, i64_w, i32_w]
                rfl
              refine one_ (i := 19) (N := some 156) #[true, true, true, true, true, true, true, true, true, true, true, true, true, true, true, true, true, true, true, true, false, false] rfl rfl (one_of HT_.out (by kernel_rfl)) (by decide) (fun K hK => ?_)
              have hcv := Kd.C_string (P := Try.prog) (A := A6) (c := c6) Try.underlying23 Try.underlying5 Try.underlying9 hC6
              refine value_ (w1 := ?_) (v := ?_) (by rfl) rfl ?_ ?_
              rotate_left 2
              · go_simp
                constructor
                · rfl
                · rfl
              clear hcv
              have hS_ := hHeld
              refine hK.out _ _ hS_ (fun hHeld => ?_)
              clear hK K
              refine norm_ (a' := ?_) ?_ ?_
              rotate_left
              · show Act.put _ (some 156) _ = _
                simp only [Act.put, List.setIfInBounds_toArray, List.set_cons_zero, List.set_cons_succ, i64_w, i32_w]
                rfl
              exact norm_ (by simp only [putAll, Act.put, List.setIfInBounds_toArray, List.set_cons_zero, List.set_cons_succ] <;> rfl) (hCont (A5, c5, A6, c6) _ hHeld)
            · skip
              have hcv := Kd.C_string (P := Try.prog) (A := A6) (c := c6) Try.underlying23 Try.underlying5 Try.underlying9 hC6
              refine value_ (w1 := ?_) (v := ?_) (by rfl) rfl ?_ ?_
              rotate_left 2
              · go_simp
                constructor
                · rfl
                · rfl
              clear hcv
              have hS_ := hHeld
              refine hK.out _ _ hS_ (fun hHeld => ?_)
              clear hK K
              refine norm_ (a' := ?_) ?_ ?_
              rotate_left
              · show Act.put _ (some 156) _ = _
                simp only [Act.put, List.setIfInBounds_toArray, List.set_cons_zero, List.set_cons_succ, i64_w, i32_w]
                rfl
              refine one_ (i := 16) (N := some 153) #[true, true, true, true, true, true, true, true, true, true, true, true, true, true, true, true, true, true, true, true, false, false] rfl rfl (one_of HT_.out (by kernel_rfl)) (by decide) (fun K hK => ?_)
              have hcv := Kd.C_string (P := Try.prog) (A := A5) (c := c5) Try.underlying23 Try.underlying5 Try.underlying9 hC5
              refine value_ (w1 := ?_) (v := ?_) (by rfl) rfl ?_ ?_
              rotate_left 2
              · go_simp
                constructor
                · rfl
                · rfl
              clear hcv
              have hS_ := hHeld
              refine hK.out _ _ hS_ (fun hHeld => ?_)
              clear hK K
              refine norm_ (a' := ?_) ?_ ?_
              rotate_left
              · show Act.put _ (some 153) _ = _
                simp only [Act.put, List.setIfInBounds_toArray, List.set_cons_zero, List.set_cons_succ, i64_w, i32_w]
                rfl
              exact norm_ (by simp only [putAll, Act.put, List.setIfInBounds_toArray, List.set_cons_zero, List.set_cons_succ] <;> rfl) (hCont (A5, c5, A6, c6) _ hHeld)
        rintro ⟨A5, c5, A6, c6⟩ w14 hHeld
        refine norm_ (a' := ?_) ?_ ?_
        rotate_left
        · simp only [putAll, Act.put, List.setIfInBounds_toArray, List.set_cons_zero, List.set_cons_succ, i64_w, i32_w]
          rfl
        refine pure_ (i := 20) (N := some 157) (v := ?_) (a' := ?_) #[true, true, true, true, true, true, true, true, true, true, true, true, true, true, true, true, true, true, true, true, true, false] rfl rfl (any_of HT_.out (by kernel_rfl)) (fun _ _ _ h => h) (Or.inl ⟨by rfl, ?_⟩) ?_ ?_
        rotate_left
        · intro w'
          go_simp
          with_reducible rfl
        rotate_left
        · simp only [Act.put, List.setIfInBounds_toArray, List.set_cons_zero, List.set_cons_succ, i64_w, i32_w]
          rfl
        refine pure_ (i := 21) (N := some 158) (v := ?_) (a' := ?_) #[true, true, true, true, true, true, true, true, true, true, true, true, true, true, true, true, true, true, true, true, true, true] rfl rfl (any_of HT_.out (by kernel_rfl)) (fun _ _ _ h => h) (Or.inl ⟨by rfl, ?_⟩) ?_ ?_
        rotate_left
        · intro w'
          go_simp
          with_reducible rfl
        rotate_left
        · simp only [Act.put, List.setIfInBounds_toArray, List.set_cons_zero, List.set_cons_succ, i64_w, i32_w]
          rfl
        refine done_ (done_of HT_.out (by kernel_rfl)) ?_
        go_wp2
        go_meet
        exact ⟨below_step HB3.out hHeld⟩
      have hk2 : i < l1.length := by omega
      have d2 : decide ((i : Int) < (l1.length : Int)) = true := decide_eq_true (by omega)
      have d3 : decide (i < l1.length) = true := decide_eq_true (by omega)
      have d4 : (i < l1.length) = True := eq_true (by omega)
      obtain ⟨ad, rfl, hcell⟩ := Kd.at_int (Kd.C_below HW.out.2 HB3.out) (i : Int) (by omega) (by omega)
      rw [Int.toNat_natCast, rd_at l1 i hk2] at hcell
      have hxm := HB1.out _ (List.getElem_mem hk2)
      have hxx : (if 0 ≤ (i : Int) ∧ (i : Int) < (l1.length : Int) then rd l1 (i : Int) else 0) = l1[i] := by rw [if_pos (by omega), rd_at l1 i hk2]
      obtain ⟨x, ex⟩ : ∃ x, l1[i] = x := ⟨_, rfl⟩
      rw [ex] at hcell hxm hxx
      have HXX := Aside0.mk hxx
      have hwx : IntKind.u64.wrap x = x := by rw [wrap_u64]; omega
      have hwx2 : x % 18446744073709551616 = x := by omega
      clear k1 k2 hk2 hxm hxx ex
      go_wp2_with (first | (go_at_call 30; refine (V16.get_calls g (q : Int) l1 _ _ (HV.out.below HB3.out)).mono ?_; rw [HXX.out]; rintro e w10 ⟨rfl, rfl⟩) | (go_at_call 19; refine (V16.bytes_calls g q l1 _ (HV.out.below HB3.out) HQ.out HL1.out HB1.out).mono ?_; rintro e w11 ⟨v11, rfl, ho, hb⟩; rw [HEX.out] at ho; obtain ⟨AX, cX, rfl⟩ := Kd.R_slice ho; have HOX := Aside0.mk ho; have HBX := Aside0.mk hb; clear ho hb) | ((with_reducible refine gate_builtin (b := .append) (xs := #[.tmp 130, .tmp 131]) rfl ?_); at_builtin; refine Kd.R_append (Kd.int .u8) (w0 := w10) w10.heap.size rfl (.tmp 130) (.tmp 131) 23 5 (.int .u8 0) 1 rfl Try.underlying23 hinfo_u8 rfl (by decide) (by omega) (.slice AX X.length cX) X 7 [.int .u8 7] (fun _ => True) (fun _ => False) rfl rfl rfl (fun _ h => h.elim) (fun _ _ => trivial) HOX.out HBX.out HBX.out.size (by have := HXL.out; omega) ?_; intro v12 w12 ho hb hg hat; rw [HES.out] at ho; obtain ⟨AS, cS, rfl⟩ := Kd.R_slice ho; have HSC := Aside0.mk (Kd.R_reads' ho).2; clear ho hg hat HOX HBX; have n1_ := Aside0.mk (below_step HB3.out hb); clear HB3 hb; have HB3 := n1_; clear n1_) | (go_at_call 26; refine (V16.read_good AS cS S _ HSC.out.2 HSC.out.1 HSB.out (by have := HSL.out; omega) _ _ _ HX7.out).mono ?_; rintro e w13 ⟨g3, rfl, hV3, hb⟩; have HV3 := Aside0.mk hV3; clear hV3 HSC; have n1_ := Aside0.mk (below_step HB3.out hb); clear HB3 hb; have HB3 := n1_; clear n1_))
      refine start_ (n := 22) (S := fun w' => Below w13.heap.size w13 w') (ds := []) #[false, false, false, false, false, false, false, false, false, false, false, false, false, false, false, false, false, false, false, false, false, false] (by kernel_rfl) rfl rfl (below_drew1 (Below.refl _ _)) (fun hHeld => ?_)
      refine with_tabW plays.tab19 plays.bits19 (fun HT_ HW_ => ?_)
      refine pure_ (i := 0) (N := some 137) (v := ?_) (a' := ?_) #[true, false, false, false, false, false, false, false, false, false, false, false, false, false, false, false, false, false, false, false, false, false] rfl rfl (any_of HT_.out (by kernel_rfl)) (fun _ _ _ h => h) (Or.inl ⟨by rfl, ?_⟩) ?_ ?_
      rotate_left
      · intro w'
        go_simp
        with_reducible rfl
      rotate_left
      · simp only [Act.put, List.setIfInBounds_toArray, List.set_cons_zero, List.set_cons_succ, i64_w, i32_w]
        rfl
      refine pure_ (i := 1) (N := some 138) (v := ?_) (a' := ?_) #[true, true, false, false, false, false, false, false, false, false, false, false, false, false, false, false, false, false, false, false, false, false] rfl rfl (any_of HT_.out (by kernel_rfl)) (fun _ _ _ h => h) (Or.inl ⟨by rfl, ?_⟩) ?_ ?_
      rotate_left
      · intro w'
        go_simp
        with_reducible rfl
      rotate_left
      · simp only [Act.put, List.setIfInBounds_toArray, List.set_cons_zero, List.set_cons_succ, i64_w, i32_w]
        rfl
      refine pure_ (i := 2) (N := some 139) (v := ?_) (a' := ?_) #[true, true, true, false, false, false, false, false, false, false, false, false, false, false, false, false, false, false, false, false, false, false] rfl rfl (any_of HT_.out (by kernel_rfl)) (fun _ _ _ h => h) (Or.inl ⟨by rfl, ?_⟩) ?_ ?_
      rotate_left
      · intro w'
        go_simp
        with_reducible rfl
      rotate_left
      · simp only [Act.put, List.setIfInBounds_toArray, List.set_cons_zero, List.set_cons_succ, i64_w, i32_w]
        rfl
      refine pure_ (i := 3) (N := some 140) (v := ?_) (a' := ?_) #[true, true, true, true, false, false, false, false, false, false, false, false, false, false, false, false, false, false, false, false, false, false] rfl rfl (any_of HT_.out (by kernel_rfl)) (fun _ _ _ h => h) (Or.inl ⟨by rfl, ?_⟩) ?_ ?_
      rotate_left
      · intro w'
        go_simp
        with_reducible rfl
      rotate_left
      · simp only [Act.put, List.setIfInBounds_toArray, List.set_cons_zero, List.set_cons_succ, i64_w, i32_w]
        rfl
      refine pure_ (i := 4) (N := some 141) (v := ?_) (a' := ?_) #[true, true, true, true, true, false, false, false, false, false, false, false, false, false, false, false, false, false, false, false, false, false] rfl rfl (any_of HT_.out (by kernel_rfl)) (fun _ _ _ h => h) (Or.inl ⟨by rfl, ?_⟩) ?_ ?_
      rotate_left
      · intro w'
        go_simp
        with_reducible rfl
      rotate_left
      · simp only [Act.put, List.setIfInBounds_toArray, List.set_cons_zero, List.set_cons_succ, i64_w, i32_w]
        rfl
      refine pure_ (i := 5) (N := some 142) (v := ?_) (a' := ?_) #[true, true, true, true, true, true, false, false, false, false, false, false, false, false, false, false, false, false, false, false, false, false] rfl rfl (any_of HT_.out (by kernel_rfl)) (fun _ _ _ h => h) (Or.inl ⟨by rfl, ?_⟩) ?_ ?_
      rotate_left
      · intro w'
        go_simp
        with_reducible rfl
      rotate_left
      · simp only [Act.put, List.setIfInBounds_toArray, List.set_cons_zero, List.set_cons_succ, i64_w, i32_w]
        rfl
      refine pure_ (i := 6) (N := some 143) (v := ?_) (a' := ?_) #[true, true, true, true, true, true, true, false, false, false, false, false, false, false, false, false, false, false, false, false, false, false] rfl rfl (any_of HT_.out (by kernel_rfl)) (fun _ _ _ h => h) (Or.inl ⟨by rfl, ?_⟩) ?_ ?_
      rotate_left
      · intro w'
        go_simp
        with_reducible rfl
      rotate_left
      · simp only [Act.put, List.setIfInBounds_toArray, List.set_cons_zero, List.set_cons_succ, i64_w, i32_w]
        rfl
      refine pure_ (i := 7) (N := some 144) (v := ?_) (a' := ?_) #[true, true, true, true, true, true, true, true, false, false, false, false, false, false, false, false, false, false, false, false, false, false] rfl rfl (any_of HT_.out (by kernel_rfl)) (fun _ _ _ h => h) (Or.inl ⟨by rfl, ?_⟩) ?_ ?_
      rotate_left
      · intro w'
        go_simp
        with_reducible rfl
      rotate_left
      · simp only [Act.put, List.setIfInBounds_toArray, List.set_cons_zero, List.set_cons_succ, i64_w, i32_w]
        rfl
      refine pure_ (i := 8) (N := some 145) (v := ?_) (a' := ?_) #[true, true, true, true, true, true, true, true, true, false, false, false, false, false, false, false, false, false, false, false, false, false] rfl rfl (any_of HT_.out (by kernel_rfl)) (fun _ _ _ h => h) (Or.inl ⟨by rfl, ?_⟩) ?_ ?_
      rotate_left
      · intro w'
        go_simp
        with_reducible rfl
      rotate_left
      · simp only [Act.put, List.setIfInBounds_toArray, List.set_cons_zero, List.set_cons_succ, i64_w, i32_w]
        rfl
      refine one_ (i := 9) (N := some 146) #[true, true, true, true, true, true, true, true, true, true, false, false, false, false, false, false, false, false, false, false, false, false] rfl rfl (one_of HT_.out (by kernel_rfl)) (by decide) (fun K hK => ?_)
      refine goes_ Try.func19 (by kernel_rfl) rfl #[.pointer (some ⟨g, 0, none⟩)] (by rfl) rfl rfl (by (try simp only [List.map_toArray, List.map_cons, List.map_nil]); first | done | rfl) ?_
      refine (V16.bytes_calls g q l1 _ ((HV.out.below HB3.out).below hHeld) HQ.out HL1.out HB1.out).mono ?_
      rintro e w14 ⟨v14, rfl, ho14, hb⟩
      rw [HEX.out] at ho14
      obtain ⟨A14, c14, rfl⟩ := Kd.R_slice ho14
      refine ⟨_, rfl, ?_⟩
      have hS_ := below_step hHeld hb
      refine hK.out _ _ hS_ (fun hHeld => ?_)
      clear hK K
      refine norm_ (a' := ?_) ?_ ?_
      rotate_left
      · show Act.put _ (some 146) _ = _
        simp only [Act.put, List.setIfInBounds_toArray, List.set_cons_zero, List.set_cons_succ, i64_w, i32_w]
        rfl
      refine pure_ (i := 10) (N := some 147) (v := ?_) (a' := ?_) #[true, true, true, true, true, true, true, true, true, true, true, false, false, false, false, false, false, false, false, false, false, false] rfl rfl (any_of HT_.out (by kernel_rfl)) (fun _ _ _ h => h) (Or.inl ⟨by rfl, ?_⟩) ?_ ?_
      rotate_left
      · intro w'
        go_simp
        with_reducible rfl
      rotate_left
      · simp only [Act.put, List.setIfInBounds_toArray, List.set_cons_zero, List.set_cons_succ, i64_w, i32_w]
        rfl
      refine pure_ (i := 11) (N := some 148) (v := ?_) (a' := ?_) #[true, true, true, true, true, true, true, true, true, true, true, true, false, false, false, false, false, false, false, false, false, false] rfl rfl (any_of HT_.out (by kernel_rfl)) (fun _ _ _ h => h) (Or.inl ⟨by rfl, ?_⟩) ?_ ?_
      rotate_left
      · intro w'
        go_simp
        with_reducible rfl
      rotate_left
      · simp only [Act.put, List.setIfInBounds_toArray, List.set_cons_zero, List.set_cons_succ, i64_w, i32_w]
        rfl
      refine pure_ (i := 12) (N := some 149) (v := ?_) (a' := ?_) #[true, true, true, true, true, true, true, true, true, true, true, true, true, false, false, false, false, false, false, false, false, false] rfl rfl (any_of HT_.out (by kernel_rfl)) (fun _ _ _ h => h) (Or.inl ⟨by rfl, ?_⟩) ?_ ?_
      rotate_left
      · intro w'
        go_simp
        with_reducible rfl
      rotate_left
      · simp only [Act.put, List.setIfInBounds_toArray, List.set_cons_zero, List.set_cons_succ, i64_w, i32_w]
        rfl
      refine pure_ (i := 13) (N := some 150) (v := ?_) (a' := ?_) #[true, true, true, true, true, true, true, true, true, true, true, true, true, true, false, false, false, false, false, false, false, false] rfl rfl (any_of HT_.out (by kernel_rfl)) (fun _ _ _ h => h) (Or.inl ⟨by rfl, ?_⟩) ?_ ?_
      rotate_left
      · intro w'
        go_simp
        with_reducible rfl
      rotate_left
      · simp only [Act.put, List.setIfInBounds_toArray, List.set_cons_zero, List.set_cons_succ, i64_w, i32_w]
        rfl
      refine pure_ (i := 14) (N := some 151) (v := ?_) (a' := ?_) #[true, true, true, true, true, true, true, true, true, true, true, true, true, true, true, false, false, false, false, false, false, false] rfl rfl (any_of HT_.out (by kernel_rfl)) (fun _ _ _ h => h) (Or.inl ⟨by rfl, ?_⟩) ?_ ?_
      rotate_left
      · intro w'
        go_simp
        with_reducible rfl
      rotate_left
      · simp only [Act.put, List.setIfInBounds_toArray, List.set_cons_zero, List.set_cons_succ, i64_w, i32_w]
        rfl
      refine pure_ (i := 17) (N := some 154) (v := ?_) (a' := ?_) #[true, true, true, true, true, true, true, true, true, true, true, true, true, true, true, false, false, true, false, false, false, false] rfl rfl (any_of HT_.out (by kernel_rfl)) (fun _ _ _ h => h) (Or.inl ⟨by rfl, ?_⟩) ?_ ?_
      rotate_left
      · intro w'
        go_simp
        with_reducible rfl
      rotate_left
      · simp only [Act.put, List.setIfInBounds_toArray, List.set_cons_zero, List.set_cons_succ, i64_w, i32_w]
        rfl
      refine join_ (σ := Option Addr × Nat × Option Addr × Nat) 2 #[true, true, true, true, true, true, true, true, true, true, true, true, true, true, true, true, true, true, true, true, false, false] (fun s_ => [(152, .slice s_.1 X.length s_.2.1), (153, .string (strOfNums X)), (155, .slice s_.2.2.1 X.length s_.2.2.2), (156, .string (strOfNums X))]) (fun _ w' => Below w13.heap.size w13 w') ?_ ?_
      rotate_left
      · intro hCont
        refine one_ (i := 15) (N := some 152) #[true, true, true, true, true, true, true, true, true, true, true, true, true, true, true, true, false, true, false, false, false, false] rfl rfl (one_of HT_.out (by kernel_rfl)) (by decide) (fun K hK => ?_)
        refine goes_ Try.func19 (by kernel_rfl) rfl #[.pointer (some ⟨g3, 0, none⟩)] (by rfl) rfl rfl (by (try simp only [List.map_toArray, List.map_cons, List.map_nil]); first | done | rfl) ?_
        refine (V16.bytes_calls g3 q l1 _ (HV3.out.below hHeld) HQ.out HL1.out HB1.out).mono ?_
        rintro e w5 ⟨v5, rfl, ho5, hb⟩
        rw [HEX.out] at ho5
        obtain ⟨A5, c5, rfl⟩ := Kd.R_slice ho5
        refine ⟨_, rfl, ?_⟩
        have hS_ := below_step hHeld hb
        have hC5 := (Kd.R_reads' ho5).2.2
        (try replace hC6 := Kd.C_below hC6 hb)
        refine hK.out _ _ hS_ (fun hHeld => ?_)
        clear hK K
        refine norm_ (a' := ?_) ?_ ?_
        rotate_left
        · show Act.put _ (some 152) _ = _
          simp only [Act.put, List.setIfInBounds_toArray, List.set_cons_zero, List.set_cons_succ, i64_w, i32_w]
          rfl
        refine two_ (i := 16) (j := 18) (Ni := some 153) (Nj := some 155) #[true, true, true, true, true, true, true, true, true, true, true, true, true, true, true, true, true, true, false, false, false, false] #[true, true, true, true, true, true, true, true, true, true, true, true, true, true, true, true, false, true, true, false, false, false] rfl rfl rfl rfl (two_of HT_.out (by kernel_rfl)) (by decide) (by decide) (fun K hK => ?_) (fun K hK => ?_)
        · skip
          have hcv := Kd.C_string (P := Try.prog) (A := A5) (c := c5) Try.underlying23 Try.underlying5 Try.underlying9 hC5
          refine value_ (w1 := ?_) (v := ?_) (by rfl) rfl ?_ ?_
          rotate_left 2
          · go_simp
            constructor
            · rfl
            · rfl
          clear hcv
          have hS_ := hHeld
          refine hK.out _ _ hS_ (fun hHeld => ?_)
          clear hK K
          refine norm_ (a' := ?_) ?_ ?_
          rotate_left
          · show Act.put _ (some 153) _ = _
            simp only [Act.put, List.setIfInBounds_toArray, List.set_cons_zero, List.set_cons_succ, i64_w, i32_w]
            rfl
          refine one_ (i := 18) (N := some 155) #[true, true, true, true, true, true, true, true, true, true, true, true, true, true, true, true, true, true, true, false, false, false] rfl rfl (one_of HT_.out (by kernel_rfl)) (by decide) (fun K hK => ?_)
          refine goes_ Try.func19 (by kernel_rfl) rfl #[.pointer (some ⟨g, 0, none⟩)] (by rfl) rfl rfl (by (try simp only [List.map_toArray, List.map_cons, List.map_nil]); first | done | rfl) ?_
          refine (V16.bytes_calls g q l1 _ ((HV.out.below HB3.out).below hHeld) HQ.out HL1.out HB1.out).mono ?_
          rintro e w6 ⟨v6, rfl, ho6, hb⟩
          rw [HEX.out] at ho6
          obtain ⟨A6, c6, rfl⟩ := Kd.R_slice ho6
          refine ⟨_, rfl, ?_⟩
          have hS_ := below_step hHeld hb
          have hC6 := (Kd.R_reads' ho6).2.2
          (try replace hC5 := Kd.C_below hC5 hb)
          refine hK.out _ _ hS_ (fun hHeld => ?_)
          clear hK K
          refine norm_ (a' := ?_) ?_ ?_
          rotate_left
          · show Act.put _ (some 155) _ = _
            simp only [Act.put, List.setIfInBounds_toArray, List.set_cons_zero, List.set_cons_succ, i64_w, i32_w]
            rfl
          refine one_ (i := 19) (N := some 156) #[true, true, true, true, true, true, true, true, true, true, true, true, true, true, true, true, true, true, true, true, false, false] rfl rfl (one_of HT_.out (by kernel_rfl)) (by decide) (fun K hK => ?_)
          have hcv := Kd.C_string (P := Try.prog) (A := A6) (c := c6) Try.underlying23 Try.underlying5 Try.underlying9 hC6
          refine value_ (w1 := ?_) (v := ?_) (by rfl) rfl ?_ ?_
          rotate_left 2
          · go_simp
            constructor
            · rfl
            · rfl
          clear hcv
          have hS_ := hHeld
          refine hK.out _ _ hS_ (fun hHeld => ?_)
          clear hK K
          refine norm_ (a' := ?_) ?_ ?_
          rotate_left
          · show Act.put _ (some 156) _ = _
            simp only [Act.put, List.setIfInBounds_toArray, List.set_cons_zero, List.set_cons_succ, i64_w, i32_w]
            rfl
          exact norm_ (by simp only [putAll, Act.put, List.setIfInBounds_toArray, List.set_cons_zero, List.set_cons_succ] <;> rfl) (hCont (A5, c5, A6, c6) _ hHeld)
        · skip
          refine goes_ Try.func19 (by kernel_rfl) rfl #[.pointer (some ⟨g, 0, none⟩)] (by rfl) rfl rfl (by (try simp only [List.map_toArray, List.map_cons, List.map_nil]); first | done | rfl) ?_
          refine (V16.bytes_calls g q l1 _ ((HV.out.below HB3.out).below hHeld) HQ.out HL1.out HB1.out).mono ?_
          rintro e w6 ⟨v6, rfl, ho6, hb⟩
          rw [HEX.out] at ho6
          obtain ⟨A6, c6, rfl⟩ := Kd.R_slice ho6
          refine ⟨_, rfl, ?_⟩
          have hS_ := below_step hHeld hb
          have hC6 := (Kd.R_reads' ho6).2.2
          (try replace hC5 := Kd.C_below hC5 hb)
          refine hK.out _ _ hS_ (fun hHeld => ?_)
          clear hK K
          refine norm_ (a' := ?_) ?_ ?_
          rotate_left
          · show Act.put _ (some 155) _ = _
            simp only [Act.put, List.setIfInBounds_toArray, List.set_cons_zero, List.set_cons_succ, i64_w, i32_w]
            rfl
          refine two_ (i := 16) (j := 19) (Ni := some 153) (Nj := some 156) #[true, true, true, true, true, true, true, true, true, true, true, true, true, true, true, true, true, true, true, false, false, false] #[true, true, true, true, true, true, true, true, true, true, true, true, true, true, true, true, false, true, true, true, false, false] rfl rfl rfl rfl (two_of HT_.out (by kernel_rfl)) (by decide) (by decide) (fun K hK => ?_) (fun K hK => ?_)
          · skip
            have hcv := Kd.C_string (P := Try.prog) (A := A5) (c := c5) Try.underlying23 Try.underlying5 Try.underlying9 hC5
            refine value_ (w1 := ?_) (v := ?_) (by rfl) rfl ?_ ?_
            rotate_left 2
            · go_simp
              constructor
              · rfl
              · rfl
            clear hcv
            have hS_ := hHeld
            refine hK.out _ _ hS_ (fun hHeld => ?_)
            clear hK K
            refine norm_ (a' := ?_) ?_ ?_
            rotate_left
            · show Act.put _ (some 153) _ = _
              simp only [Act.put, List.setIfInBounds_toArray, List.set_cons_zero, List.set_cons_succ, i64_w, i32_w]
              rfl
            refine one_ (i := 19) (N := some 156) #[true, true, true, true, true, true, true, true, true, true, true, true, true, true, true, true, true, true, true, true, false, false] rfl rfl (one_of HT_.out (by kernel_rfl)) (by decide) (fun K hK => ?_)
            have hcv := Kd.C_string (P := Try.prog) (A := A6) (c := c6) Try.underlying23 Try.underlying5 Try.underlying9 hC6
            refine value_ (w1 := ?_) (v := ?_) (by rfl) rfl ?_ ?_
            rotate_left 2
            · go_simp
              constructor
              · rfl
              · rfl
            clear hcv
            have hS_ := hHeld
            refine hK.out _ _ hS_ (fun hHeld => ?_)
            clear hK K
            refine norm_ (a' := ?_) ?_ ?_
            rotate_left
            · show Act.put _ (some 156) _ = _
              simp only [Act.put, List.setIfInBounds_toArray, List.set_cons_zero, List.set_cons_succ, i64_w, i32_w]
              rfl
            exact norm_ (by simp only [putAll, Act.put, List.setIfInBounds_toArray, List.set_cons_zero, List.set_cons_succ] <;> rfl) (hCont (A5, c5, A6, c6) _ hHeld)
          · skip
            have hcv := Kd.C_string (P := Try.prog) (A := A6) (c := c6) Try.underlying23 Try.underlying5 Try.underlying9 hC6
            refine value_ (w1 := ?_) (v := ?_) (by rfl) rfl ?_ ?_
            rotate_left 2
            · go_simp
              constructor
              · rfl
              · rfl
            clear hcv
            have hS_ := hHeld
            refine hK.out _ _ hS_ (fun hHeld => ?_)
            clear hK K
            refine norm_ (a' := ?_) ?_ ?_
            rotate_left
            · show Act.put _ (some 156) _ = _
              simp only [Act.put, List.setIfInBounds_toArray, List.set_cons_zero, List.set_cons_succ, i64_w, i32_w]
              rfl
            refine one_ (i := 16) (N := some 153) #[true, true, true, true, true, true, true, true, true, true, true, true, true, true, true, true, true, true, true, true, false, false] rfl rfl (one_of HT_.out (by kernel_rfl)) (by decide) (fun K hK => ?_)
            have hcv := Kd.C_string (P := Try.prog) (A := A5) (c := c5) Try.underlying23 Try.underlying5 Try.underlying9 hC5
            refine value_ (w1 := ?_) (v := ?_) (by rfl) rfl ?_ ?_
            rotate_left 2
            · go_simp
              constructor
              · rfl
              · rfl
            clear hcv
            have hS_ := hHeld
            refine hK.out _ _ hS_ (fun hHeld => ?_)
            clear hK K
            refine norm_ (a' := ?_) ?_ ?_
            rotate_left
            · show Act.put _ (some 153) _ = _
              simp only [Act.put, List.setIfInBounds_toArray, List.set_cons_zero, List.set_cons_succ, i64_w, i32_w]
              rfl
            exact norm_ (by simp only [putAll, Act.put, List.setIfInBounds_toArray, List.set_cons_zero, List.set_cons_succ] <;> rfl) (hCont (A5, c5, A6, c6) _ hHeld)
      rintro ⟨A5, c5, A6, c6⟩ w14 hHeld
      refine norm_ (a' := ?_) ?_ ?_
      rotate_left
      · simp only [putAll, Act.put, List.setIfInBounds_toArray, List.set_cons_zero, List.set_cons_succ, i64_w, i32_w]
        rfl
      refine pure_ (i := 20) (N := some 157) (v := ?_) (a' := ?_) #[true, true, true, true, true, true, true, true, true, true, true, true, true, true, true, true, true, true, true, true, true, false] rfl rfl (any_of HT_.out (by kernel_rfl)) (fun _ _ _ h => h) (Or.inl ⟨by rfl, ?_⟩) ?_ ?_
      rotate_left
      · intro w'
        go_simp
        with_reducible rfl
      rotate_left
      · simp only [Act.put, List.setIfInBounds_toArray, List.set_cons_zero, List.set_cons_succ, i64_w, i32_w]
        rfl
      refine pure_ (i := 21) (N := some 158) (v := ?_) (a' := ?_) #[true, true, true, true, true, true, true, true, true, true, true, true, true, true, true, true, true, true, true, true, true, true] rfl rfl (any_of HT_.out (by kernel_rfl)) (fun _ _ _ h => h) (Or.inl ⟨by rfl, ?_⟩) ?_ ?_
      rotate_left
      · intro w'
        go_simp
        with_reducible rfl
      rotate_left
      · simp only [Act.put, List.setIfInBounds_toArray, List.set_cons_zero, List.set_cons_succ, i64_w, i32_w]
        rfl
      refine done_ (done_of HT_.out (by kernel_rfl)) ?_
      go_wp2
      go_meet
      exact ⟨below_step HB3.out hHeld⟩
    · have h0b : (ne != 0) = true := bne_iff_ne.mpr h0
      obtain rfl := HP0.out h0
      go_wp2
      go_meet
      exact ⟨Below.refl _ _⟩
  case rest =>
    have n1_ := Aside0.mk (below_step HB.out hcut.out)
    have n2_ := Aside0.mk (And.intro HW.out.1 (Kd.C_below HW.out.2 hcut.out))
    clear HB HW hcut HP HP0 HMIN HMIN2 HPACK
    have HB := n1_
    have HW := n2_
    clear n1_ n2_
    by_cases hre : re = 0
    · subst hre
      have hgd := HGOOD.out _ _ _ HRD.out
      have HRB := Aside0.mk (show ∀ x ∈ rx, 0 ≤ x ∧ x < 65536 from fun x hx => by have h := hgd.2 x hx; omega)
      have HRL := Aside0.mk hgd.1
      have HTX := Aside0.mk (show rx.take (200000 : Int).toNat = rx from List.take_of_length_le (by have := hgd.1; omega))
      have HSX := Aside0.mk (same_f rx (by have := hgd.1; omega))
      clear hgd
      go_wp2_with (first | (go_at_call 26; refine (V16.read_good A3 c3 l3 _ (Kd.C_below HR3.out HB.out) hc3 HIB.out (by have := HN3.out; omega) ra rx rn HRD.out).mono ?_; rintro e w4 ⟨g, rfl, hV, hb⟩; have HV := Aside0.mk hV; have n2_ := Aside0.mk (And.intro HW.out.1 (Kd.C_below HW.out.2 hb)); clear HW hV; have HW := n2_; clear n2_; have n1_ := Aside0.mk (below_step HB.out hb); clear HB hb; have HB := n1_; clear n1_; have hcv := Kd.C_string (P := Try.prog) (A := A3) (c := c3) Try.underlying23 Try.underlying5 Try.underlying9 (Kd.C_below HR3.out HB.out)) | (go_at_call 39; refine (concordanceref6_Read.calls _ _ _ _ _ _ _ _ HREF.out).mono ?_; rintro e w5 ⟨v5, rfl, ho, hb⟩; obtain ⟨AY, cY, rfl⟩ := Kd.R_slice ho; have HY := Aside0.mk (Kd.R_reads' ho).2; have n2_ := Aside0.mk (And.intro HW.out.1 (Kd.C_below HW.out.2 hb)); (try (have n3_ := Aside0.mk (HV.out.below hb); clear HV; have HV := n3_; clear n3_)); clear HW ho hcv; have HW := n2_; clear n2_; have n1_ := Aside0.mk (below_step HB.out hb); clear HB hb; have HB := n1_; clear n1_) | (go_at_call 15; refine (packed_Width_uint16.calls _ _ _ _ _ _ (Kd.C_below HR1.out HB.out) hc1 HWF.out).mono ?_; rintro e w6 ⟨rfl, hb⟩; have n2_ := Aside0.mk (And.intro HW.out.1 (Kd.C_below HW.out.2 hb)); (try (have n3_ := Aside0.mk (HV.out.below hb); clear HV; have HV := n3_; clear n3_)); have n4_ := Aside0.mk (And.intro HY.out.1 (Kd.C_below HY.out.2 hb)); clear HW HY; have HW := n2_; have HY := n4_; clear n2_ n4_; have n1_ := Aside0.mk (below_step HB.out hb); clear HB hb; have HB := n1_; clear n1_) | (go_at_call 40; refine (concordanceref6_Width.calls _ AW cW l1 _ _ HW.out.2 HW.out.1 HRW.out).mono ?_; rintro e w7 ⟨rfl, hd⟩; have hb := hd.below; have n2_ := Aside0.mk (And.intro HW.out.1 (Kd.C_below HW.out.2 hb)); (try (have n3_ := Aside0.mk (HV.out.below hb); clear HV; have HV := n3_; clear n3_)); have n4_ := Aside0.mk (And.intro HY.out.1 (Kd.C_below HY.out.2 hb)); clear HW HY hd; have HW := n2_; have HY := n4_; clear n2_ n4_; have n1_ := Aside0.mk (below_step HB.out hb); clear HB hb; have HB := n1_; clear n1_) | (go_at_call 58; refine (V16.all_calls g ra rx 200000 _ HV.out HRL.out HRB.out (by decide)).mono ?_; rintro e w8 ⟨v8, rfl, ho, hb⟩; rw [HTX.out] at ho; obtain ⟨A8, c8, rfl⟩ := Kd.R_slice ho; have H8 := Aside0.mk (Kd.R_reads' ho).2; have n3_ := Aside0.mk (HV.out.below hb); have n4_ := Aside0.mk (And.intro HY.out.1 (Kd.C_below HY.out.2 hb)); clear HV HY ho; have HV := n3_; have HY := n4_; clear n3_ n4_; have n1_ := Aside0.mk (below_step HB.out hb); clear HB hb; have HB := n1_; clear n1_) | (go_at_call 38; refine (concordancelaw6_same.calls _ A8 c8 rx AY cY rx true _ H8.out.2 H8.out.1 HY.out.2 HY.out.1 HSX.out).mono ?_; rintro e w9 ⟨rfl, hd⟩; have hb := hd.below; have n3_ := Aside0.mk (HV.out.below hb); clear HV hd; have HV := n3_; clear n3_; have n1_ := Aside0.mk (below_step HB.out hb); clear HB hb; have HB := n1_; clear n1_) | (go_at_call 57; refine (V16.wid_calls g ra rx _ HV.out).mono ?_; rintro e w10 ⟨rfl, rfl⟩))
      go_ret
      exact ⟨rfl, HB.out⟩
    · have h0b : (re == 0) = false := beq_eq_false_iff_ne.mpr hre
      obtain rfl := readF_bad HRD.out hre
      go_wp2_with (first | (go_at_call 26; refine (V16.read_bad A3 c3 l3 _ (Kd.C_below HR3.out HB.out) hc3 HIB.out (by have := HN3.out; omega) ra rx 0 re HRD.out hre).mono ?_; rintro e w4 ⟨rfl, hb⟩; have n2_ := Aside0.mk (And.intro HW.out.1 (Kd.C_below HW.out.2 hb)); clear HW; have HW := n2_; clear n2_; have n1_ := Aside0.mk (below_step HB.out hb); clear HB hb; have HB := n1_; clear n1_; have hcv := Kd.C_string (P := Try.prog) (A := A3) (c := c3) Try.underlying23 Try.underlying5 Try.underlying9 (Kd.C_below HR3.out HB.out)) | (go_at_call 39; refine (concordanceref6_Read.calls _ _ _ _ _ _ _ _ HREF.out).mono ?_; rintro e w5 ⟨v5, rfl, ho, hb⟩; obtain ⟨AY, cY, rfl⟩ := Kd.R_slice ho; have HY := Aside0.mk (Kd.R_reads' ho).2; have n2_ := Aside0.mk (And.intro HW.out.1 (Kd.C_below HW.out.2 hb)); (try (have n3_ := Aside0.mk (HV.out.below hb); clear HV; have HV := n3_; clear n3_)); clear HW ho hcv; have HW := n2_; clear n2_; have n1_ := Aside0.mk (below_step HB.out hb); clear HB hb; have HB := n1_; clear n1_) | (go_at_call 15; refine (packed_Width_uint16.calls _ _ _ _ _ _ (Kd.C_below HR1.out HB.out) hc1 HWF.out).mono ?_; rintro e w6 ⟨rfl, hb⟩; have n2_ := Aside0.mk (And.intro HW.out.1 (Kd.C_below HW.out.2 hb)); (try (have n3_ := Aside0.mk (HV.out.below hb); clear HV; have HV := n3_; clear n3_)); have n4_ := Aside0.mk (And.intro HY.out.1 (Kd.C_below HY.out.2 hb)); clear HW HY; have HW := n2_; have HY := n4_; clear n2_ n4_; have n1_ := Aside0.mk (below_step HB.out hb); clear HB hb; have HB := n1_; clear n1_) | (go_at_call 40; refine (concordanceref6_Width.calls _ AW cW l1 _ _ HW.out.2 HW.out.1 HRW.out).mono ?_; rintro e w7 ⟨rfl, hd⟩; have hb := hd.below; have n2_ := Aside0.mk (And.intro HW.out.1 (Kd.C_below HW.out.2 hb)); (try (have n3_ := Aside0.mk (HV.out.below hb); clear HV; have HV := n3_; clear n3_)); have n4_ := Aside0.mk (And.intro HY.out.1 (Kd.C_below HY.out.2 hb)); clear HW HY hd; have HW := n2_; have HY := n4_; clear n2_ n4_; have n1_ := Aside0.mk (below_step HB.out hb); clear HB hb; have HB := n1_; clear n1_))
      go_ret
      exact ⟨rfl, HB.out⟩
end Go.Proofs.Ytolncaccemfbdaa.V16

/- Printed by a program of this session (drv.py) from the translation of this seat: functions, their contracts, rows. -/
namespace Go.Proofs.Ytolncaccemfbdaa.PPk
open Go.RowKit Go.Proofs.YtolncaccemfbdaaW.PrintWords Go.Proofs.YtolncaccemfbdaaW.PrintLast Go.Proofs.YtolncaccemfbdaaW.PrintMore
attribute [local go_sem] max2_int min2_int max_two min_two max_three min_three max_four min_four   -- for this text's walks alone
set_option linter.unusedVariables false
set_option linter.unusedSimpArgs false

/-! ### concordancelaw6_own_18: function 18 -/
def concordancelaw6_own_18.l0 : Nat → Int → List Int → Int → Int → Option (Int)
  | 0, _, _, _, _ => none
  | k + 1, x3, x6, x7, x8 => if x8 < x7 then (if 0 ≤ x8 then (if x8 < (x6.length : Int) then ((bits_Len64.f (IntKind.u64.wrap (rd x6 x8))).bind fun t169 => (concordancelaw6_own_18.l0 k (mx x3 t169) x6 x7 (wrap64 (x8 + 1)))) else (none)) else (none)) else (some x3)
def concordancelaw6_own_18.f (k : Nat) (l0 : List Int) : Option (Int) := concordancelaw6_own_18.l0 k 0 l0 (l0.length : Int) 0
theorem concordancelaw6_own_18.mono_l : ∀ k, (∀ y0 y1 y2 y3, LeO (concordancelaw6_own_18.l0 k y0 y1 y2 y3) (concordancelaw6_own_18.l0 (k + 1) y0 y1 y2 y3))
  | 0 => fun _ _ _ _ r h => by simp [concordancelaw6_own_18.l0] at h
  | k + 1 => by
    have ih0 := concordancelaw6_own_18.mono_l k
    · intro y0 y1 y2 y3
      unfold concordancelaw6_own_18.l0
      repeat' first
      | (with_reducible exact ih0 _ _ _ _)
      | (with_reducible exact LeO.refl _)
      | (with_reducible exact LeO.none _)
      | (with_reducible refine LeO.ite ?_ ?_)
      | (with_reducible refine LeO.bind ?_ (fun _ => ?_))
      | exact ih0 _ _ _ _
      | exact LeO.none _
      | refine LeO.ite ?_ ?_
      | refine LeO.bind ?_ (fun _ => ?_)
theorem concordancelaw6_own_18.mono : ∀ a0 k, LeO (concordancelaw6_own_18.f k a0) (concordancelaw6_own_18.f (k + 1) a0) := by
  intro a0 k
  have ih0 := concordancelaw6_own_18.mono_l k
  unfold concordancelaw6_own_18.f
  repeat' first
      | (with_reducible exact ih0 _ _ _ _)
      | (with_reducible exact LeO.refl _)
      | (with_reducible exact LeO.none _)
      | (with_reducible refine LeO.ite ?_ ?_)
      | (with_reducible refine LeO.bind ?_ (fun _ => ?_))
      | exact ih0 _ _ _ _
      | exact LeO.none _
      | refine LeO.ite ?_ ?_
      | refine LeO.bind ?_ (fun _ => ?_)
set_option maxHeartbeats 8000000 in
set_option maxRecDepth 100000 in
theorem concordancelaw6_own_18.calls (k : Nat) (A0 : Option Addr) (c0 : Nat) (l0 : List Int) (r : Int) (w : World) (hr0 : Kd.C (Kd.int .u16) w A0 l0.length l0) (hc0 : l0.length ≤ c0) (h : concordancelaw6_own_18.f k l0 = some r) :
    Calls Try.prog 18 #[.slice A0 l0.length c0] w fun e w' => e = .returned (.int .i64 r) ∧ Below w.heap.size w w' := by
  have HR0 := Aside0.mk hr0
  have HC0 := Aside0.mk hc0
  clear hr0 hc0
  have HB := Aside0.mk (Below.refl w.heap.size w)
  have H : (concordancelaw6_own_18.l0 k 0 l0 (l0.length : Int) 0) = some r := h
  clear h
  have H' := Aside0.mk H
  clear H
  go_enter Try.func18, Try.ntmps18
  go_wp2
  go_loopg [3, 8] k (fun kq v3 v8 w' => ∃ (x3_1 : Int) (x8_1 : Int), v3 = .int .i64 x3_1 ∧ v8 = .int .i64 x8_1 ∧ Aside0 (concordancelaw6_own_18.l0 kq x3_1 l0 (l0.length : Int) x8_1 = some r) ∧ Aside0 (kq ≤ k) ∧ Aside0 (Below w.heap.size w w'))
  case atStart => exact ⟨(0), (0), (by first | rfl | (simp; done) | (simp [*]; done)), (by first | rfl | (simp; done) | (simp [*]; done)), H', ⟨Nat.le_refl _⟩, ⟨by repeat (first | (with_reducible first | exact HB.out | apply below_alloc | apply pw_below_drewN | apply below_drew1) | exact HB.out)⟩⟩
  case round =>
    clear H'
    try clear c1
    obtain ⟨x3_1, x8_1, rfl, rfl, HA, HK1, HB⟩ := hrel
    cases gk with
    | zero => exact absurd HA.out (by simp [concordancelaw6_own_18.l0])
    | succ k1 =>
      have H := HA.out
      clear HA
      simp only [concordancelaw6_own_18.l0] at H
      by_cases c2 : x8_1 < (l0.length : Int)
      · rw [if_pos c2] at H
        have c2b0 : decide (x8_1 < (l0.length : Int)) = true := decide_eq_true c2
        clear c2
        by_cases c3 : 0 ≤ x8_1
        · rw [if_pos c3] at H
          have c3b0 : decide (0 ≤ x8_1) = true := decide_eq_true c3
          clear c3
          by_cases c4 : x8_1 < (l0.length : Int)
          · rw [if_pos c4] at H
            have c4b0 : decide (x8_1 < (l0.length : Int)) = true := decide_eq_true c4
            clear c4
            replace H := Option.bind_eq_some_iff.mp H
            obtain ⟨t169, A50, H⟩ := H
            replace H : (concordancelaw6_own_18.l0 k1 (mx x3_1 t169) l0 (l0.length : Int) (wrap64 (x8_1 + 1))) = some r := H
            have A5 := Aside0.mk A50
            clear A50
            obtain ⟨ji6, hji6⟩ : ∃ j_ : Int, (mx x3_1 t169) = j_ := ⟨_, rfl⟩
            replace H : (concordancelaw6_own_18.l0 k1 ji6 l0 (l0.length : Int) (wrap64 (x8_1 + 1))) = some r := by first | (rw [hji6] at H; exact H) | (simp only [hji6] at H ⊢; exact H)
            (try rw [hji6] at A5)
            have hji6_ : (if x3_1 < t169 then t169 else x3_1) = ji6 := hji6
            have H' := Aside0.mk H
            clear H
            have p168 : 0 ≤ (x8_1 : Int) := of_decide_eq_true (by first | (with_reducible assumption) | assumption)
            have q168 : x8_1 < (l0.length : Int) := of_decide_eq_true (by first | (with_reducible assumption) | assumption)
            obtain ⟨ad168, e168, hx168_0⟩ := Kd.at_int HR0.out x8_1 p168 q168
            cases e168
            replace hx168_0 := (HB.out.cell (World.block_lt_of_cell? w _ hx168_0)).trans hx168_0
            replace p168 := eq_true p168
            replace q168 := eq_true q168
            go_wp2_with (first | ((with_reducible refine gate_callee (f := 47) rfl ?_); refine goesL_ (some 15) rfl rfl Try.func47 (by kernel_rfl) rfl #[.int .u64 (IntKind.u64.wrap (rd l0 x8_1))] rfl (by (try simp only [List.map_toArray, List.map_cons, List.map_nil]); first | done | rfl | (simp only [List.length_drop, List.length_take]; rfl)) ?_; (with_reducible refine (bits_Len64.calls (IntKind.u64.wrap (rd l0 x8_1)) t169 _ A5.out).mono ?_); rintro e w' ⟨rfl, ⟨nd, rfl⟩⟩; refine ⟨_, rfl, ?_⟩))
            go_roundg k1
            case measure => have := HK1.out; omega
            case rel => exact ⟨(ji6), (wrap64 (x8_1 + 1)), (by first | rfl | (simp; done) | (simp only [← hji6] <;> (first | rfl | simp)) | (simp [*]; done)), (by first | rfl | (simp; done) | (simp [*]; done)), H', ⟨by have := HK1.out; omega⟩, ⟨by repeat (first | (with_reducible first | exact HB.out | apply below_alloc | apply pw_below_drewN | apply below_drew1) | exact HB.out)⟩⟩
          · rw [if_neg c4] at H
            exact absurd H (by simp)
        · rw [if_neg c3] at H
          exact absurd H (by simp)
      · rw [if_neg c2] at H
        have c2b0 : decide (x8_1 < (l0.length : Int)) = false := decide_eq_false c2
        clear c2
        obtain rfl := Option.some.inj H
        go_wp2
        go_ret
        exact ⟨by first | rfl | (simp [errW_none, errW_some] <;> rfl) | (simp [*, errW_none, errW_some] <;> rfl), by repeat (first | (with_reducible first | exact HB.out | apply below_alloc | apply pw_below_drewN | apply below_drew1) | exact HB.out)⟩

end Go.Proofs.Ytolncaccemfbdaa.PPk

/- Packed numbers of the type concordance/concordancelaw6.own: what Width, New, Get, Len tell. -/
namespace Go.Proofs.Ytolncaccemfbdaa.Vow
open Go.RowKit Go.Proofs.YtolncaccemfbdaaW.PrintWords Go.Proofs.YtolncaccemfbdaaW.PrintLast Go.Proofs.YtolncaccemfbdaaW.PrintMore
open Go.Proofs.Ytolncaccemfbdaa.Plain Go.Proofs.Ytolncaccemfbdaa.PPk Go.Proofs.Ytolncaccemfbdaa.Hand
set_option linter.unusedVariables false
set_option linter.unusedSimpArgs false
theorem width_go (l : List Int) (hb : ∀ x ∈ l, 0 ≤ x ∧ x < 65536) (hl : l.length ≤ 1000000) : ∀ (d k i : Nat), l.length - i = d → d < k → i ≤ l.length → concordancelaw6_own_18.l0 k (widthL (l.take i) : Int) l (l.length : Int) (i : Int) = some (widthL l : Int) := by
  intro d
  induction d with
  | zero =>
    intro k i hd hk hi
    obtain ⟨k, rfl⟩ : ∃ m, k = m + 1 := ⟨k - 1, by omega⟩
    rw [concordancelaw6_own_18.l0, if_neg (by omega), show i = l.length from by omega, List.take_length]
  | succ d ih =>
    intro k i hd hk hi
    obtain ⟨k, rfl⟩ : ∃ m, k = m + 1 := ⟨k - 1, by omega⟩
    have hlt : i < l.length := by omega
    have hx := hb _ (List.getElem_mem hlt)
    have hf : bits_Len64.f (IntKind.u64.wrap (rd l (i : Int))) = some (Lib.bitLen (l[i]).toNat : Int) := by
      rw [rd_at l i hlt]
      rw [wrap_u64, Int.emod_eq_of_lt hx.1 (by omega)]
      unfold bits_Len64.f len64F
      rw [if_pos (by omega)]
    rw [concordancelaw6_own_18.l0, if_pos (by omega), if_pos (by omega), if_pos (by omega), hf, Option.bind_some, mx_cast, w64 (by omega) (by omega)]
    have e : max (widthL (l.take i)) (Lib.bitLen (l[i]).toNat) = widthL (l.take (i + 1)) := by
      rw [List.take_succ_eq_append_getElem hlt, widthL_snoc]
    rw [e, show (i : Int) + 1 = ((i + 1 : Nat) : Int) from by omega]
    exact ih k (i + 1) (by omega) (by omega) (by omega)
theorem width_f (l : List Int) (hb : ∀ x ∈ l, 0 ≤ x ∧ x < 65536) (hl : l.length ≤ 1000000) : concordancelaw6_own_18.f (l.length + 1) l = some (widthL l : Int) := by
  have := width_go l hb hl l.length (l.length + 1) 0 (by omega) (by omega) (by omega)
  rw [List.take_zero, show (widthL [] : Int) = 0 from rfl] at this
  exact this

theorem hinfo : (Try.prog.info? 41).map (fun i => (i.zero, i.size, i.bytes)) = some (some (.int .u16 0), 1, 2) := by kernel_rfl
set_option maxHeartbeats 800000 in
set_option maxRecDepth 100000 in
theorem clone_calls (A0 : Option Addr) (c0 : Nat) (l0 : List Int) (w : World) (hr0 : Kd.C (Kd.int .u16) w A0 l0.length l0) (hl : l0.length ≤ 1000000) :
    Calls Try.prog 50 #[.slice A0 l0.length c0] w fun e w' => ∃ v0_ : Value, e = .returned v0_ ∧ Kd.R (Kd.int .u16) 41 w' w.heap.size (fun _ => True) v0_ l0 ∧ Below w.heap.size w w' := by
  cases A0 with
  | none =>
    have h0 := C_none hr0
    obtain rfl : l0 = [] := List.eq_nil_of_length_eq_zero h0
    clear h0
    have hnil := fun W => Lib.run_eql_slice_nil (P := Try.prog) W 39 41 none 0 c0 0 0 Try.underlying39
    go_enter Try.func50, Try.ntmps50
    go_wp2
    go_ret
    exact ⟨_, rfl, Kd.R_nil _ _ _ _ _, Below.refl _ _⟩
  | some ad =>
    have hnil := fun W => Lib.run_eql_slice_nil (P := Try.prog) W 39 41 (some ad) l0.length c0 0 0 Try.underlying39
    have HR0 := Aside0.mk hr0
    have HL := Aside0.mk hl
    have HB := Aside0.mk (Below.refl w.heap.size w)
    clear hr0 hl
    go_enter Try.func50, Try.ntmps50
    go_wp2_with (first | ((with_reducible refine gate_dst (N := 5) rfl ?_); refine Kd.R_lit (Kd.int .u16) _ 41 ?hg (N := 5) ?hd (xs := ([] : List Int)) (inner := []) (ok := fun _ => True) (okp := fun _ => True) ?hr ?hp (fun _ hk => hk) trivial (Below.refl _ _) (Nat.le_refl _) (by simp) ?_; (case hd => rfl); (case hg => rfl); (case hr => first | (go_simp; done) | (go_simp; rfl)); (case hp => exact Reps.none _ _); intro v1 w1 ho hb hg_ hnew_; clear hg_ hnew_; have HO := Aside0.mk ho; clear HB; have HB := Aside0.mk hb; clear ho hb) | ((with_reducible refine gate_builtin (b := .append) (xs := #[.tmp 5, .tmp 6]) rfl ?_); at_builtin; refine Kd.R_append_rows (Kd.int .u16) (w0 := w) w.heap.size rfl (.tmp 5) (.tmp 6) 39 41 (.int .u16 0) 2 rfl Try.underlying39 hinfo rfl (by decide) (by omega) v1 [] l0 _ _ _ (fun _ => True) (fun _ => False) rfl rfl ?aO ?aR (fun _ _ h => h) (fun _ h => h.elim) ?aF ?aB ?aS ?aL ?_; (case aR => exact (Kd.C_below HR0.out HB.out)); (case aB => exact HB.out); (case aF => exact (fun _ _ => trivial)); (case aO => exact HO.out); (case aS => exact (below_size HB.out)); (case aL => have := HL.out; simp only [List.length_nil]; omega); intro v2 w2 ho hb hg hat; clear HB HO; have HO := Aside0.mk ho; have HB := Aside0.mk hb; clear ho hb hg hat))
    go_ret
    exact ⟨_, rfl, HO.out, HB.out⟩
set_option maxHeartbeats 800000 in
set_option maxRecDepth 100000 in
theorem new_bad (a0 : Int) (A1 : Option Addr) (c1 : Nat) (l1 : List Int) (w : World) (hr1 : Kd.C (Kd.int .u16) w A1 l1.length l1) (hc1 : l1.length ≤ c1) (hb : ∀ x ∈ l1, 0 ≤ x ∧ x < 65536) (hl : l1.length ≤ 1000000) (r : Int) (h : newE a0 l1 = r) (h0 : r ≠ 0) :
    Calls Try.prog 17 #[.int .i64 a0, .slice A1 l1.length c1] w fun e w' => e = .returned (.tuple #[.pointer none, .int .i64 r]) ∧ Below w.heap.size w w' := by
  have HWF := Aside0.mk (width_f l1 hb hl)
  have HR1 := Aside0.mk hr1
  have HB := Aside0.mk (Below.refl w.heap.size w)
  clear hr1 hb hl
  unfold newE at h
  obtain ⟨m, em⟩ : ∃ m, widthL l1 = m := ⟨_, rfl⟩
  rw [em] at HWF h
  by_cases k1 : a0 < 0
  · have d1 : decide (a0 < 0) = true := decide_eq_true k1
    rw [if_pos (.inl k1)] at h
    subst h
    clear h0 em
    go_enter Try.func17, Try.ntmps17
    go_wp2
    refine bodyPost_ret (results_list (rs := [.tmp 4, .tmp 5]) rfl (by simp) (.tmp (.tmp .nil))) rfl ?_
    exact ⟨rfl, HB.out⟩
  have d1 : decide (a0 < 0) = false := decide_eq_false k1
  by_cases k2 : 64 < a0
  · have d2 : decide (64 < a0) = true := decide_eq_true k2
    rw [if_pos (.inr (.inl k2))] at h
    subst h
    clear h0 em
    go_enter Try.func17, Try.ntmps17
    go_wp2
    refine bodyPost_ret (results_list (rs := [.tmp 4, .tmp 5]) rfl (by simp) (.tmp (.tmp .nil))) rfl ?_
    exact ⟨rfl, HB.out⟩
  have d2 : decide (64 < a0) = false := decide_eq_false k2
  by_cases k3 : a0 < (m : Int)
  · have d3 : decide (a0 < (m : Int)) = true := decide_eq_true k3
    rw [if_pos (.inr (.inr k3))] at h
    subst h
    clear h0 em
    go_enter Try.func17, Try.ntmps17
    go_wp2_with (first | (go_at_call 18; refine (concordancelaw6_own_18.calls _ _ _ _ _ _ (Kd.C_below HR1.out HB.out) hc1 HWF.out).mono ?_; rintro e w1 ⟨rfl, hb⟩; have n1_ := Aside0.mk (below_step HB.out hb); clear HB hb; have HB := n1_; clear n1_))
    refine bodyPost_ret (results_list (rs := [.tmp 4, .tmp 5]) rfl (by simp) (.tmp (.tmp .nil))) rfl ?_
    exact ⟨rfl, HB.out⟩
  have d3 : decide (a0 < (m : Int)) = false := decide_eq_false k3
  by_cases k4 : 100000 < l1.length
  · have d4 : decide (100000 < (l1.length : Int)) = true := decide_eq_true (by omega)
    rw [if_neg (by omega), if_pos k4] at h
    subst h
    clear h0 em
    go_enter Try.func17, Try.ntmps17
    go_wp2_with (first | (go_at_call 18; refine (concordancelaw6_own_18.calls _ _ _ _ _ _ (Kd.C_below HR1.out HB.out) hc1 HWF.out).mono ?_; rintro e w1 ⟨rfl, hb⟩; have n1_ := Aside0.mk (below_step HB.out hb); clear HB hb; have HB := n1_; clear n1_))
    refine bodyPost_ret (results_list (rs := [.tmp 4, .tmp 5]) rfl (by simp) (.tmp (.tmp .nil))) rfl ?_
    exact ⟨rfl, HB.out⟩
  · rw [if_neg (by omega), if_neg k4] at h
    exact absurd h.symm h0
set_option maxHeartbeats 800000 in
set_option maxRecDepth 100000 in
theorem new_good (a0 : Int) (A1 : Option Addr) (c1 : Nat) (l1 : List Int) (w : World) (hr1 : Kd.C (Kd.int .u16) w A1 l1.length l1) (hc1 : l1.length ≤ c1) (hb : ∀ x ∈ l1, 0 ≤ x ∧ x < 65536) (hl : l1.length ≤ 1000000) (h : newE a0 l1 = 0) :
    Calls Try.prog 17 #[.int .i64 a0, .slice A1 l1.length c1] w fun e w' => ∃ g, e = .returned (.tuple #[.pointer (some ⟨g, 0, none⟩), .int .i64 0]) ∧ w.heap.size ≤ g ∧ VecAt .u16 89 w' g a0 l1 ∧ Below w.heap.size w w' := by
  have HWF := Aside0.mk (width_f l1 hb hl)
  have HR1 := Aside0.mk hr1
  have HL := Aside0.mk hl
  have HB := Aside0.mk (Below.refl w.heap.size w)
  clear hr1 hb hl
  obtain ⟨k1, k2, k3, k4⟩ := newE_ok h
  obtain ⟨m, em⟩ : ∃ m, widthL l1 = m := ⟨_, rfl⟩
  rw [em] at HWF k3
  have d1 : decide (a0 < 0) = false := decide_eq_false (by omega)
  have d2 : decide (64 < a0) = false := decide_eq_false (by omega)
  have d3 : decide (a0 < (m : Int)) = false := decide_eq_false (by omega)
  have d4 : decide (100000 < (l1.length : Int)) = false := decide_eq_false (by omega)
  clear em h
  go_enter Try.func17, Try.ntmps17
  go_wp2_with (first | (go_at_call 18; refine (concordancelaw6_own_18.calls _ _ _ _ _ _ (Kd.C_below HR1.out HB.out) hc1 HWF.out).mono ?_; rintro e w1 ⟨rfl, hb⟩; have n1_ := Aside0.mk (below_step HB.out hb); clear HB hb; have HB := n1_; clear n1_) | (go_at_call 50; refine (clone_calls _ _ l1 _ (Kd.C_below HR1.out HB.out) HL.out).mono ?_; rintro e w2 ⟨v2, rfl, ho, hb⟩; obtain ⟨A2, c2, rfl⟩ := Kd.R_slice ho; have HO := Aside0.mk (Kd.R_reads' ho).2; have n1_ := Aside0.mk (below_step HB.out hb); clear HB hb ho; have HB := n1_; clear n1_))
  refine bodyPost_ret (results_list (rs := [.tmp 4, .tmp 5]) rfl (by simp) (.tmp (.tmp .nil))) rfl ?_
  refine ⟨w2.heap.size, rfl, HB.out.size, ⟨A2, c2, blk_new _ _, HO.out.1, Kd.C_alloc HO.out.2 _⟩, below_alloc HB.out _⟩
end Go.Proofs.Ytolncaccemfbdaa.Vow

/- Packed numbers of the type concordance/concordancelaw6.own as bytes: what Bytes tells. -/
namespace Go.Proofs.Ytolncaccemfbdaa.Vow
open Go.RowKit Go.Proofs.YtolncaccemfbdaaW.PrintWords Go.Proofs.YtolncaccemfbdaaW.PrintLast Go.Proofs.YtolncaccemfbdaaW.PrintMore
open Go.Proofs.Ytolncaccemfbdaa.Plain Go.Proofs.Ytolncaccemfbdaa.PPk Go.Proofs.Ytolncaccemfbdaa.Hand
attribute [local go_sem] max2_int min2_int max_two min_two
set_option linter.unusedVariables false
set_option linter.unusedSimpArgs false
def by.T1 : Bool × List (List Nat × List Nat) := (true, [([], []), ([0], [0]), ([1], [1]), ([2], [2]), ([3], [3]), ([4], [4]), ([5], [5]), ([], []), ([7], [7]), ([8], [8]), ([9], [9]), ([10], [10]), ([11], [11]), ([6, 12, 6], [6, 12]), ([13, 13, 0, 1, 2, 3, 4, 5, 6, 7, 8, 9, 10, 11, 12, 13], [13])])
def by.B1 : List Nat := [0, 1, 3, 7, 15, 31, 63, 0, 128, 384, 896, 1920, 3968, 8191, 16383]
theorem by.tab1 : rtab .any (opsOf Try.f20 1) = by.T1 := by kernel_rfl
theorem by.bits1 : waitsOk by.T1.2 by.B1 = true := by kernel_rfl
def by.T2 : Bool × List (List Nat × List Nat) := (true, [([], []), ([0], [0]), ([1], [1]), ([2], [2]), ([3], [3]), ([], []), ([5], [5]), ([6], [6]), ([7], [7]), ([4, 8], [4, 8]), ([9], [9]), ([10], [10]), ([11], [11]), ([12, 12], [12]), ([13, 0, 1, 2, 3, 4, 5, 6, 7, 8, 9, 10, 11, 12, 13], [13])])
def by.B2 : List Nat := [0, 1, 3, 7, 15, 0, 32, 96, 224, 511, 1023, 2047, 4095, 8191, 16383]
theorem by.tab2 : rtab .any (opsOf Try.f20 2) = by.T2 := by kernel_rfl
theorem by.bits2 : waitsOk by.T2.2 by.B2 = true := by kernel_rfl
def by.T10 : Bool × List (List Nat × List Nat) := (true, [([], []), ([], []), ([1], [1]), ([0, 2], [0, 2]), ([3], [3]), ([], []), ([5], [5]), ([], []), ([6, 7], [6, 7]), ([8], [8]), ([9], [9]), ([], []), ([11], [11]), ([10, 12], [10, 12]), ([4, 13], [4, 13]), ([0, 2, 0, 1, 2, 3, 4, 5, 6, 7, 8, 9, 10, 11, 12, 13, 14], [0, 2]), ([15, 14, 0, 1, 2, 3, 4, 5, 6, 7, 8, 9, 10, 11, 12, 13, 14], [14, 15])])
def by.B10 : List Nat := [0, 0, 2, 7, 15, 0, 32, 0, 224, 480, 992, 0, 2048, 8160, 16383, 32767, 65535]
theorem by.tab10 : rtab .any (opsOf Try.f20 10) = by.T10 := by kernel_rfl
theorem by.bits10 : waitsOk by.T10.2 by.B10 = true := by kernel_rfl
set_option maxHeartbeats 8000000 in
set_option maxRecDepth 100000 in
theorem bytes_calls (g q : Nat) (l : List Int) (w : World) (h : VecAt .u16 89 w g (q : Int) l) (hq : q ≤ 64) (hn : l.length ≤ 100000) (hb : ∀ x ∈ l, 0 ≤ x ∧ x < 65536) :
    Calls Try.prog 20 #[.pointer (some ⟨g, 0, none⟩)] w fun e w' => ∃ v0_ : Value, e = .returned v0_ ∧ Kd.R (Kd.int .u8) 5 w' w.heap.size (fun _ => True) v0_ (vbytes q l) ∧ Below w.heap.size w w' := by
  obtain ⟨A, c, hblk, hle, hC⟩ := h
  have hx0 := blk_cell hblk 0
  have hx1 := blk_cell hblk 1
  have hx0' : w.cell? ⟨g, 0, none⟩ = some (.int .i64 (q : Int)) := hx0
  have hx1' : w.cell? ⟨g, 1, none⟩ = some (.slice A l.length c) := hx1
  have HX0 := Aside0.mk hx0'
  have HX1 := Aside0.mk hx1'
  have HC := Aside0.mk hC
  have HN := Aside0.mk hn
  have HQ := Aside0.mk hq
  have HBB := Aside0.mk hb
  have hen := encN_len64 (n := l.length) (by omega)
  have hep := encN_pos l.length
  have hput : putF [] (l.length : Int) = some (encN l.length) := by
    unfold putF
    rw [if_pos ⟨by simp, by omega, by omega⟩, List.nil_append, Int.toNat_natCast]
  have HPUT := Aside0.mk hput
  have hu1 : IntKind.u64.wrap (l.length : Int) = (l.length : Int) := by rw [wrap_u64]; omega
  have hu2 : IntKind.u8.wrap (q : Int) = (q : Int) := by rw [Go.IntKind.wrap_u8]; omega
  have hu3 : (q : Int) % 256 = (q : Int) := by omega
  have hu4 : (l.length : Int) % 18446744073709551616 = (l.length : Int) := by omega
  obtain ⟨H, eH⟩ : ∃ H, encN l.length = H := ⟨_, rfl⟩
  rw [eH] at hen hep HPUT
  have HHE := Aside0.mk eH
  have HHL := Aside0.mk (And.intro hen hep)
  obtain ⟨H2, eH2⟩ : ∃ H2, H ++ [(q : Int)] = H2 := ⟨_, rfl⟩
  have HH2 := Aside0.mk eH2
  have HH2L := Aside0.mk (show H2.length ≤ 11 by rw [← eH2, List.length_append]; simp only [List.length_singleton]; omega)
  clear eH2
  clear hx0 hx1 hx0' hx1' hblk hC hb hn hq hen hep hput eH
  go_enter Try.func20, Try.ntmps20
  go_wp2
  refine start_ (n := 15) (S := fun w' => Below w.heap.size w w') (ds := []) #[false, false, false, false, false, false, false, false, false, false, false, false, false, false, false] (by kernel_rfl) rfl rfl (below_drew1 (Below.refl _ _)) (fun hHeld => ?_)
  refine with_tabW by.tab1 by.bits1 (fun HT_ HW_ => ?_)
  refine pure_ (i := 0) (N := some 9) (v := ?_) (a' := ?_) #[true, false, false, false, false, false, false, false, false, false, false, false, false, false, false] rfl rfl (any_of HT_.out (by kernel_rfl)) (fun _ _ _ h => h) (Or.inl ⟨by rfl, ?_⟩) ?_ ?_
  rotate_left
  · intro w'
    go_simp
    with_reducible rfl
  rotate_left
  · simp only [Act.put, List.setIfInBounds_toArray, List.set_cons_zero, List.set_cons_succ, i64_w, i32_w]
    rfl
  refine pure_ (i := 1) (N := some 10) (v := ?_) (a' := ?_) #[true, true, false, false, false, false, false, false, false, false, false, false, false, false, false] rfl rfl (any_of HT_.out (by kernel_rfl)) (fun _ _ _ h => h) (Or.inl ⟨by rfl, ?_⟩) ?_ ?_
  rotate_left
  · intro w'
    go_simp
    with_reducible rfl
  rotate_left
  · simp only [Act.put, List.setIfInBounds_toArray, List.set_cons_zero, List.set_cons_succ, i64_w, i32_w]
    rfl
  refine pure_ (i := 2) (N := some 11) (v := ?_) (a' := ?_) #[true, true, true, false, false, false, false, false, false, false, false, false, false, false, false] rfl rfl (any_of HT_.out (by kernel_rfl)) (fun _ _ _ h => h) (Or.inl ⟨by rfl, ?_⟩) ?_ ?_
  rotate_left
  · intro w'
    go_simp
    with_reducible rfl
  rotate_left
  · simp only [Act.put, List.setIfInBounds_toArray, List.set_cons_zero, List.set_cons_succ, i64_w, i32_w]
    rfl
  refine take_ (i := 3) (N := some 12) (v := ?_) (a' := ?_) #[true, true, true, true, false, false, false, false, false, false, false, false, false, false, false] rfl rfl (take_ofW HT_.out HW_.out (by kernel_rfl)) (fun _ _ _ h => h) (Or.inl ⟨by rfl, ?_⟩) hHeld ?_ ?_
  rotate_left
  · intro w' hS
    have h_ := (hS.cell (World.block_lt_of_cell? _ _ HX1.out)).trans HX1.out
    go_simp
    with_reducible rfl
  rotate_left
  · simp only [Act.put, List.setIfInBounds_toArray, List.set_cons_zero, List.set_cons_succ, i64_w, i32_w]
    rfl
  refine pure_ (i := 4) (N := some 13) (v := ?_) (a' := ?_) #[true, true, true, true, true, false, false, false, false, false, false, false, false, false, false] rfl rfl (any_of HT_.out (by kernel_rfl)) (fun _ _ _ h => h) (Or.inl ⟨by rfl, ?_⟩) ?_ ?_
  rotate_left
  · intro w'
    go_simp
    with_reducible rfl
  rotate_left
  · simp only [Act.put, List.setIfInBounds_toArray, List.set_cons_zero, List.set_cons_succ, i64_w, i32_w]
    rfl
  refine pure_ (i := 5) (N := some 14) (v := ?_) (a' := ?_) #[true, true, true, true, true, true, false, false, false, false, false, false, false, false, false] rfl rfl (any_of HT_.out (by kernel_rfl)) (fun _ _ _ h => h) (Or.inl ⟨by rfl, ?_⟩) ?_ ?_
  rotate_left
  · intro w'
    go_simp
    with_reducible rfl
  rotate_left
  · simp only [Act.put, List.setIfInBounds_toArray, List.set_cons_zero, List.set_cons_succ, i64_w, i32_w]
    rfl
  refine pure_ (i := 7) (N := some 16) (v := ?_) (a' := ?_) #[true, true, true, true, true, true, false, true, false, false, false, false, false, false, false] rfl rfl (any_of HT_.out (by kernel_rfl)) (fun _ _ _ h => h) (Or.inl ⟨by rfl, ?_⟩) ?_ ?_
  rotate_left
  · intro w'
    go_simp
    with_reducible rfl
  rotate_left
  · simp only [Act.put, List.setIfInBounds_toArray, List.set_cons_zero, List.set_cons_succ, i64_w, i32_w]
    rfl
  refine pure_ (i := 8) (N := some 17) (v := ?_) (a' := ?_) #[true, true, true, true, true, true, false, true, true, false, false, false, false, false, false] rfl rfl (any_of HT_.out (by kernel_rfl)) (fun _ _ _ h => h) (Or.inl ⟨by rfl, ?_⟩) ?_ ?_
  rotate_left
  · intro w'
    go_simp
    with_reducible rfl
  rotate_left
  · simp only [Act.put, List.setIfInBounds_toArray, List.set_cons_zero, List.set_cons_succ, i64_w, i32_w]
    rfl
  refine pure_ (i := 9) (N := some 18) (v := ?_) (a' := ?_) #[true, true, true, true, true, true, false, true, true, true, false, false, false, false, false] rfl rfl (any_of HT_.out (by kernel_rfl)) (fun _ _ _ h => h) (Or.inl ⟨by rfl, ?_⟩) ?_ ?_
  rotate_left
  · intro w'
    go_simp
    with_reducible rfl
  rotate_left
  · simp only [Act.put, List.setIfInBounds_toArray, List.set_cons_zero, List.set_cons_succ, i64_w, i32_w]
    rfl
  refine take_ (i := 10) (N := some 19) (v := ?_) (a' := ?_) #[true, true, true, true, true, true, false, true, true, true, true, false, false, false, false] rfl rfl (take_ofW HT_.out HW_.out (by kernel_rfl)) (fun _ _ _ h => h) (Or.inl ⟨by rfl, ?_⟩) hHeld ?_ ?_
  rotate_left
  · intro w' hS
    have h_ := (hS.cell (World.block_lt_of_cell? _ _ HX0.out)).trans HX0.out
    go_simp
    with_reducible rfl
  rotate_left
  · simp only [Act.put, List.setIfInBounds_toArray, List.set_cons_zero, List.set_cons_succ, i64_w, i32_w]
    rfl
  refine pure_ (i := 11) (N := some 20) (v := ?_) (a' := ?_) #[true, true, true, true, true, true, false, true, true, true, true, true, false, false, false] rfl rfl (any_of HT_.out (by kernel_rfl)) (fun _ _ _ h => h) (Or.inl ⟨by rfl, ?_⟩) ?_ ?_
  rotate_left
  · intro w'
    go_simp
    with_reducible rfl
  rotate_left
  · simp only [Act.put, List.setIfInBounds_toArray, List.set_cons_zero, List.set_cons_succ, i64_w, i32_w]
    rfl
  refine join_ (σ := Addr × Addr) 2 #[true, true, true, true, true, true, true, true, true, true, true, true, true, false, false] (fun s_ => [(15, .slice (some s_.1) H.length H.length), (21, .slice (some s_.2) 1 1)]) (fun s_ w' => (Kd.C (Kd.int .u8) w' (some s_.1) H.length H ∧ w'.cell? s_.2 = some (.int .u8 (q : Int))) ∧ Below w.heap.size w w') ?_ ?_
  rotate_left
  · intro hCont
    refine two_ (i := 6) (j := 12) (Ni := some 15) (Nj := some 21) #[true, true, true, true, true, true, true, true, true, true, true, true, false, false, false] #[true, true, true, true, true, true, false, true, true, true, true, true, true, false, false] rfl rfl rfl rfl (two_of HT_.out (by kernel_rfl)) (by decide) (by decide) (fun K hK => ?_) (fun K hK => ?_)
    · skip
      refine goes_ Try.func51 (by kernel_rfl) rfl #[.slice none 0 0, .int .u64 (l.length : Int)] (by rfl) rfl rfl (by (try simp only [List.map_toArray, List.map_cons, List.map_nil]); first | done | rfl) ?_
      refine (put_clipped none 0 [] _ _ _ (Kd.C_nil _ _) HPUT.out).mono ?_
      rintro e w1 ⟨v1, rfl, ⟨A1_, c1_, rfl, hcl_⟩, hb⟩
      obtain ⟨g1_, c2_, e1_, _, _, _, _⟩ := Kd.R_form hcl_ HHL.out.2
      injection e1_ with e1_ _ _
      subst e1_
      have hC1_ := (Kd.R_reads' hcl_).2.2
      have hc2_ := True.intro
      refine ⟨_, rfl, ?_⟩
      have hS_ := below_step hHeld hb
      (try have hd_ := (hb.cell (World.block_lt_of_cell? _ _ hd0_)).trans hd0_)
      refine hK.out _ _ hS_ (fun hHeld => ?_)
      clear hK K
      refine norm_ (a' := ?_) ?_ ?_
      rotate_left
      · show Act.put _ (some 15) _ = _
        simp only [Act.put, List.setIfInBounds_toArray, List.set_cons_zero, List.set_cons_succ, i64_w, i32_w]
        rfl
      refine one_ (i := 12) (N := some 21) #[true, true, true, true, true, true, true, true, true, true, true, true, true, false, false] rfl rfl (one_of HT_.out (by kernel_rfl)) (by decide) (fun K hK => ?_)
      refine value_ (w1 := ?_) (v := ?_) (by rfl) rfl ?_ ?_
      rotate_left 2
      · go_simp
        constructor
        · rfl
        · rfl
      have hS_ := below_alloc hHeld (.cells #[.int .u8 (q : Int)] 5)
      have hd0_ := new_cell hHeld (.int .u8 (q : Int)) 5
      (try have hC2_ := Kd.C_alloc hC1_ (.cells #[.int .u8 (q : Int)] 5))
      refine hK.out _ _ hS_ (fun hHeld => ?_)
      clear hK K
      refine norm_ (a' := ?_) ?_ ?_
      rotate_left
      · show Act.put _ (some 21) _ = _
        simp only [Act.put, List.setIfInBounds_toArray, List.set_cons_zero, List.set_cons_succ, i64_w, i32_w]
        rfl
      exact norm_ (by simp only [putAll, Act.put, List.setIfInBounds_toArray, List.set_cons_zero, List.set_cons_succ] <;> rfl) (hCont (_, _) _ ⟨⟨hC2_, hd0_⟩, hHeld⟩)
    · skip
      refine value_ (w1 := ?_) (v := ?_) (by rfl) rfl ?_ ?_
      rotate_left 2
      · go_simp
        constructor
        · rfl
        · rfl
      have hS_ := below_alloc hHeld (.cells #[.int .u8 (q : Int)] 5)
      have hd0_ := new_cell hHeld (.int .u8 (q : Int)) 5
      (try have hC2_ := Kd.C_alloc hC1_ (.cells #[.int .u8 (q : Int)] 5))
      refine hK.out _ _ hS_ (fun hHeld => ?_)
      clear hK K
      refine norm_ (a' := ?_) ?_ ?_
      rotate_left
      · show Act.put _ (some 21) _ = _
        simp only [Act.put, List.setIfInBounds_toArray, List.set_cons_zero, List.set_cons_succ, i64_w, i32_w]
        rfl
      refine one_ (i := 6) (N := some 15) #[true, true, true, true, true, true, true, true, true, true, true, true, true, false, false] rfl rfl (one_of HT_.out (by kernel_rfl)) (by decide) (fun K hK => ?_)
      refine goes_ Try.func51 (by kernel_rfl) rfl #[.slice none 0 0, .int .u64 (l.length : Int)] (by rfl) rfl rfl (by (try simp only [List.map_toArray, List.map_cons, List.map_nil]); first | done | rfl) ?_
      refine (put_clipped none 0 [] _ _ _ (Kd.C_nil _ _) HPUT.out).mono ?_
      rintro e w1 ⟨v1, rfl, ⟨A1_, c1_, rfl, hcl_⟩, hb⟩
      obtain ⟨g1_, c2_, e1_, _, _, _, _⟩ := Kd.R_form hcl_ HHL.out.2
      injection e1_ with e1_ _ _
      subst e1_
      have hC1_ := (Kd.R_reads' hcl_).2.2
      have hc2_ := True.intro
      refine ⟨_, rfl, ?_⟩
      have hS_ := below_step hHeld hb
      (try have hd_ := (hb.cell (World.block_lt_of_cell? _ _ hd0_)).trans hd0_)
      refine hK.out _ _ hS_ (fun hHeld => ?_)
      clear hK K
      refine norm_ (a' := ?_) ?_ ?_
      rotate_left
      · show Act.put _ (some 15) _ = _
        simp only [Act.put, List.setIfInBounds_toArray, List.set_cons_zero, List.set_cons_succ, i64_w, i32_w]
        rfl
      exact norm_ (by simp only [putAll, Act.put, List.setIfInBounds_toArray, List.set_cons_zero, List.set_cons_succ] <;> rfl) (hCont (_, _) _ ⟨⟨hC1_, hd_⟩, hHeld⟩)
  rintro ⟨D1, D2⟩ w2 ⟨⟨hD1, hD2⟩, hHeld⟩
  refine norm_ (a' := ?_) ?_ ?_
  rotate_left
  · simp only [putAll, Act.put, List.setIfInBounds_toArray, List.set_cons_zero, List.set_cons_succ, i64_w, i32_w]
    rfl
  refine one_ (i := 13) (N := some 22) #[true, true, true, true, true, true, true, true, true, true, true, true, true, true, false] rfl rfl (one_of HT_.out (by kernel_rfl)) (by decide) (fun K hK => ?_)
  refine append_full_ (zs := H2) HH2.out (s := .tmp 15) (x := .tmp 21) (t := 23) (by rfl) rfl rfl Try.underlying23 hinfo_u8 rfl rfl rfl hD1 hD2 (by have := HHL.out; omega) ?_
  intro A3 c3 w3 hle3 ho3 hb3
  have hS_ := below_step hHeld hb3
  refine hK.out _ _ hS_ (fun hHeld => ?_)
  clear hK K
  refine norm_ (a' := ?_) ?_ ?_
  rotate_left
  · show Act.put _ (some 22) _ = _
    simp only [Act.put, List.setIfInBounds_toArray, List.set_cons_zero, List.set_cons_succ, i64_w, i32_w]
    rfl
  refine pure_ (i := 14) (N := some 3) (v := ?_) (a' := ?_) #[true, true, true, true, true, true, true, true, true, true, true, true, true, true, true] rfl rfl (any_of HT_.out (by kernel_rfl)) (fun _ _ _ h => h) (Or.inl ⟨by rfl, ?_⟩) ?_ ?_
  rotate_left
  · intro w'
    go_simp
    with_reducible rfl
  rotate_left
  · simp only [Act.put, List.setIfInBounds_toArray, List.set_cons_zero, List.set_cons_succ, i64_w, i32_w]
    rfl
  refine done_ (done_of HT_.out (by kernel_rfl)) ?_
  have HHR := Aside0.mk (And.intro hle3 (Kd.R_reads' ho3).2.2)
  have HB := Aside0.mk hHeld
  clear hle3 ho3 hb3 hHeld hD1 hD2 hu1 hu2 hu3 hu4
  have hs1 := size_nums HN.out HQ.out
  have hsz := size_le HN.out HQ.out
  obtain ⟨NW, eNW⟩ : ∃ NW, l.length * q = NW := ⟨_, rfl⟩
  obtain ⟨sz, esz⟩ : ∃ sz, sizeN l.length q = sz := ⟨_, rfl⟩
  rw [eNW, esz] at hs1
  rw [esz] at hsz
  obtain ⟨m1, m2, m3, m4, m5⟩ := hs1
  have HSZ := Aside0.mk hsz
  have HNW := Aside0.mk eNW
  have HESZ := Aside0.mk esz
  have m6 : ¬ (sz : Int) < 0 := Int.not_lt.2 (Int.natCast_nonneg _)
  clear hsz eNW esz
  go_wp2
  refine start_ (n := 15) (S := fun w' => Below w3.heap.size w3 w') (ds := []) #[false, false, false, false, false, false, false, false, false, false, false, false, false, false, false] (by kernel_rfl) rfl rfl (below_drew1 (Below.refl _ _)) (fun hHeld => ?_)
  refine with_tabW by.tab2 by.bits2 (fun HT_ HW_ => ?_)
  refine pure_ (i := 0) (N := some 23) (v := ?_) (a' := ?_) #[true, false, false, false, false, false, false, false, false, false, false, false, false, false, false] rfl rfl (any_of HT_.out (by kernel_rfl)) (fun _ _ _ h => h) (Or.inl ⟨by rfl, ?_⟩) ?_ ?_
  rotate_left
  · intro w'
    go_simp
    with_reducible rfl
  rotate_left
  · simp only [Act.put, List.setIfInBounds_toArray, List.set_cons_zero, List.set_cons_succ, i64_w, i32_w]
    rfl
  refine pure_ (i := 1) (N := some 24) (v := ?_) (a' := ?_) #[true, true, false, false, false, false, false, false, false, false, false, false, false, false, false] rfl rfl (any_of HT_.out (by kernel_rfl)) (fun _ _ _ h => h) (Or.inl ⟨by rfl, ?_⟩) ?_ ?_
  rotate_left
  · intro w'
    go_simp
    with_reducible rfl
  rotate_left
  · simp only [Act.put, List.setIfInBounds_toArray, List.set_cons_zero, List.set_cons_succ, i64_w, i32_w]
    rfl
  refine pure_ (i := 2) (N := some 25) (v := ?_) (a' := ?_) #[true, true, true, false, false, false, false, false, false, false, false, false, false, false, false] rfl rfl (any_of HT_.out (by kernel_rfl)) (fun _ _ _ h => h) (Or.inl ⟨by rfl, ?_⟩) ?_ ?_
  rotate_left
  · intro w'
    go_simp
    with_reducible rfl
  rotate_left
  · simp only [Act.put, List.setIfInBounds_toArray, List.set_cons_zero, List.set_cons_succ, i64_w, i32_w]
    rfl
  refine take_ (i := 3) (N := some 26) (v := ?_) (a' := ?_) #[true, true, true, true, false, false, false, false, false, false, false, false, false, false, false] rfl rfl (take_ofW HT_.out HW_.out (by kernel_rfl)) (fun _ _ _ h => h) (Or.inl ⟨by rfl, ?_⟩) hHeld ?_ ?_
  rotate_left
  · intro w' hS
    have h_ := ((below_step HB.out hS).cell (World.block_lt_of_cell? _ _ HX1.out)).trans HX1.out
    go_simp
    with_reducible rfl
  rotate_left
  · simp only [Act.put, List.setIfInBounds_toArray, List.set_cons_zero, List.set_cons_succ, i64_w, i32_w]
    rfl
  refine pure_ (i := 4) (N := some 27) (v := ?_) (a' := ?_) #[true, true, true, true, true, false, false, false, false, false, false, false, false, false, false] rfl rfl (any_of HT_.out (by kernel_rfl)) (fun _ _ _ h => h) (Or.inl ⟨by rfl, ?_⟩) ?_ ?_
  rotate_left
  · intro w'
    go_simp
    with_reducible rfl
  rotate_left
  · simp only [Act.put, List.setIfInBounds_toArray, List.set_cons_zero, List.set_cons_succ, i64_w, i32_w]
    rfl
  refine pure_ (i := 5) (N := some 28) (v := ?_) (a' := ?_) #[true, true, true, true, true, true, false, false, false, false, false, false, false, false, false] rfl rfl (any_of HT_.out (by kernel_rfl)) (fun _ _ _ h => h) (Or.inl ⟨by rfl, ?_⟩) ?_ ?_
  rotate_left
  · intro w'
    go_simp
    with_reducible rfl
  rotate_left
  · simp only [Act.put, List.setIfInBounds_toArray, List.set_cons_zero, List.set_cons_succ, i64_w, i32_w]
    rfl
  refine pure_ (i := 6) (N := some 29) (v := ?_) (a' := ?_) #[true, true, true, true, true, true, true, false, false, false, false, false, false, false, false] rfl rfl (any_of HT_.out (by kernel_rfl)) (fun _ _ _ h => h) (Or.inl ⟨by rfl, ?_⟩) ?_ ?_
  rotate_left
  · intro w'
    go_simp
    with_reducible rfl
  rotate_left
  · simp only [Act.put, List.setIfInBounds_toArray, List.set_cons_zero, List.set_cons_succ, i64_w, i32_w]
    rfl
  refine pure_ (i := 7) (N := some 30) (v := ?_) (a' := ?_) #[true, true, true, true, true, true, true, true, false, false, false, false, false, false, false] rfl rfl (any_of HT_.out (by kernel_rfl)) (fun _ _ _ h => h) (Or.inl ⟨by rfl, ?_⟩) ?_ ?_
  rotate_left
  · intro w'
    go_simp
    with_reducible rfl
  rotate_left
  · simp only [Act.put, List.setIfInBounds_toArray, List.set_cons_zero, List.set_cons_succ, i64_w, i32_w]
    rfl
  refine take_ (i := 8) (N := some 31) (v := ?_) (a' := ?_) #[true, true, true, true, true, true, true, true, true, false, false, false, false, false, false] rfl rfl (take_ofW HT_.out HW_.out (by kernel_rfl)) (fun _ _ _ h => h) (Or.inl ⟨by rfl, ?_⟩) hHeld ?_ ?_
  rotate_left
  · intro w' hS
    have h_ := ((below_step HB.out hS).cell (World.block_lt_of_cell? _ _ HX0.out)).trans HX0.out
    go_simp
    with_reducible rfl
  rotate_left
  · simp only [Act.put, List.setIfInBounds_toArray, List.set_cons_zero, List.set_cons_succ, i64_w, i32_w]
    rfl
  refine pure_ (i := 9) (N := some 32) (v := ?_) (a' := ?_) #[true, true, true, true, true, true, true, true, true, true, false, false, false, false, false] rfl rfl (any_of HT_.out (by kernel_rfl)) (fun _ _ _ h => h) (Or.inl ⟨by rfl, ?_⟩) ?_ ?_
  rotate_left
  · intro w'
    go_simp
    with_reducible rfl
  rotate_left
  · simp only [Act.put, List.setIfInBounds_toArray, List.set_cons_zero, List.set_cons_succ, i64_w, i32_w]
    rfl
  refine pure_ (i := 10) (N := some 33) (v := ?_) (a' := ?_) #[true, true, true, true, true, true, true, true, true, true, true, false, false, false, false] rfl rfl (any_of HT_.out (by kernel_rfl)) (fun _ _ _ h => h) (Or.inl ⟨by rfl, ?_⟩) ?_ ?_
  rotate_left
  · intro w'
    go_simp
    with_reducible rfl
  rotate_left
  · simp only [Act.put, List.setIfInBounds_toArray, List.set_cons_zero, List.set_cons_succ, i64_w, i32_w]
    rfl
  refine pure_ (i := 11) (N := some 34) (v := ?_) (a' := ?_) #[true, true, true, true, true, true, true, true, true, true, true, true, false, false, false] rfl rfl (any_of HT_.out (by kernel_rfl)) (fun _ _ _ h => h) (Or.inl ⟨by rfl, ?_⟩) ?_ ?_
  rotate_left
  · intro w'
    go_simp
    with_reducible rfl
  rotate_left
  · simp only [Act.put, List.setIfInBounds_toArray, List.set_cons_zero, List.set_cons_succ, i64_w, i32_w]
    rfl
  refine pure_ (i := 12) (N := some 35) (v := ?_) (a' := ?_) #[true, true, true, true, true, true, true, true, true, true, true, true, true, false, false] rfl rfl (any_of HT_.out (by kernel_rfl)) (fun _ _ _ h => h) (Or.inl ⟨by rfl, ?_⟩) ?_ ?_
  rotate_left
  · intro w'
    go_simp
    with_reducible rfl
  rotate_left
  · simp only [Act.put, List.setIfInBounds_toArray, List.set_cons_zero, List.set_cons_succ, i64_w, i32_w]
    rfl
  refine one_ (i := 13) (N := some 36) #[true, true, true, true, true, true, true, true, true, true, true, true, true, true, false] rfl rfl (one_of HT_.out (by kernel_rfl)) (by decide) (fun K hK => ?_)
  refine Kd.R_make_step (Kd.int .u8) (w0 := w3) w3.heap.size 5 (by rfl) (N := 36) rfl 23 _ _ rfl (sz : Int) ?hx1 ?hx2 Try.underlying23 (.int .u8 0) 1 hinfo_u8 rfl (by decide) (by decide) (0 : Int) (ok := fun _ => True) (okp := fun _ => True) ?hz0 (fun _ h => h) trivial (by omega) (by have := HSZ.out; omega) hHeld hHeld.size ?_
  case hx1 => first | rfl | (go_simp; done) | (go_simp; rfl)
  case hx2 => first | rfl | (go_simp; done) | (go_simp; rfl)
  case hz0 => rfl
  intro v4 w4 ho4 hb4 hg4 hat4
  have hS_ := hb4
  refine hK.out _ _ hS_ (fun hHeld => ?_)
  clear hK K
  refine norm_ (a' := ?_) ?_ ?_
  rotate_left
  · show Act.put _ (some 36) _ = _
    simp only [Act.put, List.setIfInBounds_toArray, List.set_cons_zero, List.set_cons_succ, i64_w, i32_w]
    rfl
  refine pure_ (i := 14) (N := some 4) (v := ?_) (a' := ?_) #[true, true, true, true, true, true, true, true, true, true, true, true, true, true, true] rfl rfl (any_of HT_.out (by kernel_rfl)) (fun _ _ _ h => h) (Or.inl ⟨by rfl, ?_⟩) ?_ ?_
  rotate_left
  · intro w'
    go_simp
    with_reducible rfl
  rotate_left
  · simp only [Act.put, List.setIfInBounds_toArray, List.set_cons_zero, List.set_cons_succ, i64_w, i32_w]
    rfl
  refine done_ (done_of HT_.out (by kernel_rfl)) ?_
  clear m1 m2 m3 m4 m5 m6
  rw [Int.toNat_natCast, ← leB_zero] at ho4
  obtain ⟨Ab, cb, rfl⟩ := Kd.R_slice ho4
  rw [leB_length]
  rw [leB_length] at ho4
  have HV := Aside0.mk ho4
  have HB4 := Aside0.mk hHeld
  clear ho4 hb4 hg4 hat4 hHeld
  have hx1c := ((below_step HB.out HB4.out).cell (World.block_lt_of_cell? _ _ HX1.out)).trans HX1.out
  go_wp2
  clear hx1c
  go_loopg [5, 7, 8, 42] l.length (fun kq v5 v7 v8 v42 w' => ∃ i : Nat, v42 = .int .i64 (i : Int) ∧ v5 = .int .i64 ((i * q : Nat) : Int) ∧ Aside0 (i ≤ l.length ∧ l.length - i ≤ kq) ∧ Aside0 (Kd.R (Kd.int .u8) 5 w' w3.heap.size (fun _ => True) (.slice Ab sz cb) (leB (packN q (l.take i)) sz)) ∧ Aside0 (Below w3.heap.size w3 w'))
  case atStart => exact ⟨0, rfl, by rw [Nat.zero_mul]; rfl, ⟨by omega, by omega⟩, ⟨HV.out⟩, ⟨HB4.out⟩⟩
  case round =>
    clear HV HB4
    obtain ⟨i, rfl, rfl, HI, HV, HB4⟩ := hrel
    have hx1c := ((below_step HB.out HB4.out).cell (World.block_lt_of_cell? _ _ HX1.out)).trans HX1.out
    have hx0c := ((below_step HB.out HB4.out).cell (World.block_lt_of_cell? _ _ HX0.out)).trans HX0.out
    by_cases k1 : i < l.length
    · have d1 : decide ((i : Int) < (l.length : Int)) = true := decide_eq_true (by omega)
      obtain ⟨ad, rfl, hcell⟩ := Kd.at_int HC.out (i : Int) (by omega) (by omega)
      rw [Int.toNat_natCast] at hcell
      have hcellr := ((below_step HB.out HB4.out).cell (World.block_lt_of_cell? _ _ hcell)).trans hcell
      have hxb := HBB.out _ (List.getElem_mem k1)
      have hrd := rd_at l i k1
      rw [hrd] at hcellr
      have hgd : l.getD i 0 = l[i] := by rw [List.getD_eq_getElem?_getD, List.getElem?_eq_getElem k1, Option.getD_some]
      obtain ⟨x, hx⟩ := Int.eq_ofNat_of_zero_le hxb.1
      rw [hx] at hcellr hxb hgd
      have HXN := Aside0.mk (show x < 65536 by omega)
      have HGD := Aside0.mk hgd
      have HK1 := Aside0.mk k1
      have HI2 := Aside0.mk (show i ≤ 100000 by have := HN.out; omega)
      clear hcell hrd hxb hgd hx
      go_wp2
      obtain ⟨wo, hwo⟩ : ∃ wo, wo = wr := ⟨_, rfl⟩
      rw [← hwo]
      go_loopg [5, 8, 50] 65 (fun kq v5 v8 v50 w' => ∃ k : Nat, v50 = .int .i64 (k : Int) ∧ v5 = .int .i64 ((i * q + k : Nat) : Int) ∧ Aside0 (k ≤ q ∧ q - k ≤ kq) ∧ Aside0 (Kd.R (Kd.int .u8) 5 w' w3.heap.size (fun _ => True) (.slice Ab sz cb) (leB (partN q l i k) sz)) ∧ Aside0 (Below w3.heap.size w3 w'))
      case atStart => exact ⟨0, rfl, rfl, ⟨by omega, by have := HQ.out; omega⟩, ⟨by rw [partN_zero, hwo]; exact HV.out⟩, ⟨by rw [hwo]; exact HB4.out⟩⟩
      case round =>
        obtain ⟨k, rfl, rfl, HK, HV2, HB5⟩ := hrel
        by_cases k2 : k < q
        · have d2 : decide ((k : Int) < (q : Int)) = true := decide_eq_true (by omega)
          have hps := place_size HK1.out k2
          rw [HESZ.out] at hps
          have hq64 := HQ.out
          obtain ⟨gb, cb2, eb, hb1, hb2, hb3, hb4⟩ := Kd.R_form HV2.out (by rw [leB_length]; omega)
          rw [leB_length] at eb
          injection eb with eb1 eb2 eb3
          subst eb1
          clear eb2 eb3 hb1 hb2 hb3 hb4
          obtain ⟨p, hp⟩ : ∃ p : Int, p = ((i * q + k : Nat) : Int) := ⟨_, rfl⟩
          rw [← hp]
          have hp0 : 0 ≤ p := by omega
          have hpm : p < 6400008 := by have := HSZ.out; omega
          have hp8 : p < 8 * (sz : Int) := by omega
          obtain ⟨j, hj⟩ : ∃ j, Int.tdiv p 8 = j := ⟨_, rfl⟩
          obtain ⟨m, hm⟩ : ∃ m, Int.tmod p 8 = m := ⟨_, rfl⟩
          have hj0 : 0 ≤ j ∧ j < (sz : Int) ∧ 0 ≤ m ∧ m < 8 := by
            rw [← hj, ← hm, Int.tdiv_eq_ediv_of_nonneg hp0, Int.tmod_eq_emod_of_nonneg hp0]
            omega
          obtain ⟨q5, q6, q7, q8⟩ := hj0
          have hsh0 : (x : Int) / 2 ^ k = ((x / 2 ^ k : Nat) : Int) := by rw [Int.natCast_ediv, Int.natCast_pow]; rfl
          have hxl : x / 2 ^ k < 18446744073709551616 := Nat.lt_of_le_of_lt (Nat.div_le_self _ _) (by have := HXN.out; omega)
          obtain ⟨bt, hbt⟩ : ∃ bt : Nat, x / 2 ^ k % 2 = bt := ⟨_, rfl⟩
          obtain ⟨xs, hxs⟩ : ∃ xs : Nat, x / 2 ^ k = xs := ⟨_, rfl⟩
          rw [hxs] at hsh0 hxl
          have hb2 : bt < 2 := by rw [← hbt]; exact Nat.mod_lt _ (by decide)
          have hbit : Go.bits .and .u64 (xs : Int) 1 = (bt : Int) := by
            rw [← hbt, hxs]
            exact bit_u64 _ hxl
          obtain ⟨s8, hs8⟩ : ∃ s8 : Int, shl .u8 (bt : Int) m = s8 := ⟨_, rfl⟩
          have hset := pack_set HK1.out k2 hp hj hm (s8 := s8) (by rw [HGD.out, Int.toNat_natCast, hbt]; exact hs8)
          rw [HESZ.out] at hset
          obtain ⟨LB, eLB⟩ : ∃ LB, leB (partN q l i k) sz = LB := ⟨_, rfl⟩
          rw [eLB] at HV2 hset
          have hLBl : LB.length = sz := by rw [← eLB, leB_length]
          have HSET := Aside0.mk hset
          have HKK := Aside0.mk (And.intro k2 hq64)
          have HPP := Aside0.mk hp
          have hs8_ : (IntKind.u8.wrap ((bt : Int) * 2 ^ min m.toNat 8)) = s8 := hs8
          have hs8z : m ≤ 8 → (IntKind.u8.wrap ((bt : Int) * 2 ^ m.toNat)) = s8 := shl_small hs8
          have hsh2 : (x : Int) / 2 ^ min k 64 = (xs : Int) := by rw [Nat.min_eq_left (by omega)]; exact hsh0
          have hxw : IntKind.u64.wrap (x : Int) = (x : Int) := by rw [wrap_u64]; have := HXN.out; omega
          have hbw : IntKind.u8.wrap (bt : Int) = (bt : Int) := by rw [Go.IntKind.wrap_u8]; omega
          have hbw2 : (bt : Int) % 256 = (bt : Int) := by omega
          have j7' := eq_true q7
          have j7d : decide (0 ≤ m) = true := decide_eq_true q7
          have cj0 := eq_true q5
          have cj0d : decide (0 ≤ j) = true := decide_eq_true q5
          have cj1d : decide (j < (sz : Int)) = true := decide_eq_true q6
          have hjw : wrap64 j = j := w64 (by omega) (by have := HSZ.out; omega)
          have HJ := Aside0.mk (And.intro q5 q6)
          clear hset eLB hps hbt hxs hxl hp8 hp q5 q6 q7 q8
          go_wp2
          have HV1 := Aside0.mk (Kd.R_drew HV2.out)
          have HB1 := Aside0.mk (below_drew1 HB5.out)
          clear HV2 HB5
          have q5 : 0 ≤ j := HJ.out.1
          have q6 : j < (sz : Int) := HJ.out.2
          have GG := Aside0.mk (And.intro (Kd.R_base HV1.out gb rfl) (Kd.R_typed HV1.out gb rfl))
          obtain ⟨hx1_, hf1_⟩ := Kd.R_celln 0 HV1.out j q5 q6
          have q5' := eq_true q5
          have q6' := eq_true q6
          have HP2 := Aside0.mk (Kd.R_putn HV1.out j (Go.bits .or .u8 (rd LB j) s8))
          refine start_ (n := 17) (S := fun w' => w'.cell? ⟨gb, j.toNat, none⟩ = some (.int .u8 (rd LB j))) (ds := [16]) #[false, false, false, false, false, false, false, false, false, false, false, false, false, false, false, false, false] (by kernel_rfl) rfl rfl hx1_ (fun hHeld => ?_)
          refine with_tabW by.tab10 by.bits10 (fun HT_ HW_ => ?_)
          generalize wr.drew = w26 at HV1 HB1 GG HP2 hf1_ hx1_ hHeld ⊢
          refine pure_ (i := 0) (N := some 53) (v := ?_) (a' := ?_) #[true, false, false, false, false, false, false, false, false, false, false, false, false, false, false, false, false] rfl rfl (any_of HT_.out (by kernel_rfl)) (fun _ _ _ h => h) (Or.inl ⟨by rfl, ?_⟩) ?_ ?_
          rotate_left
          · intro w'
            go_simp
            with_reducible rfl
          rotate_left
          · simp only [Act.put, List.setIfInBounds_toArray, List.set_cons_zero, List.set_cons_succ, i64_w, i32_w]
            rfl
          refine pure_ (i := 1) (N := some 54) (v := ?_) (a' := ?_) #[true, true, false, false, false, false, false, false, false, false, false, false, false, false, false, false, false] rfl rfl (any_of HT_.out (by kernel_rfl)) (fun _ _ _ h => h) (Or.inl ⟨by rfl, ?_⟩) ?_ ?_
          rotate_left
          · intro w'
            go_simp
            with_reducible rfl
          rotate_left
          · simp only [Act.put, List.setIfInBounds_toArray, List.set_cons_zero, List.set_cons_succ, i64_w, i32_w]
            rfl
          refine pure_ (i := 2) (N := some 55) (v := ?_) (a' := ?_) #[true, true, true, false, false, false, false, false, false, false, false, false, false, false, false, false, false] rfl rfl (any_of HT_.out (by kernel_rfl)) (fun _ _ _ h => h) (Or.inl ⟨by rfl, ?_⟩) ?_ ?_
          rotate_left
          · intro w'
            go_simp
            with_reducible rfl
          rotate_left
          · simp only [Act.put, List.setIfInBounds_toArray, List.set_cons_zero, List.set_cons_succ, i64_w, i32_w]
            rfl
          refine pure_ (i := 3) (N := some 56) (v := ?_) (a' := ?_) #[true, true, true, true, false, false, false, false, false, false, false, false, false, false, false, false, false] rfl rfl (any_of HT_.out (by kernel_rfl)) (fun _ _ _ h => h) (Or.inl ⟨by rfl, ?_⟩) ?_ ?_
          rotate_left
          · intro w'
            go_simp
            with_reducible rfl
          rotate_left
          · simp only [Act.put, List.setIfInBounds_toArray, List.set_cons_zero, List.set_cons_succ, i64_w, i32_w]
            rfl
          refine take_ (i := 4) (N := some 57) (v := ?_) (a' := ?_) #[true, true, true, true, true, false, false, false, false, false, false, false, false, false, false, false, false] rfl rfl (take_ofW HT_.out HW_.out (by kernel_rfl)) (fun _ _ _ h => h) (Or.inl ⟨by rfl, ?_⟩) hHeld ?_ ?_
          rotate_left
          · intro w' s0
            go_simp
            with_reducible rfl
          rotate_left
          · simp only [Act.put, List.setIfInBounds_toArray, List.set_cons_zero, List.set_cons_succ, i64_w, i32_w]
            rfl
          refine pure_ (i := 5) (N := some 58) (v := ?_) (a' := ?_) #[true, true, true, true, true, true, false, false, false, false, false, false, false, false, false, false, false] rfl rfl (any_of HT_.out (by kernel_rfl)) (fun _ _ _ h => h) (Or.inl ⟨by rfl, ?_⟩) ?_ ?_
          rotate_left
          · intro w'
            go_simp
            with_reducible rfl
          rotate_left
          · simp only [Act.put, List.setIfInBounds_toArray, List.set_cons_zero, List.set_cons_succ, i64_w, i32_w]
            rfl
          refine pure_ (i := 6) (N := some 59) (v := ?_) (a' := ?_) #[true, true, true, true, true, true, true, false, false, false, false, false, false, false, false, false, false] rfl rfl (any_of HT_.out (by kernel_rfl)) (fun _ _ _ h => h) (Or.inl ⟨by rfl, ?_⟩) ?_ ?_
          rotate_left
          · intro w'
            go_simp
            with_reducible rfl
          rotate_left
          · simp only [Act.put, List.setIfInBounds_toArray, List.set_cons_zero, List.set_cons_succ, i64_w, i32_w]
            rfl
          refine pure_ (i := 7) (N := some 60) (v := ?_) (a' := ?_) #[true, true, true, true, true, true, true, true, false, false, false, false, false, false, false, false, false] rfl rfl (any_of HT_.out (by kernel_rfl)) (fun _ _ _ h => h) (Or.inl ⟨by rfl, ?_⟩) ?_ ?_
          rotate_left
          · intro w'
            go_simp
            with_reducible rfl
          rotate_left
          · simp only [Act.put, List.setIfInBounds_toArray, List.set_cons_zero, List.set_cons_succ, i64_w, i32_w]
            rfl
          refine pure_ (i := 8) (N := some 61) (v := ?_) (a' := ?_) #[true, true, true, true, true, true, true, true, true, false, false, false, false, false, false, false, false] rfl rfl (any_of HT_.out (by kernel_rfl)) (fun _ _ _ h => h) (Or.inl ⟨by rfl, ?_⟩) ?_ ?_
          rotate_left
          · intro w'
            go_simp
            with_reducible rfl
          rotate_left
          · simp only [Act.put, List.setIfInBounds_toArray, List.set_cons_zero, List.set_cons_succ, i64_w, i32_w]
            rfl
          refine pure_ (i := 9) (N := some 62) (v := ?_) (a' := ?_) #[true, true, true, true, true, true, true, true, true, true, false, false, false, false, false, false, false] rfl rfl (any_of HT_.out (by kernel_rfl)) (fun _ _ _ h => h) (Or.inl ⟨by rfl, ?_⟩) ?_ ?_
          rotate_left
          · intro w'
            go_simp
            with_reducible rfl
          rotate_left
          · simp only [Act.put, List.setIfInBounds_toArray, List.set_cons_zero, List.set_cons_succ, i64_w, i32_w]
            rfl
          refine pure_ (i := 10) (N := some 63) (v := ?_) (a' := ?_) #[true, true, true, true, true, true, true, true, true, true, true, false, false, false, false, false, false] rfl rfl (any_of HT_.out (by kernel_rfl)) (fun _ _ _ h => h) (Or.inl ⟨by rfl, ?_⟩) ?_ ?_
          rotate_left
          · intro w'
            go_simp
            with_reducible rfl
          rotate_left
          · simp only [Act.put, List.setIfInBounds_toArray, List.set_cons_zero, List.set_cons_succ, i64_w, i32_w]
            rfl
          refine pure_ (i := 11) (N := some 64) (v := ?_) (a' := ?_) #[true, true, true, true, true, true, true, true, true, true, true, true, false, false, false, false, false] rfl rfl (any_of HT_.out (by kernel_rfl)) (fun _ _ _ h => h) (Or.inl ⟨by rfl, ?_⟩) ?_ ?_
          rotate_left
          · intro w'
            go_simp
            with_reducible rfl
          rotate_left
          · simp only [Act.put, List.setIfInBounds_toArray, List.set_cons_zero, List.set_cons_succ, i64_w, i32_w]
            rfl
          refine pure_ (i := 12) (N := some 65) (v := ?_) (a' := ?_) #[true, true, true, true, true, true, true, true, true, true, true, true, true, false, false, false, false] rfl rfl (any_of HT_.out (by kernel_rfl)) (fun _ _ _ h => h) (Or.inl ⟨by rfl, ?_⟩) ?_ ?_
          rotate_left
          · intro w'
            go_simp
            with_reducible rfl
          rotate_left
          · simp only [Act.put, List.setIfInBounds_toArray, List.set_cons_zero, List.set_cons_succ, i64_w, i32_w]
            rfl
          refine pure_ (i := 13) (N := some 66) (v := ?_) (a' := ?_) #[true, true, true, true, true, true, true, true, true, true, true, true, true, true, false, false, false] rfl rfl (any_of HT_.out (by kernel_rfl)) (fun _ _ _ h => h) (Or.inl ⟨by rfl, ?_⟩) ?_ ?_
          rotate_left
          · intro w'
            go_simp
            with_reducible rfl
          rotate_left
          · simp only [Act.put, List.setIfInBounds_toArray, List.set_cons_zero, List.set_cons_succ, i64_w, i32_w]
            rfl
          refine pure_ (i := 14) (N := some 67) (v := ?_) (a' := ?_) #[true, true, true, true, true, true, true, true, true, true, true, true, true, true, true, false, false] rfl rfl (any_of HT_.out (by kernel_rfl)) (fun _ _ _ h => h) (Or.inl ⟨by rfl, ?_⟩) ?_ ?_
          rotate_left
          · intro w'
            go_simp
            with_reducible rfl
          rotate_left
          · simp only [Act.put, List.setIfInBounds_toArray, List.set_cons_zero, List.set_cons_succ, i64_w, i32_w]
            rfl
          refine pure_ (i := 15) (N := some 68) (v := ?_) (a' := ?_) #[true, true, true, true, true, true, true, true, true, true, true, true, true, true, true, true, false] rfl rfl (any_of HT_.out (by kernel_rfl)) (fun _ _ _ h => h) (Or.inl ⟨by rfl, ?_⟩) ?_ ?_
          rotate_left
          · intro w'
            go_simp
            with_reducible rfl
          rotate_left
          · simp only [Act.put, List.setIfInBounds_toArray, List.set_cons_zero, List.set_cons_succ, i64_w, i32_w]
            rfl
          refine last_ (i := 16) (N := none) #[true, true, true, true, true, true, true, true, true, true, true, true, true, true, true, true, true] rfl rfl (one_of HT_.out (by kernel_rfl)) (by decide) (fun K hK => ?_)
          refine skip_ (w1 := ?_) (by rfl) rfl ?_ ?_
          rotate_left
          · go_simp
            rfl
          refine hK.out _ _ ?_
          clear hK K
          refine done_ (done_of HT_.out (by kernel_rfl)) ?_
          go_wp2
          have HB9 := Aside0.mk (below_set (j := j.toNat) (v := .int .u8 (Go.bits .or .u8 (rd LB j) s8)) HB1.out GG.out.1)
          go_roundg (q - 1 - k)
          case measure => have := HK.out; have := HKK.out; omega
          case rel =>
            refine ⟨k + 1, by go_num, by have := HPP.out; go_num, ⟨by have := HKK.out; omega, by omega⟩, ⟨?_⟩, ⟨HB9.out⟩⟩
            rw [← HSET.out]
            exact HP2.out
        · have d2 : decide ((k : Int) < (q : Int)) = false := decide_eq_false (by omega)
          obtain rfl : k = q := by have := HK.out.1; omega
          have h_ := HI2.out
          go_wp2
          go_roundg (l.length - 1 - i)
          case measure => have := HI.out; have := HK1.out; omega
          case rel =>
            refine ⟨i + 1, by go_num, by rw [Nat.succ_mul], ⟨by have := HK1.out; omega, by omega⟩, ⟨?_⟩, ⟨HB5.out⟩⟩
            rw [← partN_full k l i HK1.out]
            exact HV2.out
    · have d1 : decide ((i : Int) < (l.length : Int)) = false := decide_eq_false (by omega)
      obtain rfl : i = l.length := by have := HI.out.1; omega
      rw [List.take_length] at HV
      have hrb := (Kd.R_reads' HV.out).2
      have hvb : vbytes q l = H2 ++ leB (packN q l) sz := by
        unfold vbytes
        rw [HHE.out, HESZ.out, HH2.out]
      have HESZ2 := Aside0.mk HSZ.out.2
      clear HV HESZ HNW HSZ HI
      obtain ⟨BL, eBL⟩ : ∃ BL, leB (packN q l) sz = BL := ⟨_, rfl⟩
      have hBl : BL.length = sz := by rw [← eBL, leB_length]
      rw [eBL] at hrb hvb
      clear eBL
      subst hBl
      have hcon : concatF [H2, BL] = some (vbytes q l) := by
        unfold concatF
        have e : [H2, BL].flatten = vbytes q l := by rw [hvb]; simp
        rw [e, if_pos ⟨by simp, by rw [hvb, List.length_append]; have := HH2L.out; have := HESZ2.out; omega⟩]
      have HCON := Aside0.mk hcon
      have HTW := Aside0.mk (two_rows (q := 5) (e := 23) HHR.out.1 (Kd.C_below HHR.out.2 HB4.out) hrb.1 hrb.2)
      have HB9 := Aside0.mk (below_alloc (below_step HB.out HB4.out) (.cells #[.slice A3 H2.length c3, .slice Ab BL.length cb] 23))
      clear hrb hvb hcon hx0c
      go_wp2_with (go_at_call 52; refine (concat_calls _ _ [H2, BL] _ _ HTW.out (by simp) HCON.out).mono ?_; rintro e w9 ⟨v9, rfl, ho, hb⟩; have HO := Aside0.mk (Kd.R_mono (Kd.R_lower ho HB9.out.size) (ok' := fun _ => True) (fun _ _ => trivial)); have HB10 := Aside0.mk (below_step HB9.out hb); clear ho hb)
      go_ret
      exact ⟨_, rfl, HO.out, HB10.out⟩
end Go.Proofs.Ytolncaccemfbdaa.Vow

/- concordancelaw6.PackedOwn, walked by hand: a type of one's own is packed as the numbers it is made of. -/
namespace Go.Proofs.Ytolncaccemfbdaa.Hand
open Go.RowKit Go.Proofs.YtolncaccemfbdaaW.PrintWords Go.Proofs.YtolncaccemfbdaaW.PrintLast Go.Proofs.YtolncaccemfbdaaW.PrintMore
open Go.Proofs.Ytolncaccemfbdaa.Plain Go.Proofs.Ytolncaccemfbdaa.PPk
attribute [local go_sem] max2_int min2_int max_two min_two
set_option linter.unusedVariables false
set_option linter.unusedSimpArgs false
theorem wf_u16 {a : Int} (h : (Lit.int .u16 a).wf = true) : 0 ≤ a ∧ a < 65536 := by
  have h : IntKind.u16.min ≤ a ∧ a ≤ IntKind.u16.max := by simpa [Lit.wf] using h
  rw [show IntKind.u16.min = 0 from by decide, show IntKind.u16.max = 65535 from by decide] at h
  omega
def own.T13 : Bool × List (List Nat × List Nat) := (true, [([], []), ([0], [0]), ([1], [1]), ([], []), ([3, 1], [3]), ([4], [4]), ([2, 5], [2, 5]), ([6, 4], [6]), ([7, 7], [7]), ([7, 8], [7, 8]), ([9, 8, 0, 1, 2, 3, 4, 5, 6, 7, 8, 9], [9])])
def own.B13 : List Nat := [0, 1, 3, 0, 11, 27, 63, 127, 255, 511, 1023]
theorem own.tab13 : rtab .any (opsOf Try.f6 13) = own.T13 := by kernel_rfl
theorem own.bits13 : waitsOk own.T13.2 own.B13 = true := by kernel_rfl
set_option maxHeartbeats 8000000 in
set_option maxRecDepth 100000 in
theorem own_walk (A0 : Option Addr) (c0 : Nat) (l : List Int) (w : World) (hr0 : Kd.C (Kd.int .u16) w A0 l.length l) (hc0 : l.length ≤ c0) (_y0 : l.length * 2 ≤ 140737488351232) (hw0 : ∀ n ∈ l, (Lit.int .u16 n).wf = true) :
    Calls Try.prog 6 #[.slice A0 l.length c0] w fun e w' => e = .returned (.bool true) ∧ Below w.heap.size w w' := by
  have hbl : ∀ x ∈ l, 0 ≤ x ∧ x < 65536 := fun x hx => by have := wf_u16 (hw0 x hx); omega
  have HBL := Aside0.mk hbl
  have HR0 := Aside0.mk hr0
  have HB := Aside0.mk (Below.refl w.heap.size w)
  clear hw0 hr0 _y0
  by_cases k1 : 2000 < l.length
  · have d1 : decide (2000 < (l.length : Int)) = true := decide_eq_true (by omega)
    clear hbl
    go_enter Try.func6, Try.ntmps6
    go_wp2_with (first | (go_at_call 11; refine (awake6_calls _).mono ?_; rintro e w9 ⟨rfl, hb⟩; have n1_ := Aside0.mk (below_step HB.out hb); clear HB hb; have HB := n1_; clear n1_))
    go_ret
    exact ⟨rfl, HB.out⟩
  have d1 : decide (2000 < (l.length : Int)) = false := decide_eq_false (by omega)
  have hb64 : ∀ x ∈ l, 0 ≤ x ∧ x < 18446744073709551616 := fun x hx => by have := hbl x hx; omega
  have hwf := Vow.width_f l hbl (by omega)
  have hwf2 := V16.width_f l hbl (by omega)
  have h64 := widthL_64 hb64
  have hne : newE (widthL l : Int) l = 0 := newE_of (by omega) (by omega) (Int.le_refl _) (by omega)
  have HL6 := Aside0.mk (show l.length ≤ 1000000 by omega)
  have HL5 := Aside0.mk (show l.length ≤ 2000 by omega)
  obtain ⟨m, em⟩ : ∃ m, widthL l = m := ⟨_, rfl⟩
  rw [em] at hwf hwf2 h64 hne
  have HWF := Aside0.mk hwf
  have HWF2 := Aside0.mk hwf2
  have HNE := Aside0.mk hne
  have H64 := Aside0.mk h64
  clear hwf hwf2 hne em h64 hbl hb64 k1
  go_enter Try.func6, Try.ntmps6
  go_wp2
  go_loopg [3, 4] l.length (fun kq v3 v4 w' => ∃ (i : Nat) (M : List Int), v4 = .int .i64 (i : Int) ∧ Aside0 (M = l.take i ∧ i ≤ l.length ∧ l.length - i ≤ kq) ∧ Aside0 (Kd.R (Kd.int .u16) 41 w' w.heap.size (fun _ => True) v3 M) ∧ Aside0 (Below w.heap.size w w'))
  case atStart => exact ⟨0, [], rfl, ⟨rfl, by omega, by omega⟩, ⟨Kd.R_nil _ _ _ _ _⟩, ⟨HB.out⟩⟩
  case round =>
    clear HB
    obtain ⟨i, M, rfl, HI, HV, HB⟩ := hrel
    have hi5 : i ≤ 2000 := by have := HI.out; have := HL5.out; omega
    have hMl : M.length = i := by rw [HI.out.1, List.length_take]; have := HI.out.2.1; omega
    have HML := Aside0.mk hMl
    obtain ⟨Am, cm, rfl⟩ := Kd.R_slice HV.out
    by_cases k2 : i < l.length
    · have d2 : decide ((i : Int) < (l.length : Int)) = true := decide_eq_true (by omega)
      obtain ⟨ad, rfl, hcell⟩ := Kd.at_int (Kd.C_below HR0.out HB.out) (i : Int) (by omega) (by omega)
      rw [Int.toNat_natCast, rd_at l i k2] at hcell
      have htk : l.take (i + 1) = M ++ [l[i]] := by rw [List.take_succ_eq_append_getElem k2, HI.out.1]
      obtain ⟨x, ex⟩ : ∃ x, l[i] = x := ⟨_, rfl⟩
      rw [ex] at hcell htk
      have HTK := Aside0.mk htk
      have HK2 := Aside0.mk k2
      clear htk ex hMl
      go_wp2_with (first | ((with_reducible refine gate_builtin (b := .append) (xs := #[.tmp 20, .tmp 25]) rfl ?_); at_builtin; refine Kd.R_append (Kd.int .u16) (w0 := w) w.heap.size rfl (.tmp 20) (.tmp 25) 39 41 (.int .u16 0) 2 rfl Try.underlying39 Vow.hinfo rfl (by decide) (by omega) (.slice Am M.length cm) M x [.int .u16 x] (fun _ => True) (fun _ => False) rfl rfl rfl (fun _ h => h.elim) (fun _ _ => trivial) HV.out HB.out HB.out.size (by have := HML.out; omega) ?_; intro w3v w3 ho hb hg hat; clear HV HB; have HV := Aside0.mk ho; have HB := Aside0.mk hb; clear ho hb hg hat))
      go_roundg (l.length - 1 - i)
      case measure => have := HI.out; have := HK2.out; omega
      case rel => exact ⟨i + 1, _, by go_num, ⟨HTK.out.symm, by have := HK2.out; omega, by omega⟩, ⟨HV.out⟩, ⟨HB.out⟩⟩
    · have d2 : decide ((i : Int) < (l.length : Int)) = false := decide_eq_false (by omega)
      obtain rfl : i = l.length := by have := HI.out.2.1; omega
      obtain rfl : M = l := by rw [HI.out.1, List.take_length]
      have HM := Aside0.mk (Kd.R_reads' HV.out).2
      have HBm := Aside0.mk (Below.refl wr.heap.size wr)
      clear HV HI HML hMl
      go_wp2_with (first | (go_at_call 15; refine (packed_Width_uint16.calls _ _ _ _ _ _ (Kd.C_below HR0.out HB.out) hc0 HWF2.out).mono ?_; rintro e w1 ⟨rfl, hb⟩; have n2_ := Aside0.mk (And.intro HM.out.1 (Kd.C_below HM.out.2 hb)); clear HM; have HM := n2_; clear n2_; have n1_ := Aside0.mk (below_step HB.out hb); clear HB hb; have HB := n1_; clear n1_) | (go_at_call 16; refine (V16.new_good (m : Int) A0 c0 M _ (Kd.C_below HR0.out HB.out) hc0 HBL.out HL6.out HNE.out).mono ?_; rintro e w2 ⟨g, rfl, hg, hV, hb⟩; have HVA := Aside0.mk hV; have n2_ := Aside0.mk (And.intro HM.out.1 (Kd.C_below HM.out.2 hb)); clear HM hg hV; have HM := n2_; clear n2_; have n1_ := Aside0.mk (below_step HB.out hb); clear HB hb; have HB := n1_; clear n1_) | (go_at_call 17; refine (Vow.new_good (m : Int) Am cm M _ HM.out.2 HM.out.1 HBL.out HL6.out HNE.out).mono ?_; rintro e w3 ⟨g2, rfl, hg, hV, hb⟩; have HVB := Aside0.mk hV; have n0_ := Aside0.mk (HVA.out.below hb); have n2_ := Aside0.mk (And.intro HM.out.1 (Kd.C_below HM.out.2 hb)); clear HM HVA hg hV; have HM := n2_; have HVA := n0_; clear n2_ n0_; have n1_ := Aside0.mk (below_step HB.out hb); clear HB hb; have HB := n1_; clear n1_) | (go_at_call 18; refine (concordancelaw6_own_18.calls _ _ _ _ _ _ HM.out.2 HM.out.1 HWF.out).mono ?_; rintro e w4 ⟨rfl, hb⟩; have n0_ := Aside0.mk (HVA.out.below hb); have n2_ := Aside0.mk (HVB.out.below hb); clear HM HVA HVB; have HVA := n0_; have HVB := n2_; clear n2_ n0_; have n1_ := Aside0.mk (below_step HB.out hb); clear HB hb; have HB := n1_; clear n1_))
      have h64 := H64.out
      have HL1 := Aside0.mk (show M.length ≤ 100000 by have := HL5.out; omega)
      obtain ⟨BY, eBY⟩ : ∃ BY, vbytes m M = BY := ⟨_, rfl⟩
      have HBY := Aside0.mk eBY
      clear eBY
      refine start_ (n := 11) (S := fun w' => Below w4.heap.size w4 w') (ds := []) #[false, false, false, false, false, false, false, false, false, false, false] (by kernel_rfl) rfl rfl (below_drew1 (Below.refl _ _)) (fun hHeld => ?_)
      refine with_tabW own.tab13 own.bits13 (fun HT_ HW_ => ?_)
      refine pure_ (i := 0) (N := some 61) (v := ?_) (a' := ?_) #[true, false, false, false, false, false, false, false, false, false, false] rfl rfl (any_of HT_.out (by kernel_rfl)) (fun _ _ _ h => h) (Or.inl ⟨by rfl, ?_⟩) ?_ ?_
      rotate_left
      · intro w'
        go_simp
        with_reducible rfl
      rotate_left
      · simp only [Act.put, List.setIfInBounds_toArray, List.set_cons_zero, List.set_cons_succ, i64_w, i32_w]
        rfl
      refine pure_ (i := 3) (N := some 64) (v := ?_) (a' := ?_) #[true, false, false, true, false, false, false, false, false, false, false] rfl rfl (any_of HT_.out (by kernel_rfl)) (fun _ _ _ h => h) (Or.inl ⟨by rfl, ?_⟩) ?_ ?_
      rotate_left
      · intro w'
        go_simp
        with_reducible rfl
      rotate_left
      · simp only [Act.put, List.setIfInBounds_toArray, List.set_cons_zero, List.set_cons_succ, i64_w, i32_w]
        rfl
      refine join_ (σ := Option Addr × Nat × Option Addr × Nat) 5 #[true, true, true, true, true, true, false, false, false, false, false] (fun s_ => [(62, .slice s_.1 BY.length s_.2.1), (63, .string (strOfNums BY)), (65, .slice s_.2.2.1 BY.length s_.2.2.2), (66, .string (strOfNums BY))]) (fun _ w' => Below w4.heap.size w4 w') ?_ ?_
      rotate_left
      · intro hCont
        refine one_ (i := 1) (N := some 62) #[true, true, false, true, false, false, false, false, false, false, false] rfl rfl (one_of HT_.out (by kernel_rfl)) (by decide) (fun K hK => ?_)
        refine goes_ Try.func19 (by kernel_rfl) rfl #[.pointer (some ⟨g, 0, none⟩)] (by rfl) rfl rfl (by (try simp only [List.map_toArray, List.map_cons, List.map_nil]); first | done | rfl) ?_
        refine (V16.bytes_calls g m M _ (HVA.out.below hHeld) H64.out HL1.out HBL.out).mono ?_
        rintro e w5 ⟨v5, rfl, ho5, hb⟩
        rw [HBY.out] at ho5
        obtain ⟨A5, c5, rfl⟩ := Kd.R_slice ho5
        refine ⟨_, rfl, ?_⟩
        have hS_ := below_step hHeld hb
        have hC5 := (Kd.R_reads' ho5).2.2
        (try replace hC6 := Kd.C_below hC6 hb)
        refine hK.out _ _ hS_ (fun hHeld => ?_)
        clear hK K
        refine norm_ (a' := ?_) ?_ ?_
        rotate_left
        · show Act.put _ (some 62) _ = _
          simp only [Act.put, List.setIfInBounds_toArray, List.set_cons_zero, List.set_cons_succ, i64_w, i32_w]
          rfl
        refine two_ (i := 2) (j := 4) (Ni := some 63) (Nj := some 65) #[true, true, true, true, false, false, false, false, false, false, false] #[true, true, false, true, true, false, false, false, false, false, false] rfl rfl rfl rfl (two_of HT_.out (by kernel_rfl)) (by decide) (by decide) (fun K hK => ?_) (fun K hK => ?_)
        · skip
          have hcv := Kd.C_string (P := Try.prog) (A := A5) (c := c5) Try.underlying23 Try.underlying5 Try.underlying9 hC5
          refine value_ (w1 := ?_) (v := ?_) (by rfl) rfl ?_ ?_
          rotate_left 2
          · go_simp
            constructor
            · rfl
            · rfl
          clear hcv
          have hS_ := hHeld
          refine hK.out _ _ hS_ (fun hHeld => ?_)
          clear hK K
          refine norm_ (a' := ?_) ?_ ?_
          rotate_left
          · show Act.put _ (some 63) _ = _
            simp only [Act.put, List.setIfInBounds_toArray, List.set_cons_zero, List.set_cons_succ, i64_w, i32_w]
            rfl
          refine one_ (i := 4) (N := some 65) #[true, true, true, true, true, false, false, false, false, false, false] rfl rfl (one_of HT_.out (by kernel_rfl)) (by decide) (fun K hK => ?_)
          refine goes_ Try.func20 (by kernel_rfl) rfl #[.pointer (some ⟨g2, 0, none⟩)] (by rfl) rfl rfl (by (try simp only [List.map_toArray, List.map_cons, List.map_nil]); first | done | rfl) ?_
          refine (Vow.bytes_calls g2 m M _ (HVB.out.below hHeld) H64.out HL1.out HBL.out).mono ?_
          rintro e w6 ⟨v6, rfl, ho6, hb⟩
          rw [HBY.out] at ho6
          obtain ⟨A6, c6, rfl⟩ := Kd.R_slice ho6
          refine ⟨_, rfl, ?_⟩
          have hS_ := below_step hHeld hb
          have hC6 := (Kd.R_reads' ho6).2.2
          (try replace hC5 := Kd.C_below hC5 hb)
          refine hK.out _ _ hS_ (fun hHeld => ?_)
          clear hK K
          refine norm_ (a' := ?_) ?_ ?_
          rotate_left
          · show Act.put _ (some 65) _ = _
            simp only [Act.put, List.setIfInBounds_toArray, List.set_cons_zero, List.set_cons_succ, i64_w, i32_w]
            rfl
          refine one_ (i := 5) (N := some 66) #[true, true, true, true, true, true, false, false, false, false, false] rfl rfl (one_of HT_.out (by kernel_rfl)) (by decide) (fun K hK => ?_)
          have hcv := Kd.C_string (P := Try.prog) (A := A6) (c := c6) Try.underlying23 Try.underlying5 Try.underlying9 hC6
          refine value_ (w1 := ?_) (v := ?_) (by rfl) rfl ?_ ?_
          rotate_left 2
          · go_simp
            constructor
            · rfl
            · rfl
          clear hcv
          have hS_ := hHeld
          refine hK.out _ _ hS_ (fun hHeld => ?_)
          clear hK K
          refine norm_ (a' := ?_) ?_ ?_
          rotate_left
          · show Act.put _ (some 66) _ = _
            simp only [Act.put, List.setIfInBounds_toArray, List.set_cons_zero, List.set_cons_succ, i64_w, i32_w]
            rfl
          exact norm_ (by simp only [putAll, Act.put, List.setIfInBounds_toArray, List.set_cons_zero, List.set_cons_succ] <;> rfl) (hCont (A5, c5, A6, c6) _ hHeld)
        · skip
          refine goes_ Try.func20 (by kernel_rfl) rfl #[.pointer (some ⟨g2, 0, none⟩)] (by rfl) rfl rfl (by (try simp only [List.map_toArray, List.map_cons, List.map_nil]); first | done | rfl) ?_
          refine (Vow.bytes_calls g2 m M _ (HVB.out.below hHeld) H64.out HL1.out HBL.out).mono ?_
          rintro e w6 ⟨v6, rfl, ho6, hb⟩
          rw [HBY.out] at ho6
          obtain ⟨A6, c6, rfl⟩ := Kd.R_slice ho6
          refine ⟨_, rfl, ?_⟩
          have hS_ := below_step hHeld hb
          have hC6 := (Kd.R_reads' ho6).2.2
          (try replace hC5 := Kd.C_below hC5 hb)
          refine hK.out _ _ hS_ (fun hHeld => ?_)
          clear hK K
          refine norm_ (a' := ?_) ?_ ?_
          rotate_left
          · show Act.put _ (some 65) _ = _
            simp only [Act.put, List.setIfInBounds_toArray, List.set_cons_zero, List.set_cons_succ, i64_w, i32_w]
            rfl
          refine two_ (i := 2) (j := 5) (Ni := some 63) (Nj := some 66) #[true, true, true, true, true, false, false, false, false, false, false] #[true, true, false, true, true, true, false, false, false, false, false] rfl rfl rfl rfl (two_of HT_.out (by kernel_rfl)) (by decide) (by decide) (fun K hK => ?_) (fun K hK => ?_)
          · skip
            have hcv := Kd.C_string (P := Try.prog) (A := A5) (c := c5) Try.underlying23 Try.underlying5 Try.underlying9 hC5
            refine value_ (w1 := ?_) (v := ?_) (by rfl) rfl ?_ ?_
            rotate_left 2
            · go_simp
              constructor
              · rfl
              · rfl
            clear hcv
            have hS_ := hHeld
            refine hK.out _ _ hS_ (fun hHeld => ?_)
            clear hK K
            refine norm_ (a' := ?_) ?_ ?_
            rotate_left
            · show Act.put _ (some 63) _ = _
              simp only [Act.put, List.setIfInBounds_toArray, List.set_cons_zero, List.set_cons_succ, i64_w, i32_w]
              rfl
            refine one_ (i := 5) (N := some 66) #[true, true, true, true, true, true, false, false, false, false, false] rfl rfl (one_of HT_.out (by kernel_rfl)) (by decide) (fun K hK => ?_)
            have hcv := Kd.C_string (P := Try.prog) (A := A6) (c := c6) Try.underlying23 Try.underlying5 Try.underlying9 hC6
            refine value_ (w1 := ?_) (v := ?_) (by rfl) rfl ?_ ?_
            rotate_left 2
            · go_simp
              constructor
              · rfl
              · rfl
            clear hcv
            have hS_ := hHeld
            refine hK.out _ _ hS_ (fun hHeld => ?_)
            clear hK K
            refine norm_ (a' := ?_) ?_ ?_
            rotate_left
            · show Act.put _ (some 66) _ = _
              simp only [Act.put, List.setIfInBounds_toArray, List.set_cons_zero, List.set_cons_succ, i64_w, i32_w]
              rfl
            exact norm_ (by simp only [putAll, Act.put, List.setIfInBounds_toArray, List.set_cons_zero, List.set_cons_succ] <;> rfl) (hCont (A5, c5, A6, c6) _ hHeld)
          · skip
            have hcv := Kd.C_string (P := Try.prog) (A := A6) (c := c6) Try.underlying23 Try.underlying5 Try.underlying9 hC6
            refine value_ (w1 := ?_) (v := ?_) (by rfl) rfl ?_ ?_
            rotate_left 2
            · go_simp
              constructor
              · rfl
              · rfl
            clear hcv
            have hS_ := hHeld
            refine hK.out _ _ hS_ (fun hHeld => ?_)
            clear hK K
            refine norm_ (a' := ?_) ?_ ?_
            rotate_left
            · show Act.put _ (some 66) _ = _
              simp only [Act.put, List.setIfInBounds_toArray, List.set_cons_zero, List.set_cons_succ, i64_w, i32_w]
              rfl
            refine one_ (i := 2) (N := some 63) #[true, true, true, true, true, true, false, false, false, false, false] rfl rfl (one_of HT_.out (by kernel_rfl)) (by decide) (fun K hK => ?_)
            have hcv := Kd.C_string (P := Try.prog) (A := A5) (c := c5) Try.underlying23 Try.underlying5 Try.underlying9 hC5
            refine value_ (w1 := ?_) (v := ?_) (by rfl) rfl ?_ ?_
            rotate_left 2
            · go_simp
              constructor
              · rfl
              · rfl
            clear hcv
            have hS_ := hHeld
            refine hK.out _ _ hS_ (fun hHeld => ?_)
            clear hK K
            refine norm_ (a' := ?_) ?_ ?_
            rotate_left
            · show Act.put _ (some 63) _ = _
              simp only [Act.put, List.setIfInBounds_toArray, List.set_cons_zero, List.set_cons_succ, i64_w, i32_w]
              rfl
            exact norm_ (by simp only [putAll, Act.put, List.setIfInBounds_toArray, List.set_cons_zero, List.set_cons_succ] <;> rfl) (hCont (A5, c5, A6, c6) _ hHeld)
      rintro ⟨A5, c5, A6, c6⟩ w7 hHeld
      refine norm_ (a' := ?_) ?_ ?_
      rotate_left
      · simp only [putAll, Act.put, List.setIfInBounds_toArray, List.set_cons_zero, List.set_cons_succ, i64_w, i32_w]
        rfl
      refine pure_ (i := 6) (N := some 67) (v := ?_) (a' := ?_) #[true, true, true, true, true, true, true, false, false, false, false] rfl rfl (any_of HT_.out (by kernel_rfl)) (fun _ _ _ h => h) (Or.inl ⟨by rfl, ?_⟩) ?_ ?_
      rotate_left
      · intro w'
        go_simp
        with_reducible rfl
      rotate_left
      · simp only [Act.put, List.setIfInBounds_toArray, List.set_cons_zero, List.set_cons_succ, i64_w, i32_w]
        rfl
      refine pure_ (i := 7) (N := some 68) (v := ?_) (a' := ?_) #[true, true, true, true, true, true, true, true, false, false, false] rfl rfl (any_of HT_.out (by kernel_rfl)) (fun _ _ _ h => h) (Or.inl ⟨by rfl, ?_⟩) ?_ ?_
      rotate_left
      · intro w'
        go_simp
        with_reducible rfl
      rotate_left
      · simp only [Act.put, List.setIfInBounds_toArray, List.set_cons_zero, List.set_cons_succ, i64_w, i32_w]
        rfl
      refine one_ (i := 8) (N := some 69) #[true, true, true, true, true, true, true, true, true, false, false] rfl rfl (one_of HT_.out (by kernel_rfl)) (by decide) (fun K hK => ?_)
      refine goes_ Try.func11 (by kernel_rfl) rfl #[] (by rfl) rfl rfl (by (try simp only [List.map_toArray, List.map_cons, List.map_nil]); first | done | rfl) ?_
      refine (awake6_calls _).mono ?_
      rintro e w8 ⟨rfl, hb⟩
      refine ⟨_, rfl, ?_⟩
      have hS_ := below_step hHeld hb
      refine hK.out _ _ hS_ (fun hHeld => ?_)
      clear hK K
      refine norm_ (a' := ?_) ?_ ?_
      rotate_left
      · show Act.put _ (some 69) _ = _
        simp only [Act.put, List.setIfInBounds_toArray, List.set_cons_zero, List.set_cons_succ, i64_w, i32_w]
        rfl
      refine pure_ (i := 9) (N := some 70) (v := ?_) (a' := ?_) #[true, true, true, true, true, true, true, true, true, true, false] rfl rfl (any_of HT_.out (by kernel_rfl)) (fun _ _ _ h => h) (Or.inl ⟨by rfl, ?_⟩) ?_ ?_
      rotate_left
      · intro w'
        go_simp
        with_reducible rfl
      rotate_left
      · simp only [Act.put, List.setIfInBounds_toArray, List.set_cons_zero, List.set_cons_succ, i64_w, i32_w]
        rfl
      refine pure_ (i := 10) (N := some 2) (v := ?_) (a' := ?_) #[true, true, true, true, true, true, true, true, true, true, true] rfl rfl (any_of HT_.out (by kernel_rfl)) (fun _ _ _ h => h) (Or.inl ⟨by rfl, ?_⟩) ?_ ?_
      rotate_left
      · intro w'
        go_simp
        with_reducible rfl
      rotate_left
      · simp only [Act.put, List.setIfInBounds_toArray, List.set_cons_zero, List.set_cons_succ, i64_w, i32_w]
        rfl
      refine done_ (done_of HT_.out (by kernel_rfl)) ?_
      go_wp2
      go_ret
      exact ⟨rfl, below_step HB.out hHeld⟩
end Go.Proofs.Ytolncaccemfbdaa.Hand

/- concordancelaw6.PackedShorts, walked by hand. -/
namespace Go.Proofs.Ytolncaccemfbdaa.Hand
open Go.RowKit Go.Proofs.YtolncaccemfbdaaW.PrintWords Go.Proofs.YtolncaccemfbdaaW.PrintLast Go.Proofs.YtolncaccemfbdaaW.PrintMore
open Go.Proofs.Ytolncaccemfbdaa.Plain Go.Proofs.Ytolncaccemfbdaa.PPk
attribute [local go_sem] max2_int min2_int max_two min_two
set_option linter.unusedVariables false
set_option linter.unusedSimpArgs false
set_option maxHeartbeats 4000000 in
set_option maxRecDepth 100000 in
theorem shorts_walk (a0 : Int) (A1 : Option Addr) (c1 : Nat) (l1 : List Int) (A2 : Option Addr) (c2 : Nat) (l2 : List Int) (a3 : Int) (w : World) (hw0 : (Lit.int .i64 a0).wf = true)
    (hr1 : Kd.C (Kd.int .u16) w A1 l1.length l1) (hc1 : l1.length ≤ c1) (_y1 : l1.length * 2 ≤ 140737488351232) (hw1 : ∀ n ∈ l1, (Lit.int .u16 n).wf = true)
    (hr2 : Kd.C (Kd.int .u8) w A2 l2.length l2) (hc2 : l2.length ≤ c2) (_y2 : l2.length * 1 ≤ 140737488351232) (hw2 : ∀ n ∈ l2, (Lit.int .u8 n).wf = true) (hw3 : (Lit.int .i64 a3).wf = true) :
    Calls Try.prog 9 #[.int .i64 a0, .slice A1 l1.length c1, .slice A2 l2.length c2, .int .i64 a3] w fun e w' => e = .returned (.bool true) ∧ Below w.heap.size w w' := by
  have hb1 : ∀ x ∈ l1, 0 ≤ x ∧ x < 65536 := fun x hx => wf_u16 (hw1 x hx)
  have hb2 : isB l2 := fun x hx => Plain.wf_u8 (hw2 x hx)
  have HB1 := Aside0.mk hb1
  have HB2 := Aside0.mk hb2
  have HR1 := Aside0.mk hr1
  have HR2 := Aside0.mk hr2
  have HB := Aside0.mk (Below.refl w.heap.size w)
  clear hw0 hw1 hw2 hw3 hr1 hr2 hb1 hb2 _y1 _y2
  by_cases k1 : 2000 < l1.length
  · have d1 : decide (2000 < (l1.length : Int)) = true := decide_eq_true (by omega)
    go_enter Try.func9, Try.ntmps9
    go_wp2
    go_ret
    exact ⟨rfl, HB.out⟩
  have d1 : decide (2000 < (l1.length : Int)) = false := decide_eq_false (by omega)
  by_cases k2 : 3000 < l2.length
  · have d2 : decide (3000 < (l2.length : Int)) = true := decide_eq_true (by omega)
    go_enter Try.func9, Try.ntmps9
    go_wp2
    go_ret
    exact ⟨rfl, HB.out⟩
  have d2 : decide (3000 < (l2.length : Int)) = false := decide_eq_false (by omega)
  have HN1 := Aside0.mk (show l1.length ≤ 2000 by omega)
  have HN2 := Aside0.mk (show l2.length ≤ 3000 by omega)
  clear k1 k2
  go_enter Try.func9, Try.ntmps9
  go_wp2_with (first | (go_at_call 32; refine (V16.plays_calls a0 A1 c1 l1 A2 c2 l2 a3 _ (Kd.C_below HR1.out HB.out) hc1 HN1.out HB1.out (Kd.C_below HR2.out HB.out) hc2 HN2.out HB2.out).mono ?_; rintro e w1 ⟨rfl, hb⟩; have n1_ := Aside0.mk (below_step HB.out hb); clear HB hb; have HB := n1_; clear n1_) | (go_at_call 11; refine (awake6_calls _).mono ?_; rintro e w9 ⟨rfl, hb⟩; have n1_ := Aside0.mk (below_step HB.out hb); clear HB hb; have HB := n1_; clear n1_))
  go_ret
  exact ⟨rfl, HB.out⟩
end Go.Proofs.Ytolncaccemfbdaa.Hand
