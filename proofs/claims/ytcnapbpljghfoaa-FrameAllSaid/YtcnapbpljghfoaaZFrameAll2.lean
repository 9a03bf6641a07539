/- Texts of this seat, one behind the other: what concordance's FrameAll reaches. -/
import Derived.Test.YtcnapbpljghfoaaZFrameAll1
import Derived.Deep.QuietTactic
import Derived.BigQuiet
import Derived.Test.YtcnapbpljghfoaaZFrameAll0
/- concordancelaw3.FrameRows, walked by hand: records one behind the other are told with their places, each as it was put; from any of these places on it is the same. -/
namespace Go.Proofs.Ytcnapbpljghfoaa.Hand
open Go.RowKit Go.Proofs.YtcnapbpljghfoaaW.PrintWords Go.Proofs.YtcnapbpljghfoaaW.PrintLast Go.Proofs.YtcnapbpljghfoaaW.PrintMore
open Go.Proofs.Ytcnapbpljghfoaa.Plain Go.Proofs.Ytcnapbpljghfoaa.PCrc
attribute [local go_sem] max2_int min2_int max_two min_two
set_option linter.unusedVariables false
set_option linter.unusedSimpArgs false
/-- The cells of a record in a row of records. -/
theorem frow_cells {w : World} {g : Nat} {rs : List (Int × List Int)} (h : Kd.C kdFrame w (some ⟨g, 0, none⟩) rs.length rs) (j : Nat) (hj : j < rs.length) :
    ∃ A c, w.cell? ⟨g, j * 2, none⟩ = some (.int .i64 rs[j].1) ∧ w.cell? ⟨g, j * 2 + 1, none⟩ = some (.slice A rs[j].2.length c) ∧ rs[j].2.length ≤ c ∧ Kd.C (Kd.int .u8) w A rs[j].2.length rs[j].2 := by
  obtain ⟨ad, c, e, hcl, hK, hc⟩ := Kd.C_get h (0, []) (j : Int) (by omega) (by omega)
  injection e with e
  subst e
  rw [Int.toNat_natCast, List.getD_eq_getElem?_getD, List.getElem?_eq_getElem hj, Option.getD_some] at hK
  rw [Int.toNat_natCast] at hc
  obtain ⟨x0, x1, rfl, h0, A, c', h1, h2, h3⟩ := hK
  have h0' : x0 = [.int .i64 rs[j].1] := h0
  subst h0' h1
  have e0 := hc 0 _ rfl
  have e1 := hc 1 _ rfl
  rw [add_plain] at e0 e1
  exact ⟨A, c', e0, e1, h2, h3⟩
def rows.T19 : Bool × List (List Nat × List Nat) := (true, [([], []), ([], []), ([0, 1], [0, 1]), ([2], [2]), ([], []), ([], []), ([4, 5], [4, 5]), ([6], [6]), ([3, 7], [3, 7]), ([8], [8]), ([9], [9]), ([9], [9]), ([10, 11, 9], [9, 10, 11]), ([12, 9], [9, 12]), ([13, 9], [9, 13]), ([9], [9]), ([15, 9], [9, 15]), ([16, 9], [9, 16]), ([14, 17, 9], [9, 14, 17]), ([9, 18], [9, 18]), ([19, 9], [19]), ([20], [20]), ([20], [20]), ([21, 22, 20], [20, 21, 22]), ([23, 20], [20, 23]), ([24, 20], [20, 24]), ([25, 20], [20, 25]), ([20], [20]), ([20], [20]), ([27, 28, 20], [20, 27, 28]), ([29, 20], [20, 29]), ([30, 20], [20, 30]), ([26, 31, 20], [20, 26, 31]), ([20, 32], [20, 32])])
def rows.B19 : List Nat := [0, 0, 3, 7, 0, 0, 48, 112, 255, 511, 1023, 1023, 4095, 8191, 16383, 1023, 33791, 99327, 262143, 524287, 1048575, 2097151, 2097151, 8388607, 16777215, 33554431, 67108863, 2097151, 2097151, 404750335, 941621247, 2015363071, 4294967295, 8589934591]
theorem rows.tab19 : rtab .any (opsOf Try.f6 19) = rows.T19 := by kernel_rfl
theorem rows.bits19 : waitsOk rows.T19.2 rows.B19 = true := by kernel_rfl
def rows.T26 : Bool × List (List Nat × List Nat) := (true, [([], []), ([0], [0]), ([], []), ([2], [2]), ([], []), ([3, 4], [3, 4]), ([1, 5], [1, 5]), ([6], [6]), ([7], [7]), ([8, 7], [7, 8]), ([7], [7]), ([10, 7], [7, 10]), ([9, 11, 7], [7, 9, 11]), ([7, 12], [7, 12]), ([13, 7], [13]), ([14], [14]), ([15, 14], [14, 15]), ([16, 14], [14, 16]), ([17, 14], [14, 17]), ([14, 18], [14, 18]), ([19, 14], [19]), ([20], [20]), ([21, 20], [20, 21]), ([20, 22], [20, 22]), ([23, 20], [23]), ([24], [24]), ([25, 24], [24, 25]), ([24], [24]), ([27, 24], [24, 27]), ([28, 24], [24, 28]), ([29, 24], [24, 29]), ([26, 30, 24], [24, 26, 30]), ([24, 31], [24, 31]), ([32, 24], [32]), ([33], [33]), ([33], [33]), ([33], [33]), ([35, 36, 33], [33, 35, 36]), ([37, 33], [33, 37]), ([33], [33]), ([33], [33]), ([39, 40, 33], [33, 39, 40]), ([41, 33], [33, 41]), ([42, 33], [33, 42]), ([43, 33, 33], [33, 43]), ([38, 44, 33], [33, 38, 44]), ([34, 45, 33], [33, 34, 45]), ([33, 46], [33, 46]), ([47, 44], [47]), ([48, 48], [48]), ([48, 49], [48, 49]), ([50, 49, 0, 1, 2, 3, 4, 5, 6, 7, 8, 9, 10, 11, 12, 13, 14, 15, 16, 17, 18, 19, 20, 21, 22, 23, 24, 25, 26, 27, 28, 29, 30, 31, 32, 33, 34, 35, 36, 37, 38, 39, 40, 41, 42, 43, 44, 45, 46, 47, 48, 49, 50], [50])])
def rows.B26 : List Nat := [0, 1, 0, 4, 0, 28, 63, 127, 255, 511, 255, 1279, 4095, 8191, 16383, 32767, 65535, 131071, 262143, 524287, 1048575, 2097151, 4194303, 8388607, 16777215, 33554431, 67108863, 33554431, 167772159, 436207615, 973078527, 2147483647, 4294967295, 8589934591, 17179869183, 17179869183, 17179869183, 120259084287, 257698037759, 17179869183, 17179869183, 1666447310847, 3865470566399, 8263517077503, 17059610099711, 35167192219647, 70368744177663, 140737488355327, 281474976710655, 562949953421311, 1125899906842623, 2251799813685247]
theorem rows.tab26 : rtab .any (opsOf Try.f6 26) = rows.T26 := by kernel_rfl
theorem rows.bits26 : waitsOk rows.T26.2 rows.B26 = true := by kernel_rfl
set_option maxHeartbeats 8000000 in
set_option maxRecDepth 100000 in
theorem rows_walk (A0 : Option Addr) (c0 : Nat) (L : List (List Int)) (a1 : Int) (w : World) (hr0 : Kd.C (Kd.slice 5 (Kd.int .u8)) w A0 L.length L) (hc0 : L.length ≤ c0) (hw0 : ∀ x ∈ L, ∀ n ∈ x, (Lit.int .u8 n).wf = true) (hw1 : (Lit.int .i64 a1).wf = true) :
    Calls Try.prog 6 #[.slice A0 L.length c0, .int .i64 a1] w fun e w' => e = .returned (.bool true) ∧ Below w.heap.size w w' := by
  have HBL := Aside0.mk (show ∀ x ∈ L, isB x from fun x hx n hn => Plain.wf_u8 (hw0 x hx n hn))
  have HAW := Aside0.mk (awake3_f 0)
  have HR0 := Aside0.mk hr0
  have HLM := Aside0.mk (Kd.C_max hr0)
  have HB := Aside0.mk (Below.refl w.heap.size w)
  clear hw0 hr0
  go_enter Try.func6, Try.ntmps6
  go_wp2
  go_loopg [5, 6, 7] 11 (fun kq v5 v6 v7 w' => ∃ (i : Nat), v7 = .int .i64 (i : Int) ∧ Aside0 (i ≤ 10 ∧ i ≤ L.length ∧ 10 - i ≤ kq) ∧ Aside0 (∀ j, j < i → (rd_L1 L (j : Int)).length ≤ 300) ∧ Aside0 (Kd.R (Kd.int .u8) 5 w' w.heap.size (fun _ => True) v5 (catL (recsOf (fun j => (j : Int) * 25 + 1) L i))) ∧ Aside0 (Kd.R (Kd.int .i64) 3 w' w.heap.size (fun _ => True) v6 (endsOf (fun j => (j : Int) * 25 + 1) L i)) ∧ Aside0 (Below w.heap.size w w'))
  case atStart => exact ⟨0, rfl, ⟨by omega, by omega, by omega⟩, ⟨fun j hj => by omega⟩, ⟨Kd.R_nil _ _ _ _ _⟩, ⟨Kd.R_nil _ _ _ _ _⟩, ⟨HB.out⟩⟩
  case round =>
    clear HB
    obtain ⟨i, rfl, HI, HLE, HV, HE, HB⟩ := hrel
    have hb1 := HI.out.2.1
    by_cases k1 : i < L.length ∧ i < 10
    · obtain ⟨hlt, h6⟩ := k1
      have d1 : decide ((i : Int) < (L.length : Int)) = true := decide_eq_true (by omega)
      have d2 : decide ((i : Int) < 10) = true := decide_eq_true (by omega)
      obtain ⟨ad, A2, c2, rfl, hcell, hle2, hC2⟩ := at_L1 (Kd.C_below HR0.out HB.out) (i : Int) (by omega) (by omega)
      rw [Int.toNat_natCast] at hcell
      obtain ⟨Ab, cb, rfl⟩ := Kd.R_slice HV.out
      obtain ⟨Ae, ce, rfl⟩ := Kd.R_slice HE.out
      have hcl := catL_recs_le (K := (fun j => (j : Int) * 25 + 1)) i HLE.out
      have hcs := recsOf_succ (fun j => (j : Int) * 25 + 1) L i
      have hes := endsOf_succ (fun j => (j : Int) * 25 + 1) L i
      have hel := endsOf_length (fun j => (j : Int) * 25 + 1) L i
      have hby : isB (rd_L1 L (i : Int)) := by
        unfold rd_L1
        rw [Int.toNat_natCast, List.getD_eq_getElem?_getD, List.getElem?_eq_getElem hlt]
        exact HBL.out _ (List.getElem_mem _)
      obtain ⟨y, ey⟩ : ∃ y, rd_L1 L (i : Int) = y := ⟨_, rfl⟩
      rw [ey] at hcell hle2 hC2 hcs hby
      by_cases k2 : 300 < y.length
      · have d3 : decide (300 < (y.length : Int)) = true := decide_eq_true (by omega)
        clear hcl hcs hes hel hby ey
        go_wp2_with (first | (go_at_call 10; refine (concordancelaw3_awake.calls _ _ _ HAW.out).mono ?_; rintro e w9 ⟨rfl, hb⟩; have n1_ := Aside0.mk (below_step HB.out hb); clear HB hb; have HB := n1_; clear n1_))
        go_ret
        exact ⟨rfl, HB.out⟩
      · have d3 : decide (300 < (y.length : Int)) = false := decide_eq_false (by omega)
        have HI2 := Aside0.mk (And.intro hlt h6)
        have hput := put_f (l := catL (recsOf (fun j => (j : Int) * 25 + 1) L i)) (by omega) hby (by omega) ((i : Int) * 25 + 1) 0
        unfold putF at hput
        rw [if_neg (by omega), if_neg (by omega)] at hput
        have hcat : catL (recsOf (fun j => (j : Int) * 25 + 1) L i) ++ recL ((i : Int) * 25 + 1) y = catL (recsOf (fun j => (j : Int) * 25 + 1) L (i + 1)) := by
          rw [hcs, catL_append, catL_cons, catL_nil, List.append_nil]
        rw [hcat] at hput
        have HPUT := Aside0.mk hput
        have HY := Aside0.mk (show y.length ≤ 300 by omega)
        have HEY := Aside0.mk ey
        have HES := Aside0.mk hes
        have HEL := Aside0.mk hel
        have HC2 := Aside0.mk hC2
        have HCE := Aside0.mk (Kd.C_below HR0.out HB.out)
        clear hput hcat hcs hcl hes hel hby ey k2 hC2
        go_wp2_with (first | ((with_reducible refine gate_builtin (b := .append) (xs := #[.tmp 36, .tmp 39]) rfl ?_); at_builtin; refine Kd.R_append (Kd.int .i64) (w0 := w) w.heap.size rfl (.tmp 36) (.tmp 39) 40 3 (.int .i64 0) 8 rfl Try.underlying40 finfo_int rfl (by decide) (by omega) (.slice Ae (endsOf (fun j => (j : Int) * 25 + 1) L i).length ce) (endsOf (fun j => (j : Int) * 25 + 1) L i) ((catL (recsOf (fun j => (j : Int) * 25 + 1) L i)).length : Int) [.int .i64 ((catL (recsOf (fun j => (j : Int) * 25 + 1) L i)).length : Int)] (fun _ => True) (fun _ => False) rfl rfl rfl (fun _ h => h.elim) (fun _ _ => trivial) HE.out HB.out HB.out.size (by have := HEL.out; have := HI2.out.2; omega) ?_; intro v3 w3 ho hb hg hat; have n0_ := Aside0.mk (Kd.R_over HV.out HE.out (by decide) hg); rw [← HES.out] at ho; clear HV HE HB; have HV := n0_; have HE := Aside0.mk ho; have HB := Aside0.mk hb; obtain ⟨ad', A2', c2', hade, hcell2, hle2', hC2'⟩ := at_L1 (Kd.C_below HR0.out HB.out) (i : Int) (by omega) (by omega); injection hade with hade; subst hade; rw [Int.toNat_natCast, HEY.out] at hcell2; rw [HEY.out] at hle2' hC2'; have HC3 := Aside0.mk hC2'; clear n0_ ho hb hg hat hC2') | (go_at_call 11; refine (frame_Put.calls 1 (fun _ => True) Ab cb _ _ A2' c2' y _ _ _ ⟨Ab, cb, rfl, (Kd.R_reads' HV.out).2.1, Kd.R_F HV.out⟩ HC3.out hle2' HPUT.out).mono ?_; rintro e w2 ⟨v2, rfl, ho, hb⟩; obtain ⟨A3, c3, rfl⟩ := Kd.R_slice ho; have n0_ := Aside0.mk (Kd.R_mono (Kd.R_lower ho HB.out.size) (ok' := fun _ => True) (fun _ _ => trivial)); have n2_ := Aside0.mk (Kd.R_below HE.out hb); clear HV HE ho; have HV := n0_; have HE := n2_; clear n0_ n2_; have n1_ := Aside0.mk (below_step HB.out hb); clear HB hb; have HB := n1_; clear n1_))
        go_roundg (9 - i)
        case measure => have := HI.out; have := HI2.out; omega
        case rel =>
          refine ⟨i + 1, by go_num, ⟨by have := HI2.out; omega, by have := HI2.out; omega, by omega⟩, ⟨fun j hj => ?_⟩, ⟨HV.out⟩, ⟨HE.out⟩, ⟨HB.out⟩⟩
          rcases Nat.lt_or_ge j i with h | h
          · exact HLE.out j h
          · have : j = i := by omega
            subst this
            rw [HEY.out]
            exact HY.out
    · have hlen := catL_recs_le (K := (fun j => (j : Int) * 25 + 1)) i HLE.out
      have hi10 : i ≤ 10 := HI.out.1
      have hB' := recsOf_ok (K := (fun j => (j : Int) * 25 + 1)) (L := L) (i := i) (fun j hj => by show 1 ≤ (j : Int) * 25 + 1 ∧ (j : Int) * 25 + 1 ≤ 250; omega) HBL.out (fun j hj => by have := HLE.out j hj; omega)
      have hdec : (decide ((i : Int) < (L.length : Int)) = false ∧ ¬ i < L.length) ∨ (decide ((i : Int) < (L.length : Int)) = true ∧ i < L.length ∧ decide ((i : Int) < 10) = false ∧ ¬ i < 10) := by
        by_cases h : i < L.length
        · exact .inr ⟨decide_eq_true (by omega), h, decide_eq_false (by omega), by omega⟩
        · exact .inl ⟨decide_eq_false (by omega), h⟩
      have hfit := fit_all hB' [] (.inl rfl)
      rw [List.append_nil] at hfit
      have hft : ftold (catL (recsOf (fun j => (j : Int) * 25 + 1) L i)) 100 = placesL 0 (recsOf (fun j => (j : Int) * 25 + 1) L i) := by
        unfold ftold
        rw [hfit, List.take_of_length_le]
        rw [placesL_length, recsOf_length]
        have : (100 : Int).toNat = 100 := rfl
        omega
      obtain ⟨Ab, cb, rfl⟩ := Kd.R_slice HV.out
      have hVb := Kd.R_reads' HV.out
      have hCB := catL_isB hB'
      have hpl := placesL_length 0 (recsOf (fun j => (j : Int) * 25 + 1) L i)
      have hps := placesL_say 0 (recsOf (fun j => (j : Int) * 25 + 1) L i)
      have hpg := placesL_getD (recsOf (fun j => (j : Int) * 25 + 1) L i) 0
      rw [recsOf_length] at hpl hpg
      have hrt : ∀ j, j ≤ i → (recsOf (fun j => (j : Int) * 25 + 1) L i).take j = recsOf (fun j => (j : Int) * 25 + 1) L j := fun j hj => recsOf_take _ _ hj
      have hea : ∀ j, j < i → rd (endsOf (fun j => (j : Int) * 25 + 1) L i) (j : Int) = ((catL (recsOf (fun j => (j : Int) * 25 + 1) L j)).length : Int) := fun j hj => endsOf_at _ _ hj
      have hel := endsOf_length (fun j => (j : Int) * 25 + 1) L i
      have hrl := recsOf_length (fun j => (j : Int) * 25 + 1) L i
      have hge : ∀ (j : Nat) (h : j < (recsOf (fun j => (j : Int) * 25 + 1) L i).length), (recsOf (fun j => (j : Int) * 25 + 1) L i)[j] = ((j : Int) * 25 + 1, rd_L1 L (j : Int)) := by
        intro j h
        simp [recsOf]
      obtain ⟨B, eB⟩ : ∃ B, recsOf (fun j => (j : Int) * 25 + 1) L i = B := ⟨_, rfl⟩
      obtain ⟨E, eE⟩ : ∃ E, endsOf (fun j => (j : Int) * 25 + 1) L i = E := ⟨_, rfl⟩
      obtain ⟨T, eT⟩ : ∃ T, placesL 0 (recsOf (fun j => (j : Int) * 25 + 1) L i) = T := ⟨_, rfl⟩
      have HRT := Aside0.mk (fun j (hj : j ≤ i) => (hrt j hj).symm)
      rw [eT] at hft hpl hps hpg
      rw [eB] at hft hVb hCB hps hpg hrt hrl hge hB' hlen HRT ⊢
      rw [eE] at hea hel HE
      obtain ⟨C, eC⟩ : ∃ C, catL B = C := ⟨_, rfl⟩
      rw [eC] at hft hVb hCB hlen ⊢
      have HCE := Aside0.mk eC
      have HCL := Aside0.mk (show C.length ≤ 3120 by omega)
      have HCB := Aside0.mk hCB
      have HVC := Aside0.mk hVb.2
      have HPL := Aside0.mk hpl
      have HPS := Aside0.mk hps
      have HPG := Aside0.mk hpg
      have HEA := Aside0.mk hea
      have HEL := Aside0.mk hel
      have HRL := Aside0.mk hrl
      have HGE := Aside0.mk hge
      have HOK := Aside0.mk hB'
      have HI10 := Aside0.mk hi10
      have HIL := Aside0.mk HI.out.2.1
      have HLE2 := Aside0.mk HLE.out
      have htold := fun (w' : World) (hw : Kd.C (Kd.int .u8) w' Ab C.length C) => ftold2_calls Ab cb C 100 w' hw HVC.out.1 HCB.out (by have := HCL.out; omega)
      rw [hft, HPL.out] at htold
      have HTOLD := Aside0.mk htold
      clear hlen hVb hCB hpl hps hpg hrt hea hel hrl hge hB' hfit hft eB eT eE eC HV HLE htold hb1
      have hcm : (C.length : Int) ≤ 3120 := by have := HCL.out; omega
      by_cases hi0 : i = 0
      · subst hi0
        obtain ⟨Ae, ce, rfl⟩ := Kd.R_slice HE.out
        have hE0 : ((E.length : Int) == 0) = true := beq_iff_eq.mpr (by have := HEL.out; omega)
        have hTn : (T.map (·.1)).length = 0 := by rw [List.length_map]; exact HPL.out
        have hE1 : E.length = 0 := HEL.out
        rcases hdec with ⟨d1, g1⟩ | ⟨d1, g1, d2, g2⟩
        · go_wp2_with (first | (go_at_call 17; refine (HTOLD.out _ HVC.out.2).mono ?_; rintro e w7 ⟨v7, A7, c7, rfl, ho, _, _, _, hb⟩; obtain ⟨A8, c8, rfl⟩ := Kd.R_slice ho; clear ho; have n1_ := Aside0.mk (below_step HB.out hb); clear HB hb; have HB := n1_; clear n1_))
          go_loopg [12] 1 (fun kq v12 w' => v12 = .int .i64 0 ∧ w' = w7)
          case atStart => exact ⟨rfl, rfl⟩
          case round =>
            obtain ⟨rfl, rfl⟩ := hrel
            go_wp2_with (first | (go_at_call 10; refine (concordancelaw3_awake.calls _ _ _ HAW.out).mono ?_; rintro e w9 ⟨rfl, hb⟩; have n1_ := Aside0.mk (below_step HB.out hb); clear HB hb; have HB := n1_; clear n1_))
            go_ret
            exact ⟨rfl, HB.out⟩
        · exact absurd g2 (by omega)
      · obtain ⟨ge, ce, rfl, _, _, _, _⟩ := Kd.R_form HE.out (by rw [HEL.out]; omega)
        have HEC := Aside0.mk (Kd.R_reads' HE.out).2
        have hE0 : ((E.length : Int) == 0) = false := beq_eq_false_iff_ne.mpr (by have := HEL.out; omega)
        have hE1 : E.length ≠ 0 := by have := HEL.out; omega
        have hEm : (E.length : Int) ≤ 10 := by have := HEL.out; omega
        have hTn : (T.map (·.1)).length = E.length := by rw [List.length_map, HPL.out, HEL.out]
        have HI0 := Aside0.mk (show 0 < i by omega)
        clear HE hi0
        rcases hdec with ⟨d1, g1⟩ | ⟨d1, g1, d2, g2⟩
        all_goals
          go_wp2_with (first | ((with_reducible refine gate_callee (f := 17) rfl ?_); refine goesL_ (some 58) rfl rfl Try.func17 (by kernel_rfl) rfl #[.slice Ab C.length cb, .int .i64 100] rfl (by (try simp only [List.map_toArray, List.map_cons, List.map_nil]); first | done | rfl) ?_; refine (HTOLD.out _ HVC.out.2).mono ?_; rintro e w7 ⟨v7, A7, c7, rfl, ho, hle7, hC7, hg7, hb⟩; refine ⟨_, rfl, ?_⟩; obtain ⟨gp, cp, rfl, _, _, _, _⟩ := Kd.R_form ho (by rw [hTn]; have := HI0.out; have := HEL.out; omega); obtain ⟨gl, rfl⟩ := hg7 HI0.out; have HP := Aside0.mk (Kd.R_reads' ho).2.2; have HLR := Aside0.mk hC7; have n0_ := Aside0.mk (And.intro HVC.out.1 (Kd.C_below HVC.out.2 hb)); have n2_ := Aside0.mk (And.intro HEC.out.1 (Kd.C_below HEC.out.2 hb)); clear HVC HEC ho hC7 hle7; have HVC := n0_; have HEC := n2_; clear n0_ n2_; have n1_ := Aside0.mk (below_step HB.out hb); clear HB hb; have HB := n1_; clear n1_))
          rw [HPS.out, HRL.out] at HLR
          go_loopg [12] (i + 1) (fun kq v12 w' => ∃ j : Nat, v12 = .int .i64 (j : Int) ∧ Aside0 (j ≤ i ∧ i - j ≤ kq) ∧ Aside0 (Below w7.heap.size w7 w'))
          case atStart => exact ⟨0, rfl, ⟨by omega, by omega⟩, ⟨Below.refl _ _⟩⟩
          case round =>
            obtain ⟨j, rfl, HJ, HB7⟩ := hrel
            have hj10 : j ≤ 10 := by have := HJ.out.1; have := HI10.out; omega
            by_cases k2 : j < i
            · have hjE : j < E.length := by have := HEL.out; omega
              have d3 : decide ((j : Int) < (E.length : Int)) = true := decide_eq_true (by omega)
              have hX : (T.map (·.1)).length = i := by rw [List.length_map]; exact HPL.out
              have hcp := head_cell (Kd.C_below HP.out HB7.out) j (by rw [hX]; exact k2)
              have hce := head_cell (Kd.C_below HEC.out.2 HB7.out) j hjE
              have hval : rd (T.map (·.1)) (j : Int) = ((catL (recsOf (fun j => (j : Int) * 25 + 1) L j)).length : Int) := by
                have h1 := HPG.out j k2
                rw [HRT.out j (by omega)]
                unfold rd
                rw [Int.toNat_natCast, h1]
                omega
              rw [hval] at hcp
              rw [HEA.out j k2] at hce
              have hjB : j < B.length := by rw [HRL.out]; exact k2
              obtain ⟨Al, cl, hl0, hl1, hll, hlC⟩ := frow_cells (by rw [HRL.out]; exact Kd.C_below HLR.out HB7.out) j hjB
              rw [HGE.out j hjB] at hl0 hl1 hlC
              obtain ⟨ad, A2, c2, rfl, hcell, hle2, hC2⟩ := at_L1 (Kd.C_below HR0.out (below_step HB.out HB7.out)) (j : Int) (by omega) (by have := HIL.out; omega)
              rw [Int.toNat_natCast] at hcell
              have hjL : j < L.length := by have := HIL.out; omega
              obtain ⟨q, eq⟩ : ∃ q, (catL (recsOf (fun j => (j : Int) * 25 + 1) L j)).length = q := ⟨_, rfl⟩
              obtain ⟨y, ey⟩ : ∃ y, rd_L1 L (j : Int) = y := ⟨_, rfl⟩
              rw [eq] at hcp hce
              dsimp only at hl0 hl1 hlC
              rw [ey] at hl1 hlC hcell hC2
              have HCP := Aside0.mk hcp
              have HCE2 := Aside0.mk hce
              have HL0 := Aside0.mk hl0
              have HL1 := Aside0.mk hl1
              have HLC := Aside0.mk hlC
              have HCC := Aside0.mk hcell
              have HC2 := Aside0.mk hC2
              have HK2 := Aside0.mk k2
              clear hX hval eq ey hll hlC hle2 hC2 hjB hcp hce hl0 hl1 hcell
              have hw1 : wrap64 ((j : Int) * 25) = (j : Int) * 25 := w64 (by omega) (by omega)
              have hw2 : wrap64 ((j : Int) * 25 + 1) = (j : Int) * 25 + 1 := w64 (by omega) (by omega)
              go_wp2
              refine start_ (n := 34) (S := fun w' => Below wr.heap.size wr w') (ds := []) #[false, false, false, false, false, false, false, false, false, false, false, false, false, false, false, false, false, false, false, false, false, false, false, false, false, false, false, false, false, false, false, false, false, false] (by kernel_rfl) rfl rfl (below_drew1 (Below.refl _ _)) (fun hHeld => ?_)
              refine with_tabW rows.tab19 rows.bits19 (fun HT_ HW_ => ?_)
              refine pure_ (i := 0) (N := some 72) (v := ?_) (a' := ?_) #[true, false, false, false, false, false, false, false, false, false, false, false, false, false, false, false, false, false, false, false, false, false, false, false, false, false, false, false, false, false, false, false, false, false] rfl rfl (any_of HT_.out (by kernel_rfl)) (fun _ _ _ h => h) (Or.inl ⟨by rfl, ?_⟩) ?_ ?_
              rotate_left
              · intro w'
                go_simp
                with_reducible rfl
              rotate_left
              · simp only [Act.put, List.setIfInBounds_toArray, List.set_cons_zero, List.set_cons_succ, i64_w, i32_w]
                rfl
              refine pure_ (i := 1) (N := some 73) (v := ?_) (a' := ?_) #[true, true, false, false, false, false, false, false, false, false, false, false, false, false, false, false, false, false, false, false, false, false, false, false, false, false, false, false, false, false, false, false, false, false] rfl rfl (any_of HT_.out (by kernel_rfl)) (fun _ _ _ h => h) (Or.inl ⟨by rfl, ?_⟩) ?_ ?_
              rotate_left
              · intro w'
                go_simp
                with_reducible rfl
              rotate_left
              · simp only [Act.put, List.setIfInBounds_toArray, List.set_cons_zero, List.set_cons_succ, i64_w, i32_w]
                rfl
              refine pure_ (i := 2) (N := some 74) (v := ?_) (a' := ?_) #[true, true, true, false, false, false, false, false, false, false, false, false, false, false, false, false, false, false, false, false, false, false, false, false, false, false, false, false, false, false, false, false, false, false] rfl rfl (any_of HT_.out (by kernel_rfl)) (fun _ _ _ h => h) (Or.inl ⟨by rfl, ?_⟩) ?_ ?_
              rotate_left
              · intro w'
                go_simp
                with_reducible rfl
              rotate_left
              · simp only [Act.put, List.setIfInBounds_toArray, List.set_cons_zero, List.set_cons_succ, i64_w, i32_w]
                rfl
              refine take_ (i := 3) (N := some 75) (v := ?_) (a' := ?_) #[true, true, true, true, false, false, false, false, false, false, false, false, false, false, false, false, false, false, false, false, false, false, false, false, false, false, false, false, false, false, false, false, false, false] rfl rfl (take_ofW HT_.out HW_.out (by kernel_rfl)) (fun _ _ _ h => h) (Or.inl ⟨by rfl, ?_⟩) hHeld ?_ ?_
              rotate_left
              · intro w' hS
                have h_ := (hS.cell (World.block_lt_of_cell? _ _ HCP.out)).trans HCP.out
                go_simp
                with_reducible rfl
              rotate_left
              · simp only [Act.put, List.setIfInBounds_toArray, List.set_cons_zero, List.set_cons_succ, i64_w, i32_w]
                rfl
              refine pure_ (i := 4) (N := some 76) (v := ?_) (a' := ?_) #[true, true, true, true, true, false, false, false, false, false, false, false, false, false, false, false, false, false, false, false, false, false, false, false, false, false, false, false, false, false, false, false, false, false] rfl rfl (any_of HT_.out (by kernel_rfl)) (fun _ _ _ h => h) (Or.inl ⟨by rfl, ?_⟩) ?_ ?_
              rotate_left
              · intro w'
                go_simp
                with_reducible rfl
              rotate_left
              · simp only [Act.put, List.setIfInBounds_toArray, List.set_cons_zero, List.set_cons_succ, i64_w, i32_w]
                rfl
              refine pure_ (i := 5) (N := some 77) (v := ?_) (a' := ?_) #[true, true, true, true, true, true, false, false, false, false, false, false, false, false, false, false, false, false, false, false, false, false, false, false, false, false, false, false, false, false, false, false, false, false] rfl rfl (any_of HT_.out (by kernel_rfl)) (fun _ _ _ h => h) (Or.inl ⟨by rfl, ?_⟩) ?_ ?_
              rotate_left
              · intro w'
                go_simp
                with_reducible rfl
              rotate_left
              · simp only [Act.put, List.setIfInBounds_toArray, List.set_cons_zero, List.set_cons_succ, i64_w, i32_w]
                rfl
              refine pure_ (i := 6) (N := some 78) (v := ?_) (a' := ?_) #[true, true, true, true, true, true, true, false, false, false, false, false, false, false, false, false, false, false, false, false, false, false, false, false, false, false, false, false, false, false, false, false, false, false] rfl rfl (any_of HT_.out (by kernel_rfl)) (fun _ _ _ h => h) (Or.inl ⟨by rfl, ?_⟩) ?_ ?_
              rotate_left
              · intro w'
                go_simp
                with_reducible rfl
              rotate_left
              · simp only [Act.put, List.setIfInBounds_toArray, List.set_cons_zero, List.set_cons_succ, i64_w, i32_w]
                rfl
              refine take_ (i := 7) (N := some 79) (v := ?_) (a' := ?_) #[true, true, true, true, true, true, true, true, false, false, false, false, false, false, false, false, false, false, false, false, false, false, false, false, false, false, false, false, false, false, false, false, false, false] rfl rfl (take_ofW HT_.out HW_.out (by kernel_rfl)) (fun _ _ _ h => h) (Or.inl ⟨by rfl, ?_⟩) hHeld ?_ ?_
              rotate_left
              · intro w' hS
                have h_ := (hS.cell (World.block_lt_of_cell? _ _ HCE2.out)).trans HCE2.out
                go_simp
                with_reducible rfl
              rotate_left
              · simp only [Act.put, List.setIfInBounds_toArray, List.set_cons_zero, List.set_cons_succ, i64_w, i32_w]
                rfl
              refine pure_ (i := 8) (N := some 80) (v := ?_) (a' := ?_) #[true, true, true, true, true, true, true, true, true, false, false, false, false, false, false, false, false, false, false, false, false, false, false, false, false, false, false, false, false, false, false, false, false, false] rfl rfl (any_of HT_.out (by kernel_rfl)) (fun _ _ _ h => h) (Or.inl ⟨by rfl, ?_⟩) ?_ ?_
              rotate_left
              · intro w'
                go_simp
                with_reducible rfl
              rotate_left
              · simp only [Act.put, List.setIfInBounds_toArray, List.set_cons_zero, List.set_cons_succ, i64_w, i32_w]
                rfl
              refine pure_ (i := 9) (N := some 81) (v := ?_) (a' := ?_) #[true, true, true, true, true, true, true, true, true, true, false, false, false, false, false, false, false, false, false, false, false, false, false, false, false, false, false, false, false, false, false, false, false, false] rfl rfl (any_of HT_.out (by kernel_rfl)) (fun _ _ _ h => h) (Or.inl ⟨by rfl, ?_⟩) ?_ ?_
              rotate_left
              · intro w'
                go_simp
                with_reducible rfl
              rotate_left
              · simp only [Act.put, List.setIfInBounds_toArray, List.set_cons_zero, List.set_cons_succ, i64_w, i32_w]
                rfl
              refine pure_ (i := 10) (N := some 82) (v := ?_) (a' := ?_) #[true, true, true, true, true, true, true, true, true, true, true, false, false, false, false, false, false, false, false, false, false, false, false, false, false, false, false, false, false, false, false, false, false, false] rfl rfl (any_of HT_.out (by kernel_rfl)) (fun _ _ _ h => h) (Or.inl ⟨by rfl, ?_⟩) ?_ ?_
              rotate_left
              · intro w'
                go_simp
                with_reducible rfl
              rotate_left
              · simp only [Act.put, List.setIfInBounds_toArray, List.set_cons_zero, List.set_cons_succ, i64_w, i32_w]
                rfl
              refine pure_ (i := 11) (N := some 83) (v := ?_) (a' := ?_) #[true, true, true, true, true, true, true, true, true, true, true, true, false, false, false, false, false, false, false, false, false, false, false, false, false, false, false, false, false, false, false, false, false, false] rfl rfl (any_of HT_.out (by kernel_rfl)) (fun _ _ _ h => h) (Or.inl ⟨by rfl, ?_⟩) ?_ ?_
              rotate_left
              · intro w'
                go_simp
                with_reducible rfl
              rotate_left
              · simp only [Act.put, List.setIfInBounds_toArray, List.set_cons_zero, List.set_cons_succ, i64_w, i32_w]
                rfl
              refine pure_ (i := 12) (N := some 84) (v := ?_) (a' := ?_) #[true, true, true, true, true, true, true, true, true, true, true, true, true, false, false, false, false, false, false, false, false, false, false, false, false, false, false, false, false, false, false, false, false, false] rfl rfl (any_of HT_.out (by kernel_rfl)) (fun _ _ _ h => h) (Or.inl ⟨by rfl, ?_⟩) ?_ ?_
              rotate_left
              · intro w'
                go_simp
                with_reducible rfl
              rotate_left
              · simp only [Act.put, List.setIfInBounds_toArray, List.set_cons_zero, List.set_cons_succ, i64_w, i32_w]
                rfl
              refine pure_ (i := 13) (N := some 85) (v := ?_) (a' := ?_) #[true, true, true, true, true, true, true, true, true, true, true, true, true, true, false, false, false, false, false, false, false, false, false, false, false, false, false, false, false, false, false, false, false, false] rfl rfl (any_of HT_.out (by kernel_rfl)) (fun _ _ _ h => h) (Or.inl ⟨by rfl, ?_⟩) ?_ ?_
              rotate_left
              · intro w'
                go_simp
                with_reducible rfl
              rotate_left
              · simp only [Act.put, List.setIfInBounds_toArray, List.set_cons_zero, List.set_cons_succ, i64_w, i32_w]
                rfl
              refine take_ (i := 14) (N := some 86) (v := ?_) (a' := ?_) #[true, true, true, true, true, true, true, true, true, true, true, true, true, true, true, false, false, false, false, false, false, false, false, false, false, false, false, false, false, false, false, false, false, false] rfl rfl (take_ofW HT_.out HW_.out (by kernel_rfl)) (fun _ _ _ h => h) (Or.inl ⟨by rfl, ?_⟩) hHeld ?_ ?_
              rotate_left
              · intro w' hS
                have h_ := (hS.cell (World.block_lt_of_cell? _ _ HL0.out)).trans HL0.out
                go_simp
                with_reducible rfl
              rotate_left
              · simp only [Act.put, List.setIfInBounds_toArray, List.set_cons_zero, List.set_cons_succ, i64_w, i32_w]
                rfl
              refine pure_ (i := 15) (N := some 87) (v := ?_) (a' := ?_) #[true, true, true, true, true, true, true, true, true, true, true, true, true, true, true, true, false, false, false, false, false, false, false, false, false, false, false, false, false, false, false, false, false, false] rfl rfl (any_of HT_.out (by kernel_rfl)) (fun _ _ _ h => h) (Or.inl ⟨by rfl, ?_⟩) ?_ ?_
              rotate_left
              · intro w'
                go_simp
                with_reducible rfl
              rotate_left
              · simp only [Act.put, List.setIfInBounds_toArray, List.set_cons_zero, List.set_cons_succ, i64_w, i32_w]
                rfl
              refine pure_ (i := 16) (N := some 88) (v := ?_) (a' := ?_) #[true, true, true, true, true, true, true, true, true, true, true, true, true, true, true, true, true, false, false, false, false, false, false, false, false, false, false, false, false, false, false, false, false, false] rfl rfl (any_of HT_.out (by kernel_rfl)) (fun _ _ _ h => h) (Or.inl ⟨by rfl, ?_⟩) ?_ ?_
              rotate_left
              · intro w'
                go_simp
                with_reducible rfl
              rotate_left
              · simp only [Act.put, List.setIfInBounds_toArray, List.set_cons_zero, List.set_cons_succ, i64_w, i32_w]
                rfl
              refine pure_ (i := 17) (N := some 89) (v := ?_) (a' := ?_) #[true, true, true, true, true, true, true, true, true, true, true, true, true, true, true, true, true, true, false, false, false, false, false, false, false, false, false, false, false, false, false, false, false, false] rfl rfl (any_of HT_.out (by kernel_rfl)) (fun _ _ _ h => h) (Or.inl ⟨by rfl, ?_⟩) ?_ ?_
              rotate_left
              · intro w'
                go_simp
                with_reducible rfl
              rotate_left
              · simp only [Act.put, List.setIfInBounds_toArray, List.set_cons_zero, List.set_cons_succ, i64_w, i32_w]
                rfl
              refine pure_ (i := 18) (N := some 90) (v := ?_) (a' := ?_) #[true, true, true, true, true, true, true, true, true, true, true, true, true, true, true, true, true, true, true, false, false, false, false, false, false, false, false, false, false, false, false, false, false, false] rfl rfl (any_of HT_.out (by kernel_rfl)) (fun _ _ _ h => h) (Or.inl ⟨by rfl, ?_⟩) ?_ ?_
              rotate_left
              · intro w'
                go_simp
                with_reducible rfl
              rotate_left
              · simp only [Act.put, List.setIfInBounds_toArray, List.set_cons_zero, List.set_cons_succ, i64_w, i32_w]
                rfl
              refine pure_ (i := 19) (N := some 91) (v := ?_) (a' := ?_) #[true, true, true, true, true, true, true, true, true, true, true, true, true, true, true, true, true, true, true, true, false, false, false, false, false, false, false, false, false, false, false, false, false, false] rfl rfl (any_of HT_.out (by kernel_rfl)) (fun _ _ _ h => h) (Or.inl ⟨by rfl, ?_⟩) ?_ ?_
              rotate_left
              · intro w'
                go_simp
                with_reducible rfl
              rotate_left
              · simp only [Act.put, List.setIfInBounds_toArray, List.set_cons_zero, List.set_cons_succ, i64_w, i32_w]
                rfl
              refine pure_ (i := 20) (N := some 92) (v := ?_) (a' := ?_) #[true, true, true, true, true, true, true, true, true, true, true, true, true, true, true, true, true, true, true, true, true, false, false, false, false, false, false, false, false, false, false, false, false, false] rfl rfl (any_of HT_.out (by kernel_rfl)) (fun _ _ _ h => h) (Or.inl ⟨by rfl, ?_⟩) ?_ ?_
              rotate_left
              · intro w'
                go_simp
                with_reducible rfl
              rotate_left
              · simp only [Act.put, List.setIfInBounds_toArray, List.set_cons_zero, List.set_cons_succ, i64_w, i32_w]
                rfl
              refine pure_ (i := 21) (N := some 93) (v := ?_) (a' := ?_) #[true, true, true, true, true, true, true, true, true, true, true, true, true, true, true, true, true, true, true, true, true, true, false, false, false, false, false, false, false, false, false, false, false, false] rfl rfl (any_of HT_.out (by kernel_rfl)) (fun _ _ _ h => h) (Or.inl ⟨by rfl, ?_⟩) ?_ ?_
              rotate_left
              · intro w'
                go_simp
                with_reducible rfl
              rotate_left
              · simp only [Act.put, List.setIfInBounds_toArray, List.set_cons_zero, List.set_cons_succ, i64_w, i32_w]
                rfl
              refine pure_ (i := 22) (N := some 94) (v := ?_) (a' := ?_) #[true, true, true, true, true, true, true, true, true, true, true, true, true, true, true, true, true, true, true, true, true, true, true, false, false, false, false, false, false, false, false, false, false, false] rfl rfl (any_of HT_.out (by kernel_rfl)) (fun _ _ _ h => h) (Or.inl ⟨by rfl, ?_⟩) ?_ ?_
              rotate_left
              · intro w'
                go_simp
                with_reducible rfl
              rotate_left
              · simp only [Act.put, List.setIfInBounds_toArray, List.set_cons_zero, List.set_cons_succ, i64_w, i32_w]
                rfl
              refine pure_ (i := 23) (N := some 95) (v := ?_) (a' := ?_) #[true, true, true, true, true, true, true, true, true, true, true, true, true, true, true, true, true, true, true, true, true, true, true, true, false, false, false, false, false, false, false, false, false, false] rfl rfl (any_of HT_.out (by kernel_rfl)) (fun _ _ _ h => h) (Or.inl ⟨by rfl, ?_⟩) ?_ ?_
              rotate_left
              · intro w'
                go_simp
                with_reducible rfl
              rotate_left
              · simp only [Act.put, List.setIfInBounds_toArray, List.set_cons_zero, List.set_cons_succ, i64_w, i32_w]
                rfl
              refine pure_ (i := 24) (N := some 96) (v := ?_) (a' := ?_) #[true, true, true, true, true, true, true, true, true, true, true, true, true, true, true, true, true, true, true, true, true, true, true, true, true, false, false, false, false, false, false, false, false, false] rfl rfl (any_of HT_.out (by kernel_rfl)) (fun _ _ _ h => h) (Or.inl ⟨by rfl, ?_⟩) ?_ ?_
              rotate_left
              · intro w'
                go_simp
                with_reducible rfl
              rotate_left
              · simp only [Act.put, List.setIfInBounds_toArray, List.set_cons_zero, List.set_cons_succ, i64_w, i32_w]
                rfl
              refine take_ (i := 25) (N := some 97) (v := ?_) (a' := ?_) #[true, true, true, true, true, true, true, true, true, true, true, true, true, true, true, true, true, true, true, true, true, true, true, true, true, true, false, false, false, false, false, false, false, false] rfl rfl (take_ofW HT_.out HW_.out (by kernel_rfl)) (fun _ _ _ h => h) (Or.inl ⟨by rfl, ?_⟩) hHeld ?_ ?_
              rotate_left
              · intro w' hS
                have h_ := (hS.cell (World.block_lt_of_cell? _ _ HL1.out)).trans HL1.out
                go_simp
                with_reducible rfl
              rotate_left
              · simp only [Act.put, List.setIfInBounds_toArray, List.set_cons_zero, List.set_cons_succ, i64_w, i32_w]
                rfl
              refine take_ (i := 26) (N := some 98) (v := ?_) (a' := ?_) #[true, true, true, true, true, true, true, true, true, true, true, true, true, true, true, true, true, true, true, true, true, true, true, true, true, true, true, false, false, false, false, false, false, false] rfl rfl (take_ofW HT_.out HW_.out (by kernel_rfl)) (fun _ _ _ h => h) (Or.inl ⟨by rfl, ?_⟩) hHeld ?_ ?_
              rotate_left
              · intro w' hS
                have h_ := Kd.C_string (P := Try.prog) (A := Al) (c := cl) Try.underlying22 Try.underlying5 Try.underlying9 (Kd.C_below HLC.out hS)
                go_simp
                with_reducible rfl
              rotate_left
              · simp only [Act.put, List.setIfInBounds_toArray, List.set_cons_zero, List.set_cons_succ, i64_w, i32_w]
                rfl
              refine pure_ (i := 27) (N := some 99) (v := ?_) (a' := ?_) #[true, true, true, true, true, true, true, true, true, true, true, true, true, true, true, true, true, true, true, true, true, true, true, true, true, true, true, true, false, false, false, false, false, false] rfl rfl (any_of HT_.out (by kernel_rfl)) (fun _ _ _ h => h) (Or.inl ⟨by rfl, ?_⟩) ?_ ?_
              rotate_left
              · intro w'
                go_simp
                with_reducible rfl
              rotate_left
              · simp only [Act.put, List.setIfInBounds_toArray, List.set_cons_zero, List.set_cons_succ, i64_w, i32_w]
                rfl
              refine pure_ (i := 28) (N := some 100) (v := ?_) (a' := ?_) #[true, true, true, true, true, true, true, true, true, true, true, true, true, true, true, true, true, true, true, true, true, true, true, true, true, true, true, true, true, false, false, false, false, false] rfl rfl (any_of HT_.out (by kernel_rfl)) (fun _ _ _ h => h) (Or.inl ⟨by rfl, ?_⟩) ?_ ?_
              rotate_left
              · intro w'
                go_simp
                with_reducible rfl
              rotate_left
              · simp only [Act.put, List.setIfInBounds_toArray, List.set_cons_zero, List.set_cons_succ, i64_w, i32_w]
                rfl
              refine pure_ (i := 29) (N := some 101) (v := ?_) (a' := ?_) #[true, true, true, true, true, true, true, true, true, true, true, true, true, true, true, true, true, true, true, true, true, true, true, true, true, true, true, true, true, true, false, false, false, false] rfl rfl (any_of HT_.out (by kernel_rfl)) (fun _ _ _ h => h) (Or.inl ⟨by rfl, ?_⟩) ?_ ?_
              rotate_left
              · intro w'
                go_simp
                with_reducible rfl
              rotate_left
              · simp only [Act.put, List.setIfInBounds_toArray, List.set_cons_zero, List.set_cons_succ, i64_w, i32_w]
                rfl
              refine take_ (i := 30) (N := some 102) (v := ?_) (a' := ?_) #[true, true, true, true, true, true, true, true, true, true, true, true, true, true, true, true, true, true, true, true, true, true, true, true, true, true, true, true, true, true, true, false, false, false] rfl rfl (take_ofW HT_.out HW_.out (by kernel_rfl)) (fun _ _ _ h => h) (Or.inl ⟨by rfl, ?_⟩) hHeld ?_ ?_
              rotate_left
              · intro w' hS
                have h_ := (hS.cell (World.block_lt_of_cell? _ _ HCC.out)).trans HCC.out
                go_simp
                with_reducible rfl
              rotate_left
              · simp only [Act.put, List.setIfInBounds_toArray, List.set_cons_zero, List.set_cons_succ, i64_w, i32_w]
                rfl
              refine take_ (i := 31) (N := some 103) (v := ?_) (a' := ?_) #[true, true, true, true, true, true, true, true, true, true, true, true, true, true, true, true, true, true, true, true, true, true, true, true, true, true, true, true, true, true, true, true, false, false] rfl rfl (take_ofW HT_.out HW_.out (by kernel_rfl)) (fun _ _ _ h => h) (Or.inl ⟨by rfl, ?_⟩) hHeld ?_ ?_
              rotate_left
              · intro w' hS
                have h_ := Kd.C_string (P := Try.prog) (A := A2) (c := c2) Try.underlying22 Try.underlying5 Try.underlying9 (Kd.C_below HC2.out hS)
                go_simp
                with_reducible rfl
              rotate_left
              · simp only [Act.put, List.setIfInBounds_toArray, List.set_cons_zero, List.set_cons_succ, i64_w, i32_w]
                rfl
              refine pure_ (i := 32) (N := some 104) (v := ?_) (a' := ?_) #[true, true, true, true, true, true, true, true, true, true, true, true, true, true, true, true, true, true, true, true, true, true, true, true, true, true, true, true, true, true, true, true, true, false] rfl rfl (any_of HT_.out (by kernel_rfl)) (fun _ _ _ h => h) (Or.inl ⟨by rfl, ?_⟩) ?_ ?_
              rotate_left
              · intro w'
                go_simp
                with_reducible rfl
              rotate_left
              · simp only [Act.put, List.setIfInBounds_toArray, List.set_cons_zero, List.set_cons_succ, i64_w, i32_w]
                rfl
              refine pure_ (i := 33) (N := some 105) (v := ?_) (a' := ?_) #[true, true, true, true, true, true, true, true, true, true, true, true, true, true, true, true, true, true, true, true, true, true, true, true, true, true, true, true, true, true, true, true, true, true] rfl rfl (any_of HT_.out (by kernel_rfl)) (fun _ _ _ h => h) (Or.inl ⟨by rfl, ?_⟩) ?_ ?_
              rotate_left
              · intro w'
                go_simp
                with_reducible rfl
              rotate_left
              · simp only [Act.put, List.setIfInBounds_toArray, List.set_cons_zero, List.set_cons_succ, i64_w, i32_w]
                rfl
              refine done_ (done_of HT_.out (by kernel_rfl)) ?_
              clear hw1 hw2
              go_wp2
              go_roundg (i - 1 - j)
              case measure => have := HJ.out; have := HK2.out; omega
              case rel => exact ⟨j + 1, by go_num, ⟨by have := HK2.out; omega, by omega⟩, ⟨below_drew1 HB7.out⟩⟩
            · have hji : j = i := by have := HJ.out; omega
              subst hji
              have hEl : E.length = j := HEL.out
              have hjE : ¬ j < E.length := by omega
              have d3 : decide ((j : Int) < (E.length : Int)) = false := decide_eq_false (by omega)
              obtain ⟨k, hk, hkl⟩ : ∃ k : Nat, Int.tmod (Go.bits .and .i64 a1 255) (E.length : Int) = (k : Int) ∧ k < E.length := by
                have e := and_low a1 8 (by omega)
                rw [show ((2 ^ 8 - 1 : Nat) : Int) = 255 from rfl, show ((2 ^ 8 : Nat) : Int) = 256 from rfl] at e
                rw [e, Int.tmod_eq_emod_of_nonneg (by omega)]
                have h1 := Int.emod_nonneg (a1 % 256) (b := (E.length : Int)) (by omega)
                have h2 := Int.emod_lt_of_pos (a1 % 256) (b := (E.length : Int)) (by omega)
                exact ⟨((a1 % 256) % (E.length : Int)).toNat, by omega, by omega⟩
              have hkj : k < j := by omega
              have HKJ := Aside0.mk hkj
              have hkL : k < L.length := by have := HIL.out; omega
              have hkB : k < B.length := by rw [HRL.out]; exact hkj
              have HB9 := Aside0.mk (below_step HB.out HB7.out)
              -- the place of record k, what stands ahead of it and behind
              have hce := head_cell (Kd.C_below HEC.out.2 HB7.out) k hkl
              rw [HEA.out k hkj] at hce
              have hBk := HGE.out k hkB
              have hsp : C = catL (recsOf (fun j => (j : Int) * 25 + 1) L k) ++ recL ((k : Int) * 25 + 1) (rd_L1 L (k : Int)) ++ catL (B.drop (k + 1)) := by
                rw [← HCE.out, HRT.out k (by omega)]
                conv => lhs; rw [← List.take_append_drop k B]
                rw [catL_append, List.drop_eq_getElem_cons hkB, catL_cons, hBk, List.append_assoc]
              have hsp2 : C = catL (recsOf (fun j => (j : Int) * 25 + 1) L k) ++ catL (B.drop k) := by
                rw [← HCE.out, HRT.out k (by omega), ← catL_append, List.take_append_drop]
              have hyk := HLE2.out k hkj
              have hyB : isB (rd_L1 L (k : Int)) := by
                unfold rd_L1
                rw [Int.toNat_natCast, List.getD_eq_getElem?_getD, List.getElem?_eq_getElem hkL]
                exact HBL.out _ (List.getElem_mem _)
              have hj10' : j ≤ 10 := HI10.out
              have htk := take_rec (l := catL (recsOf (fun j => (j : Int) * 25 + 1) L k)) (r := catL (B.drop (k + 1))) (kind := (k : Int) * 25 + 1) hyB (by omega) (by omega) (by omega)
              rw [← hsp] at htk
              have hdr : C.drop (catL (recsOf (fun j => (j : Int) * 25 + 1) L k)).length = catL (B.drop k) := by rw [hsp2, List.drop_left]
              have hqC : (catL (recsOf (fun j => (j : Int) * 25 + 1) L k)).length ≤ C.length := by
                have := congrArg List.length hsp2
                rw [List.length_append] at this
                omega
              have hfit2 := fit_all (HOK.out.drop k) [] (.inl rfl)
              rw [List.append_nil] at hfit2
              have hdl : (B.drop k).length = j - k := by rw [List.length_drop, HRL.out]
              have hft2 : ftold (catL (B.drop k)) 100 = placesL 0 (B.drop k) := by
                unfold ftold
                rw [hfit2, List.take_of_length_le]
                rw [placesL_length, hdl]
                have : (100 : Int).toNat = 100 := rfl
                omega
              have hpl2 := placesL_length 0 (B.drop k)
              rw [hdl] at hpl2
              have hps2 := placesL_say 0 (B.drop k)
              have hp0 : rd ((placesL 0 (B.drop k)).map (·.1)) 0 = 0 := by
                have h1 := placesL_getD (B.drop k) 0 0 (by rw [hdl]; omega)
                unfold rd
                rw [show (0 : Int).toNat = 0 from rfl, h1]
                simp [catL]
              have hb0 : (B.drop k)[0]? = some ((k : Int) * 25 + 1, rd_L1 L (k : Int)) := by
                rw [List.getElem?_drop, Nat.add_zero, List.getElem?_eq_getElem hkB, hBk]
              have hdB : isB (catL (B.drop k)) := catL_isB (HOK.out.drop k)
              obtain ⟨q, eq⟩ : ∃ q, (catL (recsOf (fun j => (j : Int) * 25 + 1) L k)).length = q := ⟨_, rfl⟩
              obtain ⟨y, ey⟩ : ∃ y, rd_L1 L (k : Int) = y := ⟨_, rfl⟩
              obtain ⟨D, eD⟩ : ∃ D, B.drop k = D := ⟨_, rfl⟩
              obtain ⟨T2, eT2⟩ : ∃ T2, placesL 0 D = T2 := ⟨_, rfl⟩
              rw [eq] at hce htk hdr hqC
              rw [ey] at htk hyk hb0
              rw [eD] at hdr hdl hft2 hpl2 hps2 hp0 hb0 hdB
              rw [eT2] at hft2 hpl2 hps2 hp0
              obtain ⟨X, eX⟩ : ∃ X, catL D = X := ⟨_, rfl⟩
              rw [eX] at hdr hft2 hdB
              obtain ⟨i0, hi0, _, hsz0, _⟩ := info_parts hinfo_u8
              obtain ⟨A8, hsl, hsA, hsC⟩ := print_drop_of (P := Try.prog) (Value.int .u8) 0 22 5 .i64 Try.underlying22 hi0 hsz0 Ab cb C (q : Int) (by omega) (by omega) HVC.out.1
              have hRx := Kd.C_of_reads (h1 := fun _ => rfl) (hsA _ (Kd.reads_of_C (Kd.C_below HVC.out.2 HB7.out)))
              rw [Int.toNat_natCast, hdr] at hsl hRx hsC
              have HRX : Aside0 (Kd.C (Kd.int .u8) wr A8 X.length X) := ⟨hRx⟩
              have hXl : X.length ≤ 3120 := by have := HCL.out; rw [← hdr, List.length_drop]; omega
              have htold2 := fun (w' : World) (hw : Kd.C (Kd.int .u8) w' A8 X.length X) => ftold2_calls A8 (cb - q) X 100 w' hw hsC hdB (by omega)
              rw [hft2] at htold2
              have HTOLD2 := Aside0.mk htold2
              have hto : takeO C (q : Int) = some ((k : Int) * 25 + 1, y, (q : Int) + 12 + y.length, 0) := by
                unfold takeO
                rw [if_pos ⟨HCB.out, by have := HCL.out; omega⟩, htk]
              have HTO := Aside0.mk hto
              have HVC9 := Aside0.mk (And.intro HVC.out.1 (Kd.C_below HVC.out.2 HB7.out))
              have HEC9 := Aside0.mk (And.intro HEC.out.1 (Kd.C_below HEC.out.2 HB7.out))
              have HPL2 := Aside0.mk hpl2
              have HPS2 := Aside0.mk hps2
              have HP0 := Aside0.mk hp0
              have HB0' := Aside0.mk hb0
              have HY3 := Aside0.mk hyk
              have HDL := Aside0.mk hdl
              have HEY := Aside0.mk ey
              have HEQ := Aside0.mk eq
              have HQC := Aside0.mk hqC
              have hsz : frame_Size.f (y.length : Int) = some ((y.length : Int) + 12) := by
                unfold frame_Size.f mx
                rw [if_neg (by omega), w64 (by omega) (by omega), Int.add_comm]
              have HSZ := Aside0.mk hsz
              have HEAk := Aside0.mk (HEA.out k hkj)
              clear HVC HEC HB htold2 hto hpl2 hps2 hp0 hb0 hyk hdl ey eq eD eT2 eX hi0 hsz0 hsA hRx hsC hft2 hfit2 hsp hsp2 hyB htk hdr hBk hdB hsz hXl k2 hqC hEl
              have HB := HB9
              clear HB9
              have HKL := Aside0.mk hkl
              go_wp2_with (first | ((with_reducible refine gate_callee (f := 17) rfl ?_); refine goesL_ (some 122) rfl rfl Try.func17 (by kernel_rfl) rfl #[.slice A8 X.length (cb - q), .int .i64 100] rfl (by (try simp only [List.map_toArray, List.map_cons, List.map_nil]); first | done | rfl) ?_; refine (HTOLD2.out _ HRX.out).mono ?_; rintro e w8 ⟨v8, A9, c9, rfl, ho, hle9, hC9, hg9, hb⟩; refine ⟨_, rfl, ?_⟩; obtain ⟨gp2, cp2, rfl, _, _, _, _⟩ := Kd.R_form ho (by rw [List.length_map, HPL2.out]; have := HKJ.out; omega); obtain ⟨gl2, rfl⟩ := hg9 (by rw [HPL2.out]; have := HKJ.out; omega); have HP2 := Aside0.mk (Kd.R_reads' ho).2.2; have HLR2 := Aside0.mk hC9; have n0_ := Aside0.mk (And.intro HVC9.out.1 (Kd.C_below HVC9.out.2 hb)); have n2_ := Aside0.mk (And.intro HEC9.out.1 (Kd.C_below HEC9.out.2 hb)); clear HVC9 HEC9 ho hC9 hle9; have HVC9 := n0_; have HEC9 := n2_; clear n0_ n2_; have n1_ := Aside0.mk (below_step HB.out hb); clear HB hb; have HB := n1_; clear n1_; have hce9 := head_cell HEC9.out.2 k HKL.out; rw [HEAk.out, HEQ.out] at hce9) | ((with_reducible refine gate_callee (f := 13) rfl ?_); refine goesL_ (some 131) rfl rfl Try.func13 (by kernel_rfl) rfl #[.slice Ab C.length cb, .int .i64 (q : Int)] rfl (by (try simp only [List.map_toArray, List.map_cons, List.map_nil]); first | done | rfl) ?_; refine (take_calls _ _ C _ _ _ _ _ _ HVC9.out.2 HVC9.out.1 HTO.out).mono ?_; rintro e w10 ⟨v10, rfl, hv, hb⟩; refine ⟨_, rfl, ?_⟩; obtain ⟨A10, c10, rfl, hle10, hF10⟩ := hv; have HBX := Aside0.mk (blk_new w10 (.cells #[.int .i64 ((k : Int) * 25 + 1), .slice A10 y.length c10] 29)); have HP3 := Aside0.mk (Kd.C_alloc (Kd.C_below HP2.out hb) (.cells #[.int .i64 ((k : Int) * 25 + 1), .slice A10 y.length c10] 29)); have HLR3 := Aside0.mk (Kd.C_alloc (Kd.C_below HLR2.out hb) (.cells #[.int .i64 ((k : Int) * 25 + 1), .slice A10 y.length c10] 29)); have HEC3 := Aside0.mk (Kd.C_alloc (Kd.C_below HEC9.out.2 hb) (.cells #[.int .i64 ((k : Int) * 25 + 1), .slice A10 y.length c10] 29)); have n1_ := Aside0.mk (below_alloc (below_step HB.out hb) (.cells #[.int .i64 ((k : Int) * 25 + 1), .slice A10 y.length c10] 29)); clear HB HP2 HLR2 hF10 hb; have HB := n1_; clear n1_))
              have hlk : T2.length = E.length - k := by rw [HPL2.out, HEL.out]
              have hlq : (T2.length : Int) = (E.length : Int) - (k : Int) := by have := HKL.out; omega
              have hl1 : ((T2.length : Int) == wrap64 ((E.length : Int) - (k : Int))) = true := by rw [w64 (by omega) (by omega)]; exact beq_iff_eq.mpr hlq
              have hl2 : ((T2.length : Int) == (E.length : Int) - (k : Int)) = true := beq_iff_eq.mpr hlq
              have hws : wrap64 ((q : Int) + ((y.length : Int) + 12)) = (q : Int) + 12 + (y.length : Int) := by
                have := HQC.out
                have := HCL.out
                have := HY3.out
                rw [w64 (by omega) (by omega)]
                omega
              have hTp : 0 < T2.length := by have := HKL.out; omega
              have HTP := Aside0.mk hTp
              have HD0 : ∃ h : 0 < D.length, D[0] = ((k : Int) * 25 + 1, y) := List.getElem?_eq_some_iff.1 HB0'.out
              rw [HPS2.out] at HLR3
              obtain ⟨ad, Ay, cy, hA, hcy, hley, hCy⟩ := at_L1 HR0.out (k : Int) (by omega) (by have := HKJ.out; have := HIL.out; omega)
              subst hA
              rw [Int.toNat_natCast, HEY.out] at hcy
              have HCY := Aside0.mk hcy
              have HDD := Aside0.mk HD0
              clear hlk hlq hcy hley hCy HD0
              refine start_ (n := 52) (S := fun w' => Below (w10.alloc (.cells #[.int .i64 ((k : Int) * 25 + 1), .slice A10 y.length c10] 29)).heap.size (w10.alloc (.cells #[.int .i64 ((k : Int) * 25 + 1), .slice A10 y.length c10] 29)) w') (ds := []) #[false, false, false, false, false, false, false, false, false, false, false, false, false, false, false, false, false, false, false, false, false, false, false, false, false, false, false, false, false, false, false, false, false, false, false, false, false, false, false, false, false, false, false, false, false, false, false, false, false, false, false, false] (by kernel_rfl) rfl rfl (below_drew1 (Below.refl _ _)) (fun hHeld => ?_)
              refine with_tabW rows.tab26 rows.bits26 (fun HT_ HW_ => ?_)
              refine pure_ (i := 0) (N := some 135) (v := ?_) (a' := ?_) #[true, false, false, false, false, false, false, false, false, false, false, false, false, false, false, false, false, false, false, false, false, false, false, false, false, false, false, false, false, false, false, false, false, false, false, false, false, false, false, false, false, false, false, false, false, false, false, false, false, false, false, false] rfl rfl (any_of HT_.out (by kernel_rfl)) (fun _ _ _ h => h) (Or.inl ⟨by rfl, ?_⟩) ?_ ?_
              rotate_left
              · intro w'
                go_simp
                with_reducible rfl
              rotate_left
              · simp only [Act.put, List.setIfInBounds_toArray, List.set_cons_zero, List.set_cons_succ, i64_w, i32_w]
                rfl
              refine pure_ (i := 1) (N := some 136) (v := ?_) (a' := ?_) #[true, true, false, false, false, false, false, false, false, false, false, false, false, false, false, false, false, false, false, false, false, false, false, false, false, false, false, false, false, false, false, false, false, false, false, false, false, false, false, false, false, false, false, false, false, false, false, false, false, false, false, false] rfl rfl (any_of HT_.out (by kernel_rfl)) (fun _ _ _ h => h) (Or.inl ⟨by rfl, ?_⟩) ?_ ?_
              rotate_left
              · intro w'
                go_simp
                with_reducible rfl
              rotate_left
              · simp only [Act.put, List.setIfInBounds_toArray, List.set_cons_zero, List.set_cons_succ, i64_w, i32_w]
                rfl
              refine pure_ (i := 2) (N := some 137) (v := ?_) (a' := ?_) #[true, true, true, false, false, false, false, false, false, false, false, false, false, false, false, false, false, false, false, false, false, false, false, false, false, false, false, false, false, false, false, false, false, false, false, false, false, false, false, false, false, false, false, false, false, false, false, false, false, false, false, false] rfl rfl (any_of HT_.out (by kernel_rfl)) (fun _ _ _ h => h) (Or.inl ⟨by rfl, ?_⟩) ?_ ?_
              rotate_left
              · intro w'
                go_simp
                with_reducible rfl
              rotate_left
              · simp only [Act.put, List.setIfInBounds_toArray, List.set_cons_zero, List.set_cons_succ, i64_w, i32_w]
                rfl
              refine pure_ (i := 3) (N := some 138) (v := ?_) (a' := ?_) #[true, true, true, true, false, false, false, false, false, false, false, false, false, false, false, false, false, false, false, false, false, false, false, false, false, false, false, false, false, false, false, false, false, false, false, false, false, false, false, false, false, false, false, false, false, false, false, false, false, false, false, false] rfl rfl (any_of HT_.out (by kernel_rfl)) (fun _ _ _ h => h) (Or.inl ⟨by rfl, ?_⟩) ?_ ?_
              rotate_left
              · intro w'
                go_simp
                with_reducible rfl
              rotate_left
              · simp only [Act.put, List.setIfInBounds_toArray, List.set_cons_zero, List.set_cons_succ, i64_w, i32_w]
                rfl
              refine pure_ (i := 4) (N := some 139) (v := ?_) (a' := ?_) #[true, true, true, true, true, false, false, false, false, false, false, false, false, false, false, false, false, false, false, false, false, false, false, false, false, false, false, false, false, false, false, false, false, false, false, false, false, false, false, false, false, false, false, false, false, false, false, false, false, false, false, false] rfl rfl (any_of HT_.out (by kernel_rfl)) (fun _ _ _ h => h) (Or.inl ⟨by rfl, ?_⟩) ?_ ?_
              rotate_left
              · intro w'
                go_simp
                with_reducible rfl
              rotate_left
              · simp only [Act.put, List.setIfInBounds_toArray, List.set_cons_zero, List.set_cons_succ, i64_w, i32_w]
                rfl
              refine pure_ (i := 5) (N := some 140) (v := ?_) (a' := ?_) #[true, true, true, true, true, true, false, false, false, false, false, false, false, false, false, false, false, false, false, false, false, false, false, false, false, false, false, false, false, false, false, false, false, false, false, false, false, false, false, false, false, false, false, false, false, false, false, false, false, false, false, false] rfl rfl (any_of HT_.out (by kernel_rfl)) (fun _ _ _ h => h) (Or.inl ⟨by rfl, ?_⟩) ?_ ?_
              rotate_left
              · intro w'
                go_simp
                with_reducible rfl
              rotate_left
              · simp only [Act.put, List.setIfInBounds_toArray, List.set_cons_zero, List.set_cons_succ, i64_w, i32_w]
                rfl
              refine pure_ (i := 6) (N := some 141) (v := ?_) (a' := ?_) #[true, true, true, true, true, true, true, false, false, false, false, false, false, false, false, false, false, false, false, false, false, false, false, false, false, false, false, false, false, false, false, false, false, false, false, false, false, false, false, false, false, false, false, false, false, false, false, false, false, false, false, false] rfl rfl (any_of HT_.out (by kernel_rfl)) (fun _ _ _ h => h) (Or.inl ⟨by rfl, ?_⟩) ?_ ?_
              rotate_left
              · intro w'
                go_simp
                with_reducible rfl
              rotate_left
              · simp only [Act.put, List.setIfInBounds_toArray, List.set_cons_zero, List.set_cons_succ, i64_w, i32_w]
                rfl
              refine pure_ (i := 7) (N := some 142) (v := ?_) (a' := ?_) #[true, true, true, true, true, true, true, true, false, false, false, false, false, false, false, false, false, false, false, false, false, false, false, false, false, false, false, false, false, false, false, false, false, false, false, false, false, false, false, false, false, false, false, false, false, false, false, false, false, false, false, false] rfl rfl (any_of HT_.out (by kernel_rfl)) (fun _ _ _ h => h) (Or.inl ⟨by rfl, ?_⟩) ?_ ?_
              rotate_left
              · intro w'
                go_simp
                with_reducible rfl
              rotate_left
              · simp only [Act.put, List.setIfInBounds_toArray, List.set_cons_zero, List.set_cons_succ, i64_w, i32_w]
                rfl
              refine pure_ (i := 8) (N := some 143) (v := ?_) (a' := ?_) #[true, true, true, true, true, true, true, true, true, false, false, false, false, false, false, false, false, false, false, false, false, false, false, false, false, false, false, false, false, false, false, false, false, false, false, false, false, false, false, false, false, false, false, false, false, false, false, false, false, false, false, false] rfl rfl (any_of HT_.out (by kernel_rfl)) (fun _ _ _ h => h) (Or.inl ⟨by rfl, ?_⟩) ?_ ?_
              rotate_left
              · intro w'
                go_simp
                with_reducible rfl
              rotate_left
              · simp only [Act.put, List.setIfInBounds_toArray, List.set_cons_zero, List.set_cons_succ, i64_w, i32_w]
                rfl
              refine pure_ (i := 9) (N := some 144) (v := ?_) (a' := ?_) #[true, true, true, true, true, true, true, true, true, true, false, false, false, false, false, false, false, false, false, false, false, false, false, false, false, false, false, false, false, false, false, false, false, false, false, false, false, false, false, false, false, false, false, false, false, false, false, false, false, false, false, false] rfl rfl (any_of HT_.out (by kernel_rfl)) (fun _ _ _ h => h) (Or.inl ⟨by rfl, ?_⟩) ?_ ?_
              rotate_left
              · intro w'
                go_simp
                with_reducible rfl
              rotate_left
              · simp only [Act.put, List.setIfInBounds_toArray, List.set_cons_zero, List.set_cons_succ, i64_w, i32_w]
                rfl
              refine pure_ (i := 10) (N := some 145) (v := ?_) (a' := ?_) #[true, true, true, true, true, true, true, true, true, true, true, false, false, false, false, false, false, false, false, false, false, false, false, false, false, false, false, false, false, false, false, false, false, false, false, false, false, false, false, false, false, false, false, false, false, false, false, false, false, false, false, false] rfl rfl (any_of HT_.out (by kernel_rfl)) (fun _ _ _ h => h) (Or.inl ⟨by rfl, ?_⟩) ?_ ?_
              rotate_left
              · intro w'
                go_simp
                with_reducible rfl
              rotate_left
              · simp only [Act.put, List.setIfInBounds_toArray, List.set_cons_zero, List.set_cons_succ, i64_w, i32_w]
                rfl
              refine pure_ (i := 11) (N := some 146) (v := ?_) (a' := ?_) #[true, true, true, true, true, true, true, true, true, true, true, true, false, false, false, false, false, false, false, false, false, false, false, false, false, false, false, false, false, false, false, false, false, false, false, false, false, false, false, false, false, false, false, false, false, false, false, false, false, false, false, false] rfl rfl (any_of HT_.out (by kernel_rfl)) (fun _ _ _ h => h) (Or.inl ⟨by rfl, ?_⟩) ?_ ?_
              rotate_left
              · intro w'
                go_simp
                with_reducible rfl
              rotate_left
              · simp only [Act.put, List.setIfInBounds_toArray, List.set_cons_zero, List.set_cons_succ, i64_w, i32_w]
                rfl
              refine pure_ (i := 12) (N := some 147) (v := ?_) (a' := ?_) #[true, true, true, true, true, true, true, true, true, true, true, true, true, false, false, false, false, false, false, false, false, false, false, false, false, false, false, false, false, false, false, false, false, false, false, false, false, false, false, false, false, false, false, false, false, false, false, false, false, false, false, false] rfl rfl (any_of HT_.out (by kernel_rfl)) (fun _ _ _ h => h) (Or.inl ⟨by rfl, ?_⟩) ?_ ?_
              rotate_left
              · intro w'
                go_simp
                with_reducible rfl
              rotate_left
              · simp only [Act.put, List.setIfInBounds_toArray, List.set_cons_zero, List.set_cons_succ, i64_w, i32_w]
                rfl
              refine pure_ (i := 13) (N := some 148) (v := ?_) (a' := ?_) #[true, true, true, true, true, true, true, true, true, true, true, true, true, true, false, false, false, false, false, false, false, false, false, false, false, false, false, false, false, false, false, false, false, false, false, false, false, false, false, false, false, false, false, false, false, false, false, false, false, false, false, false] rfl rfl (any_of HT_.out (by kernel_rfl)) (fun _ _ _ h => h) (Or.inl ⟨by rfl, ?_⟩) ?_ ?_
              rotate_left
              · intro w'
                go_simp
                with_reducible rfl
              rotate_left
              · simp only [Act.put, List.setIfInBounds_toArray, List.set_cons_zero, List.set_cons_succ, i64_w, i32_w]
                rfl
              refine pure_ (i := 14) (N := some 149) (v := ?_) (a' := ?_) #[true, true, true, true, true, true, true, true, true, true, true, true, true, true, true, false, false, false, false, false, false, false, false, false, false, false, false, false, false, false, false, false, false, false, false, false, false, false, false, false, false, false, false, false, false, false, false, false, false, false, false, false] rfl rfl (any_of HT_.out (by kernel_rfl)) (fun _ _ _ h => h) (Or.inl ⟨by rfl, ?_⟩) ?_ ?_
              rotate_left
              · intro w'
                go_simp
                with_reducible rfl
              rotate_left
              · simp only [Act.put, List.setIfInBounds_toArray, List.set_cons_zero, List.set_cons_succ, i64_w, i32_w]
                rfl
              refine pure_ (i := 15) (N := some 150) (v := ?_) (a' := ?_) #[true, true, true, true, true, true, true, true, true, true, true, true, true, true, true, true, false, false, false, false, false, false, false, false, false, false, false, false, false, false, false, false, false, false, false, false, false, false, false, false, false, false, false, false, false, false, false, false, false, false, false, false] rfl rfl (any_of HT_.out (by kernel_rfl)) (fun _ _ _ h => h) (Or.inl ⟨by rfl, ?_⟩) ?_ ?_
              rotate_left
              · intro w'
                go_simp
                with_reducible rfl
              rotate_left
              · simp only [Act.put, List.setIfInBounds_toArray, List.set_cons_zero, List.set_cons_succ, i64_w, i32_w]
                rfl
              refine pure_ (i := 16) (N := some 151) (v := ?_) (a' := ?_) #[true, true, true, true, true, true, true, true, true, true, true, true, true, true, true, true, true, false, false, false, false, false, false, false, false, false, false, false, false, false, false, false, false, false, false, false, false, false, false, false, false, false, false, false, false, false, false, false, false, false, false, false] rfl rfl (any_of HT_.out (by kernel_rfl)) (fun _ _ _ h => h) (Or.inl ⟨by rfl, ?_⟩) ?_ ?_
              rotate_left
              · intro w'
                go_simp
                with_reducible rfl
              rotate_left
              · simp only [Act.put, List.setIfInBounds_toArray, List.set_cons_zero, List.set_cons_succ, i64_w, i32_w]
                rfl
              refine take_ (i := 17) (N := some 152) (v := ?_) (a' := ?_) #[true, true, true, true, true, true, true, true, true, true, true, true, true, true, true, true, true, true, false, false, false, false, false, false, false, false, false, false, false, false, false, false, false, false, false, false, false, false, false, false, false, false, false, false, false, false, false, false, false, false, false, false] rfl rfl (take_ofW HT_.out HW_.out (by kernel_rfl)) (fun _ _ _ h => h) (Or.inl ⟨by rfl, ?_⟩) hHeld ?_ ?_
              rotate_left
              · intro w' hS
                have h_ := head_cell (Kd.C_below HP3.out hS) 0 (by rw [List.length_map]; exact HTP.out)
                rw [show ((0 : Nat) : Int) = 0 from rfl, HP0.out] at h_
                go_simp
                with_reducible rfl
              rotate_left
              · simp only [Act.put, List.setIfInBounds_toArray, List.set_cons_zero, List.set_cons_succ, i64_w, i32_w]
                rfl
              refine pure_ (i := 18) (N := some 153) (v := ?_) (a' := ?_) #[true, true, true, true, true, true, true, true, true, true, true, true, true, true, true, true, true, true, true, false, false, false, false, false, false, false, false, false, false, false, false, false, false, false, false, false, false, false, false, false, false, false, false, false, false, false, false, false, false, false, false, false] rfl rfl (any_of HT_.out (by kernel_rfl)) (fun _ _ _ h => h) (Or.inl ⟨by rfl, ?_⟩) ?_ ?_
              rotate_left
              · intro w'
                go_simp
                with_reducible rfl
              rotate_left
              · simp only [Act.put, List.setIfInBounds_toArray, List.set_cons_zero, List.set_cons_succ, i64_w, i32_w]
                rfl
              refine pure_ (i := 19) (N := some 154) (v := ?_) (a' := ?_) #[true, true, true, true, true, true, true, true, true, true, true, true, true, true, true, true, true, true, true, true, false, false, false, false, false, false, false, false, false, false, false, false, false, false, false, false, false, false, false, false, false, false, false, false, false, false, false, false, false, false, false, false] rfl rfl (any_of HT_.out (by kernel_rfl)) (fun _ _ _ h => h) (Or.inl ⟨by rfl, ?_⟩) ?_ ?_
              rotate_left
              · intro w'
                go_simp
                with_reducible rfl
              rotate_left
              · simp only [Act.put, List.setIfInBounds_toArray, List.set_cons_zero, List.set_cons_succ, i64_w, i32_w]
                rfl
              refine pure_ (i := 20) (N := some 155) (v := ?_) (a' := ?_) #[true, true, true, true, true, true, true, true, true, true, true, true, true, true, true, true, true, true, true, true, true, false, false, false, false, false, false, false, false, false, false, false, false, false, false, false, false, false, false, false, false, false, false, false, false, false, false, false, false, false, false, false] rfl rfl (any_of HT_.out (by kernel_rfl)) (fun _ _ _ h => h) (Or.inl ⟨by rfl, ?_⟩) ?_ ?_
              rotate_left
              · intro w'
                go_simp
                with_reducible rfl
              rotate_left
              · simp only [Act.put, List.setIfInBounds_toArray, List.set_cons_zero, List.set_cons_succ, i64_w, i32_w]
                rfl
              refine pure_ (i := 21) (N := some 156) (v := ?_) (a' := ?_) #[true, true, true, true, true, true, true, true, true, true, true, true, true, true, true, true, true, true, true, true, true, true, false, false, false, false, false, false, false, false, false, false, false, false, false, false, false, false, false, false, false, false, false, false, false, false, false, false, false, false, false, false] rfl rfl (any_of HT_.out (by kernel_rfl)) (fun _ _ _ h => h) (Or.inl ⟨by rfl, ?_⟩) ?_ ?_
              rotate_left
              · intro w'
                go_simp
                with_reducible rfl
              rotate_left
              · simp only [Act.put, List.setIfInBounds_toArray, List.set_cons_zero, List.set_cons_succ, i64_w, i32_w]
                rfl
              refine pure_ (i := 22) (N := some 157) (v := ?_) (a' := ?_) #[true, true, true, true, true, true, true, true, true, true, true, true, true, true, true, true, true, true, true, true, true, true, true, false, false, false, false, false, false, false, false, false, false, false, false, false, false, false, false, false, false, false, false, false, false, false, false, false, false, false, false, false] rfl rfl (any_of HT_.out (by kernel_rfl)) (fun _ _ _ h => h) (Or.inl ⟨by rfl, ?_⟩) ?_ ?_
              rotate_left
              · intro w'
                go_simp
                with_reducible rfl
              rotate_left
              · simp only [Act.put, List.setIfInBounds_toArray, List.set_cons_zero, List.set_cons_succ, i64_w, i32_w]
                rfl
              refine pure_ (i := 23) (N := some 158) (v := ?_) (a' := ?_) #[true, true, true, true, true, true, true, true, true, true, true, true, true, true, true, true, true, true, true, true, true, true, true, true, false, false, false, false, false, false, false, false, false, false, false, false, false, false, false, false, false, false, false, false, false, false, false, false, false, false, false, false] rfl rfl (any_of HT_.out (by kernel_rfl)) (fun _ _ _ h => h) (Or.inl ⟨by rfl, ?_⟩) ?_ ?_
              rotate_left
              · intro w'
                go_simp
                with_reducible rfl
              rotate_left
              · simp only [Act.put, List.setIfInBounds_toArray, List.set_cons_zero, List.set_cons_succ, i64_w, i32_w]
                rfl
              refine pure_ (i := 24) (N := some 159) (v := ?_) (a' := ?_) #[true, true, true, true, true, true, true, true, true, true, true, true, true, true, true, true, true, true, true, true, true, true, true, true, true, false, false, false, false, false, false, false, false, false, false, false, false, false, false, false, false, false, false, false, false, false, false, false, false, false, false, false] rfl rfl (any_of HT_.out (by kernel_rfl)) (fun _ _ _ h => h) (Or.inl ⟨by rfl, ?_⟩) ?_ ?_
              rotate_left
              · intro w'
                go_simp
                with_reducible rfl
              rotate_left
              · simp only [Act.put, List.setIfInBounds_toArray, List.set_cons_zero, List.set_cons_succ, i64_w, i32_w]
                rfl
              refine pure_ (i := 25) (N := some 160) (v := ?_) (a' := ?_) #[true, true, true, true, true, true, true, true, true, true, true, true, true, true, true, true, true, true, true, true, true, true, true, true, true, true, false, false, false, false, false, false, false, false, false, false, false, false, false, false, false, false, false, false, false, false, false, false, false, false, false, false] rfl rfl (any_of HT_.out (by kernel_rfl)) (fun _ _ _ h => h) (Or.inl ⟨by rfl, ?_⟩) ?_ ?_
              rotate_left
              · intro w'
                go_simp
                with_reducible rfl
              rotate_left
              · simp only [Act.put, List.setIfInBounds_toArray, List.set_cons_zero, List.set_cons_succ, i64_w, i32_w]
                rfl
              refine take_ (i := 26) (N := some 161) (v := ?_) (a' := ?_) #[true, true, true, true, true, true, true, true, true, true, true, true, true, true, true, true, true, true, true, true, true, true, true, true, true, true, true, false, false, false, false, false, false, false, false, false, false, false, false, false, false, false, false, false, false, false, false, false, false, false, false, false] rfl rfl (take_ofW HT_.out HW_.out (by kernel_rfl)) (fun _ _ _ h => h) (Or.inl ⟨by rfl, ?_⟩) hHeld ?_ ?_
              rotate_left
              · intro w' hS
                have hbk := blk_below HBX.out hS
                have hx0 := blk_cell hbk 0
                have hx1 := blk_cell hbk 1
                go_simp
                with_reducible rfl
              rotate_left
              · simp only [Act.put, List.setIfInBounds_toArray, List.set_cons_zero, List.set_cons_succ, i64_w, i32_w]
                rfl
              refine pure_ (i := 27) (N := some 162) (v := ?_) (a' := ?_) #[true, true, true, true, true, true, true, true, true, true, true, true, true, true, true, true, true, true, true, true, true, true, true, true, true, true, true, true, false, false, false, false, false, false, false, false, false, false, false, false, false, false, false, false, false, false, false, false, false, false, false, false] rfl rfl (any_of HT_.out (by kernel_rfl)) (fun _ _ _ h => h) (Or.inl ⟨by rfl, ?_⟩) ?_ ?_
              rotate_left
              · intro w'
                go_simp
                with_reducible rfl
              rotate_left
              · simp only [Act.put, List.setIfInBounds_toArray, List.set_cons_zero, List.set_cons_succ, i64_w, i32_w]
                rfl
              refine pure_ (i := 28) (N := some 163) (v := ?_) (a' := ?_) #[true, true, true, true, true, true, true, true, true, true, true, true, true, true, true, true, true, true, true, true, true, true, true, true, true, true, true, true, true, false, false, false, false, false, false, false, false, false, false, false, false, false, false, false, false, false, false, false, false, false, false, false] rfl rfl (any_of HT_.out (by kernel_rfl)) (fun _ _ _ h => h) (Or.inl ⟨by rfl, ?_⟩) ?_ ?_
              rotate_left
              · intro w'
                go_simp
                with_reducible rfl
              rotate_left
              · simp only [Act.put, List.setIfInBounds_toArray, List.set_cons_zero, List.set_cons_succ, i64_w, i32_w]
                rfl
              refine pure_ (i := 29) (N := some 164) (v := ?_) (a' := ?_) #[true, true, true, true, true, true, true, true, true, true, true, true, true, true, true, true, true, true, true, true, true, true, true, true, true, true, true, true, true, true, false, false, false, false, false, false, false, false, false, false, false, false, false, false, false, false, false, false, false, false, false, false] rfl rfl (any_of HT_.out (by kernel_rfl)) (fun _ _ _ h => h) (Or.inl ⟨by rfl, ?_⟩) ?_ ?_
              rotate_left
              · intro w'
                go_simp
                with_reducible rfl
              rotate_left
              · simp only [Act.put, List.setIfInBounds_toArray, List.set_cons_zero, List.set_cons_succ, i64_w, i32_w]
                rfl
              refine take_ (i := 30) (N := some 165) (v := ?_) (a' := ?_) #[true, true, true, true, true, true, true, true, true, true, true, true, true, true, true, true, true, true, true, true, true, true, true, true, true, true, true, true, true, true, true, false, false, false, false, false, false, false, false, false, false, false, false, false, false, false, false, false, false, false, false, false] rfl rfl (take_ofW HT_.out HW_.out (by kernel_rfl)) (fun _ _ _ h => h) (Or.inl ⟨by rfl, ?_⟩) hHeld ?_ ?_
              rotate_left
              · intro w' hS
                obtain ⟨hD, eD⟩ := HDD.out
                obtain ⟨Al, cl, hl0, _⟩ := frow_cells (Kd.C_below HLR3.out hS) 0 hD
                rw [eD] at hl0
                go_simp
                with_reducible rfl
              rotate_left
              · simp only [Act.put, List.setIfInBounds_toArray, List.set_cons_zero, List.set_cons_succ, i64_w, i32_w]
                rfl
              refine pure_ (i := 31) (N := some 166) (v := ?_) (a' := ?_) #[true, true, true, true, true, true, true, true, true, true, true, true, true, true, true, true, true, true, true, true, true, true, true, true, true, true, true, true, true, true, true, true, false, false, false, false, false, false, false, false, false, false, false, false, false, false, false, false, false, false, false, false] rfl rfl (any_of HT_.out (by kernel_rfl)) (fun _ _ _ h => h) (Or.inl ⟨by rfl, ?_⟩) ?_ ?_
              rotate_left
              · intro w'
                go_simp
                with_reducible rfl
              rotate_left
              · simp only [Act.put, List.setIfInBounds_toArray, List.set_cons_zero, List.set_cons_succ, i64_w, i32_w]
                rfl
              refine pure_ (i := 32) (N := some 167) (v := ?_) (a' := ?_) #[true, true, true, true, true, true, true, true, true, true, true, true, true, true, true, true, true, true, true, true, true, true, true, true, true, true, true, true, true, true, true, true, true, false, false, false, false, false, false, false, false, false, false, false, false, false, false, false, false, false, false, false] rfl rfl (any_of HT_.out (by kernel_rfl)) (fun _ _ _ h => h) (Or.inl ⟨by rfl, ?_⟩) ?_ ?_
              rotate_left
              · intro w'
                go_simp
                with_reducible rfl
              rotate_left
              · simp only [Act.put, List.setIfInBounds_toArray, List.set_cons_zero, List.set_cons_succ, i64_w, i32_w]
                rfl
              refine pure_ (i := 33) (N := some 168) (v := ?_) (a' := ?_) #[true, true, true, true, true, true, true, true, true, true, true, true, true, true, true, true, true, true, true, true, true, true, true, true, true, true, true, true, true, true, true, true, true, true, false, false, false, false, false, false, false, false, false, false, false, false, false, false, false, false, false, false] rfl rfl (any_of HT_.out (by kernel_rfl)) (fun _ _ _ h => h) (Or.inl ⟨by rfl, ?_⟩) ?_ ?_
              rotate_left
              · intro w'
                go_simp
                with_reducible rfl
              rotate_left
              · simp only [Act.put, List.setIfInBounds_toArray, List.set_cons_zero, List.set_cons_succ, i64_w, i32_w]
                rfl
              refine pure_ (i := 34) (N := some 169) (v := ?_) (a' := ?_) #[true, true, true, true, true, true, true, true, true, true, true, true, true, true, true, true, true, true, true, true, true, true, true, true, true, true, true, true, true, true, true, true, true, true, true, false, false, false, false, false, false, false, false, false, false, false, false, false, false, false, false, false] rfl rfl (any_of HT_.out (by kernel_rfl)) (fun _ _ _ h => h) (Or.inl ⟨by rfl, ?_⟩) ?_ ?_
              rotate_left
              · intro w'
                go_simp
                with_reducible rfl
              rotate_left
              · simp only [Act.put, List.setIfInBounds_toArray, List.set_cons_zero, List.set_cons_succ, i64_w, i32_w]
                rfl
              refine pure_ (i := 35) (N := some 170) (v := ?_) (a' := ?_) #[true, true, true, true, true, true, true, true, true, true, true, true, true, true, true, true, true, true, true, true, true, true, true, true, true, true, true, true, true, true, true, true, true, true, true, true, false, false, false, false, false, false, false, false, false, false, false, false, false, false, false, false] rfl rfl (any_of HT_.out (by kernel_rfl)) (fun _ _ _ h => h) (Or.inl ⟨by rfl, ?_⟩) ?_ ?_
              rotate_left
              · intro w'
                go_simp
                with_reducible rfl
              rotate_left
              · simp only [Act.put, List.setIfInBounds_toArray, List.set_cons_zero, List.set_cons_succ, i64_w, i32_w]
                rfl
              refine pure_ (i := 36) (N := some 171) (v := ?_) (a' := ?_) #[true, true, true, true, true, true, true, true, true, true, true, true, true, true, true, true, true, true, true, true, true, true, true, true, true, true, true, true, true, true, true, true, true, true, true, true, true, false, false, false, false, false, false, false, false, false, false, false, false, false, false, false] rfl rfl (any_of HT_.out (by kernel_rfl)) (fun _ _ _ h => h) (Or.inl ⟨by rfl, ?_⟩) ?_ ?_
              rotate_left
              · intro w'
                go_simp
                with_reducible rfl
              rotate_left
              · simp only [Act.put, List.setIfInBounds_toArray, List.set_cons_zero, List.set_cons_succ, i64_w, i32_w]
                rfl
              refine pure_ (i := 37) (N := some 172) (v := ?_) (a' := ?_) #[true, true, true, true, true, true, true, true, true, true, true, true, true, true, true, true, true, true, true, true, true, true, true, true, true, true, true, true, true, true, true, true, true, true, true, true, true, true, false, false, false, false, false, false, false, false, false, false, false, false, false, false] rfl rfl (any_of HT_.out (by kernel_rfl)) (fun _ _ _ h => h) (Or.inl ⟨by rfl, ?_⟩) ?_ ?_
              rotate_left
              · intro w'
                go_simp
                with_reducible rfl
              rotate_left
              · simp only [Act.put, List.setIfInBounds_toArray, List.set_cons_zero, List.set_cons_succ, i64_w, i32_w]
                rfl
              refine take_ (i := 38) (N := some 173) (v := ?_) (a' := ?_) #[true, true, true, true, true, true, true, true, true, true, true, true, true, true, true, true, true, true, true, true, true, true, true, true, true, true, true, true, true, true, true, true, true, true, true, true, true, true, true, false, false, false, false, false, false, false, false, false, false, false, false, false] rfl rfl (take_ofW HT_.out HW_.out (by kernel_rfl)) (fun _ _ _ h => h) (Or.inl ⟨by rfl, ?_⟩) hHeld ?_ ?_
              rotate_left
              · intro w' hS
                have h_ := head_cell (Kd.C_below HEC3.out hS) k HKL.out
                rw [HEAk.out, HEQ.out] at h_
                go_simp
                with_reducible rfl
              rotate_left
              · simp only [Act.put, List.setIfInBounds_toArray, List.set_cons_zero, List.set_cons_succ, i64_w, i32_w]
                rfl
              refine pure_ (i := 39) (N := some 174) (v := ?_) (a' := ?_) #[true, true, true, true, true, true, true, true, true, true, true, true, true, true, true, true, true, true, true, true, true, true, true, true, true, true, true, true, true, true, true, true, true, true, true, true, true, true, true, true, false, false, false, false, false, false, false, false, false, false, false, false] rfl rfl (any_of HT_.out (by kernel_rfl)) (fun _ _ _ h => h) (Or.inl ⟨by rfl, ?_⟩) ?_ ?_
              rotate_left
              · intro w'
                go_simp
                with_reducible rfl
              rotate_left
              · simp only [Act.put, List.setIfInBounds_toArray, List.set_cons_zero, List.set_cons_succ, i64_w, i32_w]
                rfl
              refine pure_ (i := 40) (N := some 175) (v := ?_) (a' := ?_) #[true, true, true, true, true, true, true, true, true, true, true, true, true, true, true, true, true, true, true, true, true, true, true, true, true, true, true, true, true, true, true, true, true, true, true, true, true, true, true, true, true, false, false, false, false, false, false, false, false, false, false, false] rfl rfl (any_of HT_.out (by kernel_rfl)) (fun _ _ _ h => h) (Or.inl ⟨by rfl, ?_⟩) ?_ ?_
              rotate_left
              · intro w'
                go_simp
                with_reducible rfl
              rotate_left
              · simp only [Act.put, List.setIfInBounds_toArray, List.set_cons_zero, List.set_cons_succ, i64_w, i32_w]
                rfl
              refine pure_ (i := 41) (N := some 176) (v := ?_) (a' := ?_) #[true, true, true, true, true, true, true, true, true, true, true, true, true, true, true, true, true, true, true, true, true, true, true, true, true, true, true, true, true, true, true, true, true, true, true, true, true, true, true, true, true, true, false, false, false, false, false, false, false, false, false, false] rfl rfl (any_of HT_.out (by kernel_rfl)) (fun _ _ _ h => h) (Or.inl ⟨by rfl, ?_⟩) ?_ ?_
              rotate_left
              · intro w'
                go_simp
                with_reducible rfl
              rotate_left
              · simp only [Act.put, List.setIfInBounds_toArray, List.set_cons_zero, List.set_cons_succ, i64_w, i32_w]
                rfl
              refine take_ (i := 42) (N := some 177) (v := ?_) (a' := ?_) #[true, true, true, true, true, true, true, true, true, true, true, true, true, true, true, true, true, true, true, true, true, true, true, true, true, true, true, true, true, true, true, true, true, true, true, true, true, true, true, true, true, true, true, false, false, false, false, false, false, false, false, false] rfl rfl (take_ofW HT_.out HW_.out (by kernel_rfl)) (fun _ _ _ h => h) (Or.inl ⟨by rfl, ?_⟩) hHeld ?_ ?_
              rotate_left
              · intro w' hS
                have h_ := ((below_step HB.out hS).cell (World.block_lt_of_cell? _ _ HCY.out)).trans HCY.out
                go_simp
                with_reducible rfl
              rotate_left
              · simp only [Act.put, List.setIfInBounds_toArray, List.set_cons_zero, List.set_cons_succ, i64_w, i32_w]
                rfl
              refine pure_ (i := 43) (N := some 178) (v := ?_) (a' := ?_) #[true, true, true, true, true, true, true, true, true, true, true, true, true, true, true, true, true, true, true, true, true, true, true, true, true, true, true, true, true, true, true, true, true, true, true, true, true, true, true, true, true, true, true, true, false, false, false, false, false, false, false, false] rfl rfl (any_of HT_.out (by kernel_rfl)) (fun _ _ _ h => h) (Or.inl ⟨by rfl, ?_⟩) ?_ ?_
              rotate_left
              · intro w'
                go_simp
                with_reducible rfl
              rotate_left
              · simp only [Act.put, List.setIfInBounds_toArray, List.set_cons_zero, List.set_cons_succ, i64_w, i32_w]
                rfl
              refine one_ (i := 44) (N := some 179) #[true, true, true, true, true, true, true, true, true, true, true, true, true, true, true, true, true, true, true, true, true, true, true, true, true, true, true, true, true, true, true, true, true, true, true, true, true, true, true, true, true, true, true, true, true, false, false, false, false, false, false, false] rfl rfl (one_of HT_.out (by kernel_rfl)) (by decide) (fun K hK => ?_)
              refine goes_ Try.func15 (by kernel_rfl) rfl #[.int .i64 (y.length : Int)] (by rfl) rfl rfl (by (try simp only [List.map_toArray, List.map_cons, List.map_nil]); first | done | rfl) ?_
              with_reducible refine (frame_Size.calls _ _ _ HSZ.out).mono ?_
              rintro e w11 ⟨rfl, hb⟩
              refine ⟨_, rfl, ?_⟩
              have hS_ := below_step hHeld hb
              refine hK.out _ _ hS_ (fun hHeld => ?_)
              clear hK K
              refine norm_ (a' := ?_) ?_ ?_
              rotate_left
              · show Act.put _ (some 179) _ = _
                simp only [Act.put, List.setIfInBounds_toArray, List.set_cons_zero, List.set_cons_succ, i64_w, i32_w]
                rfl
              refine pure_ (i := 45) (N := some 180) (v := ?_) (a' := ?_) #[true, true, true, true, true, true, true, true, true, true, true, true, true, true, true, true, true, true, true, true, true, true, true, true, true, true, true, true, true, true, true, true, true, true, true, true, true, true, true, true, true, true, true, true, true, true, false, false, false, false, false, false] rfl rfl (any_of HT_.out (by kernel_rfl)) (fun _ _ _ h => h) (Or.inl ⟨by rfl, ?_⟩) ?_ ?_
              rotate_left
              · intro w'
                go_simp
                with_reducible rfl
              rotate_left
              · simp only [Act.put, List.setIfInBounds_toArray, List.set_cons_zero, List.set_cons_succ, i64_w, i32_w]
                rfl
              refine pure_ (i := 46) (N := some 181) (v := ?_) (a' := ?_) #[true, true, true, true, true, true, true, true, true, true, true, true, true, true, true, true, true, true, true, true, true, true, true, true, true, true, true, true, true, true, true, true, true, true, true, true, true, true, true, true, true, true, true, true, true, true, true, false, false, false, false, false] rfl rfl (any_of HT_.out (by kernel_rfl)) (fun _ _ _ h => h) (Or.inl ⟨by rfl, ?_⟩) ?_ ?_
              rotate_left
              · intro w'
                go_simp
                with_reducible rfl
              rotate_left
              · simp only [Act.put, List.setIfInBounds_toArray, List.set_cons_zero, List.set_cons_succ, i64_w, i32_w]
                rfl
              refine pure_ (i := 47) (N := some 182) (v := ?_) (a' := ?_) #[true, true, true, true, true, true, true, true, true, true, true, true, true, true, true, true, true, true, true, true, true, true, true, true, true, true, true, true, true, true, true, true, true, true, true, true, true, true, true, true, true, true, true, true, true, true, true, true, false, false, false, false] rfl rfl (any_of HT_.out (by kernel_rfl)) (fun _ _ _ h => h) (Or.inl ⟨by rfl, ?_⟩) ?_ ?_
              rotate_left
              · intro w'
                go_simp
                with_reducible rfl
              rotate_left
              · simp only [Act.put, List.setIfInBounds_toArray, List.set_cons_zero, List.set_cons_succ, i64_w, i32_w]
                rfl
              refine pure_ (i := 48) (N := some 183) (v := ?_) (a' := ?_) #[true, true, true, true, true, true, true, true, true, true, true, true, true, true, true, true, true, true, true, true, true, true, true, true, true, true, true, true, true, true, true, true, true, true, true, true, true, true, true, true, true, true, true, true, true, true, true, true, true, false, false, false] rfl rfl (any_of HT_.out (by kernel_rfl)) (fun _ _ _ h => h) (Or.inl ⟨by rfl, ?_⟩) ?_ ?_
              rotate_left
              · intro w'
                go_simp
                with_reducible rfl
              rotate_left
              · simp only [Act.put, List.setIfInBounds_toArray, List.set_cons_zero, List.set_cons_succ, i64_w, i32_w]
                rfl
              refine one_ (i := 49) (N := some 184) #[true, true, true, true, true, true, true, true, true, true, true, true, true, true, true, true, true, true, true, true, true, true, true, true, true, true, true, true, true, true, true, true, true, true, true, true, true, true, true, true, true, true, true, true, true, true, true, true, true, true, false, false] rfl rfl (one_of HT_.out (by kernel_rfl)) (by decide) (fun K hK => ?_)
              refine goes_ Try.func10 (by kernel_rfl) rfl #[] (by rfl) rfl rfl (by (try simp only [List.map_toArray, List.map_cons, List.map_nil]); first | done | rfl) ?_
              with_reducible refine (concordancelaw3_awake.calls _ _ _ HAW.out).mono ?_
              rintro e w12 ⟨rfl, hb⟩
              refine ⟨_, rfl, ?_⟩
              have hS_ := below_step hHeld hb
              refine hK.out _ _ hS_ (fun hHeld => ?_)
              clear hK K
              refine norm_ (a' := ?_) ?_ ?_
              rotate_left
              · show Act.put _ (some 184) _ = _
                simp only [Act.put, List.setIfInBounds_toArray, List.set_cons_zero, List.set_cons_succ, i64_w, i32_w]
                rfl
              refine pure_ (i := 50) (N := some 185) (v := ?_) (a' := ?_) #[true, true, true, true, true, true, true, true, true, true, true, true, true, true, true, true, true, true, true, true, true, true, true, true, true, true, true, true, true, true, true, true, true, true, true, true, true, true, true, true, true, true, true, true, true, true, true, true, true, true, true, false] rfl rfl (any_of HT_.out (by kernel_rfl)) (fun _ _ _ h => h) (Or.inl ⟨by rfl, ?_⟩) ?_ ?_
              rotate_left
              · intro w'
                go_simp
                with_reducible rfl
              rotate_left
              · simp only [Act.put, List.setIfInBounds_toArray, List.set_cons_zero, List.set_cons_succ, i64_w, i32_w]
                rfl
              refine pure_ (i := 51) (N := some 4) (v := ?_) (a' := ?_) #[true, true, true, true, true, true, true, true, true, true, true, true, true, true, true, true, true, true, true, true, true, true, true, true, true, true, true, true, true, true, true, true, true, true, true, true, true, true, true, true, true, true, true, true, true, true, true, true, true, true, true, true] rfl rfl (any_of HT_.out (by kernel_rfl)) (fun _ _ _ h => h) (Or.inl ⟨by rfl, ?_⟩) ?_ ?_
              rotate_left
              · intro w'
                go_simp
                with_reducible rfl
              rotate_left
              · simp only [Act.put, List.setIfInBounds_toArray, List.set_cons_zero, List.set_cons_succ, i64_w, i32_w]
                rfl
              refine done_ (done_of HT_.out (by kernel_rfl)) ?_
              go_wp2
              go_ret
              exact ⟨rfl, below_step HB.out hHeld⟩
end Go.Proofs.Ytcnapbpljghfoaa.Hand

/- Printed by a program of this session (drv.py) from the translation of this seat: functions, their contracts, rows. -/
namespace Go.Proofs.Ytcnapbpljghfoaa.PCrc
open Go.RowKit Go.Proofs.YtcnapbpljghfoaaW.PrintWords Go.Proofs.YtcnapbpljghfoaaW.PrintLast Go.Proofs.YtcnapbpljghfoaaW.PrintMore
attribute [local go_sem] max2_int min2_int max_two min_two max_three min_three max_four min_four   -- for this text's walks alone
set_option linter.unusedVariables false
set_option linter.unusedSimpArgs false

/-! ### concordanceref1_Fix: function 25 -/
def concordanceref1_Fix.l0 : Nat → Int → Int → List Int → Int → Option (ByteArray)
  | 0, _, _, _, _ => none
  | k + 1, x0, x1, x5, x6 => if x6 < x1 then (if 0 ≤ (wrap64 (8 * x6)) then (if 0 ≤ (wrap64 ((wrap64 (x1 - 1)) - x6)) then (if (wrap64 ((wrap64 (x1 - 1)) - x6)) < (x5.length : Int) then (concordanceref1_Fix.l0 k x0 x1 (x5.set ((wrap64 ((wrap64 (x1 - 1)) - x6)) : Int).toNat ((shr .u64 x0 (wrap64 (8 * x6))) % 256)) (wrap64 (x6 + 1))) else (none)) else (none)) else (none)) else (some (strOfNums x5))
def concordanceref1_Fix.f (k : Nat) (a0 : Int) (a1 : Int) : Option (ByteArray) := if 0 ≤ (mn (mx a1 0) 8) then (if (mn (mx a1 0) 8 : Int).toNat ≤ 281474976710656 then (concordanceref1_Fix.l0 k a0 (mn (mx a1 0) 8) (List.replicate (mn (mx a1 0) 8 : Int).toNat 0) 0) else (none)) else (none)
theorem concordanceref1_Fix.mono_l : ∀ k, (∀ y0 y1 y2 y3, LeO (concordanceref1_Fix.l0 k y0 y1 y2 y3) (concordanceref1_Fix.l0 (k + 1) y0 y1 y2 y3))
  | 0 => fun _ _ _ _ r h => by simp [concordanceref1_Fix.l0] at h
  | k + 1 => by
    have ih0 := concordanceref1_Fix.mono_l k
    · intro y0 y1 y2 y3
      unfold concordanceref1_Fix.l0
      repeat' first
      | (with_reducible exact ih0 _ _ _ _)
      | (with_reducible exact LeO.refl _)
      | (with_reducible exact LeO.none _)
      | (with_reducible refine LeO.ite ?_ ?_)
      | (with_reducible refine LeO.bind ?_ (fun _ => ?_))
      | exact ih0 _ _ _ _
      | exact LeO.none _
      | refine LeO.ite ?_ ?_
      | refine LeO.bind ?_ (fun _ => ?_)
theorem concordanceref1_Fix.mono : ∀ a0 a1 k, LeO (concordanceref1_Fix.f k a0 a1) (concordanceref1_Fix.f (k + 1) a0 a1) := by
  intro a0 a1 k
  have ih0 := concordanceref1_Fix.mono_l k
  unfold concordanceref1_Fix.f
  repeat' first
      | (with_reducible exact ih0 _ _ _ _)
      | (with_reducible exact LeO.refl _)
      | (with_reducible exact LeO.none _)
      | (with_reducible refine LeO.ite ?_ ?_)
      | (with_reducible refine LeO.bind ?_ (fun _ => ?_))
      | exact ih0 _ _ _ _
      | exact LeO.none _
      | refine LeO.ite ?_ ?_
      | refine LeO.bind ?_ (fun _ => ?_)
set_option maxHeartbeats 8000000 in
set_option maxRecDepth 100000 in
theorem concordanceref1_Fix.calls (k : Nat) (a0 : Int) (a1 : Int) (r : ByteArray) (w : World) (h : concordanceref1_Fix.f k a0 a1 = some r) :
    Calls Try.prog 25 #[.int .u64 a0, .int .i64 a1] w fun e w' => e = .returned (.string r) ∧ Below w.heap.size w w' := by
  have HB := Aside0.mk (Below.refl w.heap.size w)
  have H : (if 0 ≤ (mn (mx a1 0) 8) then (if (mn (mx a1 0) 8 : Int).toNat ≤ 281474976710656 then (concordanceref1_Fix.l0 k a0 (mn (mx a1 0) 8) (List.replicate (mn (mx a1 0) 8 : Int).toNat 0) 0) else (none)) else (none)) = some r := h
  clear h
  obtain ⟨ji3, hji3⟩ : ∃ j_ : Int, (mx a1 0) = j_ := ⟨_, rfl⟩
  replace H : (if 0 ≤ (mn (ji3) 8) then (if (mn (ji3) 8 : Int).toNat ≤ 281474976710656 then (concordanceref1_Fix.l0 k a0 (mn (ji3) 8) (List.replicate (mn (ji3) 8 : Int).toNat 0) 0) else (none)) else (none)) = some r := by first | (rw [hji3] at H; exact H) | (simp only [hji3] at H ⊢; exact H)
  (try (have hji3l : 0 ≤ ji3 := by (rw [← hji3]; unfold mx; (repeat' split) <;> omega)))
  (try (have hji3m : 0 ≤ ji3 := by omega))
  have hji3_ : (if a1 < 0 then 0 else a1) = ji3 := hji3
  obtain ⟨ji4, hji4⟩ : ∃ j_ : Int, (mn (ji3) 8) = j_ := ⟨_, rfl⟩
  replace H : (if 0 ≤ (ji4) then (if (ji4 : Int).toNat ≤ 281474976710656 then (concordanceref1_Fix.l0 k a0 ji4 (List.replicate (ji4 : Int).toNat 0) 0) else (none)) else (none)) = some r := by first | (rw [hji4] at H; exact H) | (simp only [hji4] at H ⊢; exact H)
  have hji4_ : (if 8 < (ji3) then 8 else (ji3)) = ji4 := hji4
  by_cases c5 : 0 ≤ (ji4)
  · rw [if_pos c5] at H
    have c5b0 := eq_true c5
    have c5b1 : decide (0 ≤ (ji4)) = true := decide_eq_true c5
    clear c5
    by_cases c6 : (ji4 : Int).toNat ≤ 281474976710656
    · rw [if_pos c6] at H
      have c6b0 := eq_true c6
      have c6b1 : decide ((ji4 : Int).toNat ≤ 281474976710656) = true := decide_eq_true c6
      clear c6
      obtain ⟨y201, hy201⟩ : ∃ y_ : List Int, y_ = (List.replicate (ji4 : Int).toNat 0) := ⟨_, rfl⟩
      replace H : (concordanceref1_Fix.l0 k a0 ji4 y201 0) = some r := by first | (rw [hy201]; with_reducible exact H) | (have H2_ := (Option.bind_some _ _).symm.trans H; rw [hy201]; with_reducible exact H2_) | (have H2_ := (Option.bind_some _ _).symm.trans H; with_reducible exact H2_) | with_reducible exact H | (rw [hy201]; exact H) | exact H
      have Ny201 := Aside0.mk hy201
      clear hy201
      have H' := Aside0.mk H
      clear H
      go_enter Try.func25, Try.ntmps25
      go_wp2_with (first | ((with_reducible refine gate_dst (N := 11) rfl ?_); refine Kd.R_make (Kd.int .u8) _ 5 rfl (N := 11) rfl 22 _ _ rfl ji4 rfl rfl Try.underlying22 (.int .u8 0) 1 info5 rfl (by decide) (by omega) 0 (ok := fun _ => True) (okp := fun _ => True) rfl (fun _ hk => hk) trivial (of_decide_eq_true (by first | (with_reducible assumption) | assumption)) (Nat.le_trans (Nat.mul_le_mul_right _ (of_decide_eq_true (by first | (with_reducible assumption) | assumption) : ji4.toNat ≤ 281474976710656)) (by omega)) (Below.refl _ _) (Nat.le_refl _) ?_; intro v202 w7 ho8 hb hg_ hnew_; clear hg_ hnew_; (first | rw [← Ny201.out] at ho8 | (simp only [Int.reduceToNat] at ho8; rw [← Ny201.out] at ho8)); have n0_ := Aside0.mk (Kd.R_lower ho8 (below_size (by repeat (first | (with_reducible first | exact HB.out | apply below_alloc | apply pw_below_drewN | apply below_drew1) | exact HB.out)))); have n1_ := Aside0.mk (below_step (by repeat (first | (with_reducible first | exact HB.out | apply below_alloc | apply pw_below_drewN | apply below_drew1) | exact HB.out)) hb); clear HB; have HO203 := n0_; have HB := n1_; clear n0_ n1_; clear hb ho8))
      go_loopg [6] k (fun kq v6 w' => ∃ (x5_1 : List Int) (x6_1 : Int), v6 = .int .i64 x6_1 ∧ Aside0 (concordanceref1_Fix.l0 kq a0 ji4 x5_1 x6_1 = some r) ∧ Aside0 (kq ≤ k) ∧ Aside0 (Kd.R (Kd.int .u8) 5 w' w.heap.size (fun _ => True) v202 x5_1) ∧ Aside0 (Below w.heap.size w w'))
      case atStart => exact ⟨(y201), (0), (by first | rfl | (simp; done) | (simp [*]; done)), H', ⟨Nat.le_refl _⟩, ⟨by (with_reducible repeat (first | apply Kd.R_alloc | apply Kd.R_drewN | apply Kd.R_drew)); exact HO203.out⟩, ⟨by repeat (first | (with_reducible first | exact HB.out | apply below_alloc | apply pw_below_drewN | apply below_drew1) | exact HB.out)⟩⟩
      case round =>
        clear H'
        try clear c2
        try clear p2
        try clear c5
        try clear c5b0
        try clear c5b1
        try clear c6
        try clear c6b0
        try clear c6b1
        obtain ⟨x5_1, x6_1, rfl, HA, HK1, HO_5, HB⟩ := hrel
        clear hji3_ hji4_
        (try clear hji3m)
        (try clear hji3l)
        cases gk with
        | zero => exact absurd HA.out (by simp [concordanceref1_Fix.l0])
        | succ k1 =>
          have H := HA.out
          clear HA
          simp only [concordanceref1_Fix.l0] at H
          by_cases c9 : x6_1 < ji4
          · rw [if_pos c9] at H
            have c9b0 : decide (x6_1 < ji4) = true := decide_eq_true c9
            clear c9
            obtain ⟨ji10, hji10⟩ : ∃ j_ : Int, (wrap64 (8 * x6_1)) = j_ := ⟨_, rfl⟩
            replace H : (if 0 ≤ (ji10) then (if 0 ≤ (wrap64 ((wrap64 (ji4 - 1)) - x6_1)) then (if (wrap64 ((wrap64 (ji4 - 1)) - x6_1)) < (x5_1.length : Int) then (concordanceref1_Fix.l0 k1 a0 ji4 (x5_1.set ((wrap64 ((wrap64 (ji4 - 1)) - x6_1)) : Int).toNat ((shr .u64 a0 (ji10)) % 256)) (wrap64 (x6_1 + 1))) else (none)) else (none)) else (none)) = some r := by first | (rw [hji10] at H; exact H) | (simp only [hji10] at H ⊢; exact H)
            have hji10w : (IntKind.i64.wrap (8 * x6_1)) = ji10 := (i64_w _).trans hji10
            by_cases c11 : 0 ≤ (ji10)
            · rw [if_pos c11] at H
              have c11b0 := eq_true c11
              have c11b1 : decide (0 ≤ (ji10)) = true := decide_eq_true c11
              clear c11
              obtain ⟨ji12, hji12⟩ : ∃ j_ : Int, (shr .u64 a0 (ji10)) = j_ := ⟨_, rfl⟩
              replace H : (if 0 ≤ (wrap64 ((wrap64 (ji4 - 1)) - x6_1)) then (if (wrap64 ((wrap64 (ji4 - 1)) - x6_1)) < (x5_1.length : Int) then (concordanceref1_Fix.l0 k1 a0 ji4 (x5_1.set ((wrap64 ((wrap64 (ji4 - 1)) - x6_1)) : Int).toNat ((ji12) % 256)) (wrap64 (x6_1 + 1))) else (none)) else (none)) = some r := by first | (rw [hji12] at H; exact H) | (simp only [hji12] at H ⊢; exact H)
              have hji12_ : (a0 / 2 ^ min (ji10).toNat 64) = ji12 := hji12
              have hji12z : (ji10) ≤ 64 → (a0 / 2 ^ (ji10).toNat) = ji12 := shr_small hji12
              obtain ⟨ji13, hji13⟩ : ∃ j_ : Int, (wrap64 ((wrap64 (ji4 - 1)) - x6_1)) = j_ := ⟨_, rfl⟩
              replace H : (if 0 ≤ (ji13) then (if (ji13) < (x5_1.length : Int) then (concordanceref1_Fix.l0 k1 a0 ji4 (x5_1.set ((ji13) : Int).toNat ((ji12) % 256)) (wrap64 (x6_1 + 1))) else (none)) else (none)) = some r := by first | (rw [hji13] at H; exact H) | (simp only [hji13] at H ⊢; exact H)
              have hji13w : (IntKind.i64.wrap ((wrap64 (ji4 - 1)) - x6_1)) = ji13 := (i64_w _).trans hji13
              by_cases c14 : 0 ≤ (ji13)
              · rw [if_pos c14] at H
                have c14b0 : decide (0 ≤ (ji13)) = true := decide_eq_true c14
                clear c14
                by_cases c15 : (ji13) < (x5_1.length : Int)
                · rw [if_pos c15] at H
                  have c15b0 : decide ((ji13) < (x5_1.length : Int)) = true := decide_eq_true c15
                  clear c15
                  obtain ⟨y204, hy204⟩ : ∃ y_ : List Int, y_ = (x5_1.set ((ji13) : Int).toNat ((ji12) % 256)) := ⟨_, rfl⟩
                  replace H : (concordanceref1_Fix.l0 k1 a0 ji4 y204 (wrap64 (x6_1 + 1))) = some r := by first | (rw [hy204]; with_reducible exact H) | (have H2_ := (Option.bind_some _ _).symm.trans H; rw [hy204]; with_reducible exact H2_) | (have H2_ := (Option.bind_some _ _).symm.trans H; with_reducible exact H2_) | with_reducible exact H | (rw [hy204]; exact H) | exact H
                  have Ny204 := Aside0.mk hy204
                  clear hy204
                  have H' := Aside0.mk H
                  clear H
                  have p16 : 0 ≤ ((ji13) : Int) := of_decide_eq_true (by first | (with_reducible assumption) | assumption)
                  have q16 : ((ji13) : Int) < ((x5_1.length : Int) : Int) := of_decide_eq_true (by first | (with_reducible assumption) | assumption)
                  obtain ⟨go16, co16, eo16, gb16, gl16, cl16, HG16⟩ := Kd.R_form HO_5.out (by omega)
                  (first | cases eo16 | (injection eo16 with ea_ en_ ec_; (first | subst ea_ | (injection ea_ with ea_; subst ea_)); subst ec_; clear en_))
                  have GB16 := Aside0.mk gb16
                  have GG16 := Aside0.mk HG16
                  clear gb16 gl16 HG16
                  obtain ⟨hx16_0, hf16_0⟩ := Kd.R_celln 0 HO_5.out ((ji13) : Int) p16 q16
                  replace p16 := eq_true p16
                  replace q16 := eq_true q16
                  have HP17 := Kd.R_putg HO_5.out ((ji13) : Int) ((ji12) % 256)
                  go_wp2_with (first | ((with_reducible refine gate_store (t := 5) (p := 27) rfl ?_); refine store_event (t := 5) (p := 27) (v := ?vo_w18) (w1 := (wr.setCell ⟨go16, ((ji13) : Int).toNat, none⟩ (.int .u8 ((ji12) % 256)))) ?hg ?ho ?hn ?hr ?_; (case ho => rfl); (case hg => rfl); (case hn => rfl); (case hr => first | (go_simp; done) | (go_simp; rfl)); intro w18 hw; have hg : wr.grownBy w18 (some go16) := (by rw [hw]; exact HP17.2); have hp_ : Kd.R (Kd.int .u8) 5 w18 w.heap.size (fun _ => True) (.slice (some ⟨go16, 0, none⟩) x5_1.length co16) y204 := (by rw [hw, Ny204.out]; exact HP17.1); clear HP17; have n0_ := Aside0.mk (hp_); have n1_ := Aside0.mk ((by rw [hw]; exact below_set (HB.out) GB16.out : Below w.heap.size w w18)); clear HO_5; clear HB; have HO_5 := n0_; have HB := n1_; clear n0_ n1_; clear hg hw hp_))
                  go_roundg k1
                  case measure => have := HK1.out; omega
                  case rel => exact ⟨(y204), (wrap64 (x6_1 + 1)), (by first | rfl | (simp; done) | (simp [*]; done)), H', ⟨by have := HK1.out; omega⟩, ⟨by (with_reducible repeat (first | apply Kd.R_alloc | apply Kd.R_drewN | apply Kd.R_drew)); exact HO_5.out⟩, ⟨by repeat (first | (with_reducible first | exact HB.out | apply below_alloc | apply pw_below_drewN | apply below_drew1) | exact HB.out)⟩⟩
                · rw [if_neg c15] at H
                  exact absurd H (by simp)
              · rw [if_neg c14] at H
                exact absurd H (by simp)
            · rw [if_neg c11] at H
              exact absurd H (by simp)
          · rw [if_neg c9] at H
            have c9b0 : decide (x6_1 < ji4) = false := decide_eq_false c9
            clear c9
            obtain rfl := Option.some.inj H
            have hcv19 := own_string (P := Try.prog) Try.underlying22 Try.underlying5 Try.underlying9 (Kd.own_of_R HO_5.out)
            have hcvd19 := fun nd_ : Nat => own_string (P := Try.prog) Try.underlying22 Try.underlying5 Try.underlying9 (Kd.own_of_R (Kd.R_drewN HO_5.out nd_))
            go_wp2
            go_ret
            exact ⟨by first | rfl | (simp [errW_none, errW_some] <;> rfl) | (simp only [← hji3, ← hji4]; first | rfl | (simp [errW_none, errW_some] <;> rfl)) | (simp [*, errW_none, errW_some] <;> rfl), by repeat (first | (with_reducible first | exact HB.out | apply below_alloc | apply pw_below_drewN | apply below_drew1) | exact HB.out)⟩
    · rw [if_neg c6] at H
      exact absurd H (by simp)
  · rw [if_neg c5] at H
    exact absurd H (by simp)

end Go.Proofs.Ytcnapbpljghfoaa.PCrc

/- Printed by a program of this session (drv.py) from the translation of this seat: functions, their contracts, rows. -/
namespace Go.Proofs.Ytcnapbpljghfoaa.PCrc
open Go.RowKit Go.Proofs.YtcnapbpljghfoaaW.PrintWords Go.Proofs.YtcnapbpljghfoaaW.PrintLast Go.Proofs.YtcnapbpljghfoaaW.PrintMore
attribute [local go_sem] max2_int min2_int max_two min_two max_three min_three max_four min_four   -- for this text's walks alone
set_option linter.unusedVariables false
set_option linter.unusedSimpArgs false

/-! ### concordanceref1_Frame: function 14 -/
def concordanceref1_Frame.f (k : Nat) (a0 : Int) (a1 : ByteArray) : Option (ByteArray) := (some (([(a0) % 256] : List Int) : List Int)).bind fun y205 => ((concordanceref1_Fix.f k (IntKind.u64.wrap ((a1.size : Int))) 3).bind fun t208 => (if (strOfNums y205).size + t208.size ≤ 9223372036854775807 then ((concordanceref1_Seal.f ((strOfNums y205) ++ t208)).bind fun t209 => ((concordanceref1_Seal.f a1).bind fun t210 => (if t209.size + t210.size ≤ 9223372036854775807 then (some (t209 ++ t210)) else (none)))) else (none)))
theorem concordanceref1_Frame.mono : ∀ a0 a1 k, LeO (concordanceref1_Frame.f k a0 a1) (concordanceref1_Frame.f (k + 1) a0 a1) := by
  intro a0 a1 k
  unfold concordanceref1_Frame.f
  repeat' first
      | (with_reducible exact concordanceref1_Fix.mono _ _ _)
      | (with_reducible exact LeO.refl _)
      | (with_reducible exact LeO.none _)
      | (with_reducible refine LeO.ite ?_ ?_)
      | (with_reducible refine LeO.bind ?_ (fun _ => ?_))
      | exact concordanceref1_Fix.mono _ _ _
      | exact LeO.none _
      | refine LeO.ite ?_ ?_
      | refine LeO.bind ?_ (fun _ => ?_)
def concordanceref1_Frame.T1 : Bool × List (List Nat × List Nat) := (true, [([], []), ([0], [0]), ([1], [1]), ([2], [2]), ([], []), ([4], [4]), ([5], [5]), ([6], [6]), ([3, 7], [3, 7]), ([8, 7], [8]), ([], []), ([10, 9], [10]), ([9, 11], [9, 11]), ([12, 11, 0, 1, 2, 3, 4, 5, 6, 7, 8, 9, 10, 11, 12], [12])])
def concordanceref1_Frame.B1 : List Nat := [0, 1, 3, 7, 0, 16, 48, 112, 255, 511, 0, 2047, 4095, 8191]
theorem concordanceref1_Frame.tab1 : rtab .any (opsOf Try.f14 1) = concordanceref1_Frame.T1 := by kernel_rfl
theorem concordanceref1_Frame.bits1 : waitsOk concordanceref1_Frame.T1.2 concordanceref1_Frame.B1 = true := by kernel_rfl
set_option maxHeartbeats 8000000 in
set_option maxRecDepth 100000 in
theorem concordanceref1_Frame.calls (k : Nat) (a0 : Int) (a1 : ByteArray) (r : ByteArray) (w : World) (h : concordanceref1_Frame.f k a0 a1 = some r) :
    Calls Try.prog 14 #[.int .i64 a0, .string a1] w fun e w' => e = .returned (.string r) ∧ Below w.heap.size w w' := by
  have HB := Aside0.mk (Below.refl w.heap.size w)
  have H : ((some (([(a0) % 256] : List Int) : List Int)).bind fun y205 => ((concordanceref1_Fix.f k (IntKind.u64.wrap ((a1.size : Int))) 3).bind fun t208 => (if (strOfNums y205).size + t208.size ≤ 9223372036854775807 then ((concordanceref1_Seal.f ((strOfNums y205) ++ t208)).bind fun t209 => ((concordanceref1_Seal.f a1).bind fun t210 => (if t209.size + t210.size ≤ 9223372036854775807 then (some (t209 ++ t210)) else (none)))) else (none)))) = some r := h
  clear h
  obtain ⟨y205, hy205⟩ : ∃ y_ : List Int, y_ = (([(a0) % 256] : List Int)) := ⟨_, rfl⟩
  replace H : ((concordanceref1_Fix.f k (IntKind.u64.wrap ((a1.size : Int))) 3).bind fun t208 => (if (strOfNums y205).size + t208.size ≤ 9223372036854775807 then ((concordanceref1_Seal.f ((strOfNums y205) ++ t208)).bind fun t209 => ((concordanceref1_Seal.f a1).bind fun t210 => (if t209.size + t210.size ≤ 9223372036854775807 then (some (t209 ++ t210)) else (none)))) else (none))) = some r := by first | (rw [hy205]; with_reducible exact H) | (have H2_ := (Option.bind_some _ _).symm.trans H; rw [hy205]; with_reducible exact H2_) | (have H2_ := (Option.bind_some _ _).symm.trans H; with_reducible exact H2_) | with_reducible exact H | (rw [hy205]; exact H) | exact H
  have Ny205 := Aside0.mk hy205
  clear hy205
  replace H := Option.bind_eq_some_iff.mp H
  obtain ⟨t208, A30, H⟩ := H
  replace H : (if (strOfNums y205).size + t208.size ≤ 9223372036854775807 then ((concordanceref1_Seal.f ((strOfNums y205) ++ t208)).bind fun t209 => ((concordanceref1_Seal.f a1).bind fun t210 => (if t209.size + t210.size ≤ 9223372036854775807 then (some (t209 ++ t210)) else (none)))) else (none)) = some r := H
  have A3 := Aside0.mk A30
  clear A30
  by_cases c4 : (strOfNums y205).size + t208.size ≤ 9223372036854775807
  · rw [if_pos c4] at H
    have c4b0 := eq_true c4
    have c4b1 : decide ((strOfNums y205).size + t208.size ≤ 9223372036854775807) = true := decide_eq_true c4
    try have c4b2 : (9223372036854775807 < (strOfNums y205).size + t208.size) = False := eq_false (Nat.not_lt.2 c4)
    replace H := Option.bind_eq_some_iff.mp H
    obtain ⟨t209, A50, H⟩ := H
    replace H : ((concordanceref1_Seal.f a1).bind fun t210 => (if t209.size + t210.size ≤ 9223372036854775807 then (some (t209 ++ t210)) else (none))) = some r := H
    have A5 := Aside0.mk A50
    clear A50
    replace H := Option.bind_eq_some_iff.mp H
    obtain ⟨t210, A60, H⟩ := H
    replace H : (if t209.size + t210.size ≤ 9223372036854775807 then (some (t209 ++ t210)) else (none)) = some r := H
    have A6 := Aside0.mk A60
    clear A60
    by_cases c7 : t209.size + t210.size ≤ 9223372036854775807
    · rw [if_pos c7] at H
      have c7b0 := eq_true c7
      have c7b1 : decide (t209.size + t210.size ≤ 9223372036854775807) = true := decide_eq_true c7
      try have c7b2 : (9223372036854775807 < t209.size + t210.size) = False := eq_false (Nat.not_lt.2 c7)
      obtain rfl := Option.some.inj H
      go_enter Try.func14, Try.ntmps14
      try go_wp2
      have n0_ := Aside0.mk (below_drew1 HB.out)
      clear HB
      have HB := n0_
      clear n0_
      refine start_ (n := 14) (S := fun w' => True) (ds := []) #[false, false, false, false, false, false, false, false, false, false, false, false, false, false] (by kernel_rfl) rfl rfl trivial (fun hHeld => ?_); refine with_tabW concordanceref1_Frame.tab1 concordanceref1_Frame.bits1 (fun HT_ HW_ => ?_)
      generalize w.drew = w8 at HB hHeld ⊢
      refine pure_ (i := 0) (N := some 5) (v := ?_) (a' := ?_) #[true, false, false, false, false, false, false, false, false, false, false, false, false, false] rfl rfl (any_of HT_.out (by kernel_rfl)) (fun _ _ _ h => h) (Or.inl ⟨by rfl, ?_⟩) ?_ ?_
      rotate_left
      · intro w'
        go_simp
        with_reducible rfl
      rotate_left
      · simp only [Act.put, List.setIfInBounds_toArray, List.set_cons_zero, List.set_cons_succ, i64_w, i32_w]
        rfl
      refine pure_ (i := 1) (N := some 6) (v := ?_) (a' := ?_) #[true, true, false, false, false, false, false, false, false, false, false, false, false, false] rfl rfl (any_of HT_.out (by kernel_rfl)) (fun _ _ _ h => h) (Or.inl ⟨by rfl, ?_⟩) ?_ ?_
      rotate_left
      · intro w'
        go_simp
        with_reducible rfl
      rotate_left
      · simp only [Act.put, List.setIfInBounds_toArray, List.set_cons_zero, List.set_cons_succ, i64_w, i32_w]
        rfl
      refine pure_ (i := 4) (N := some 9) (v := ?_) (a' := ?_) #[true, true, false, false, true, false, false, false, false, false, false, false, false, false] rfl rfl (any_of HT_.out (by kernel_rfl)) (fun _ _ _ h => h) (Or.inl ⟨by rfl, ?_⟩) ?_ ?_
      rotate_left
      · intro w'
        go_simp
        with_reducible rfl
      rotate_left
      · simp only [Act.put, List.setIfInBounds_toArray, List.set_cons_zero, List.set_cons_succ, i64_w, i32_w]
        rfl
      refine pure_ (i := 5) (N := some 10) (v := ?_) (a' := ?_) #[true, true, false, false, true, true, false, false, false, false, false, false, false, false] rfl rfl (any_of HT_.out (by kernel_rfl)) (fun _ _ _ h => h) (Or.inl ⟨by rfl, ?_⟩) ?_ ?_
      rotate_left
      · intro w'
        go_simp
        with_reducible rfl
      rotate_left
      · simp only [Act.put, List.setIfInBounds_toArray, List.set_cons_zero, List.set_cons_succ, i64_w, i32_w]
        rfl
      refine pure_ (i := 6) (N := some 11) (v := ?_) (a' := ?_) #[true, true, false, false, true, true, true, false, false, false, false, false, false, false] rfl rfl (any_of HT_.out (by kernel_rfl)) (fun _ _ _ h => h) (Or.inl ⟨by rfl, ?_⟩) ?_ ?_
      rotate_left
      · intro w'
        go_simp
        with_reducible rfl
      rotate_left
      · simp only [Act.put, List.setIfInBounds_toArray, List.set_cons_zero, List.set_cons_succ, i64_w, i32_w]
        rfl
      refine pure_ (i := 10) (N := some 15) (v := ?_) (a' := ?_) #[true, true, false, false, true, true, true, false, false, false, true, false, false, false] rfl rfl (any_of HT_.out (by kernel_rfl)) (fun _ _ _ h => h) (Or.inl ⟨by rfl, ?_⟩) ?_ ?_
      rotate_left
      · intro w'
        go_simp
        with_reducible rfl
      rotate_left
      · simp only [Act.put, List.setIfInBounds_toArray, List.set_cons_zero, List.set_cons_succ, i64_w, i32_w]
        rfl
      refine join_ (σ := Value) 5 #[true, true, true, true, true, true, true, true, false, false, true, false, false, false] (fun s_ => [(7, s_), (8, .string (strOfNums y205)), (12, .string t208)]) (fun s_ w' => (Kd.R (Kd.int .u8) 5 w' w.heap.size (fun _ => True) s_ y205) ∧ (Below w.heap.size w w')) ?_ ?_
      rotate_left
      · intro hCont
        refine two_ (i := 2) (j := 7) (Ni := some 7) (Nj := some 12) #[true, true, true, false, true, true, true, false, false, false, true, false, false, false] #[true, true, false, false, true, true, true, true, false, false, true, false, false, false] rfl rfl rfl rfl (two_of HT_.out (by kernel_rfl)) (by decide) (by decide) (fun K hK => ?_) (fun K hK => ?_)
        · skip
          refine Kd.R_lit_step (Kd.int .u8) _ 5 ?hg (N := 7) ?hd (xs := ([(a0) % 256] : List Int)) (inner := [.int .u8 ((a0) % 256)]) (ok := fun _ => True) (okp := fun _ => True) ?hr ?hp (fun _ hk => hk) trivial (Below.refl _ _) (Nat.le_refl _) (by simp) ?_; (case hd => rfl); (case hg => rfl); (case hr => first | (go_simp; done) | (go_simp; rfl)); (case hp => exact (Reps.one (show Kd.M (Kd.int .u8) _ _ _ ((a0) % 256) [.int .u8 ((a0) % 256)] from rfl) (Reps.none _ _)))
          intro v206 w9 ho10 hb hg_ hnew_
          clear hg_ hnew_
          (first | rw [← Ny205.out] at ho10 | (simp only [Int.reduceToNat] at ho10; rw [← Ny205.out] at ho10))
          have n0_ := Aside0.mk (Kd.R_lower ho10 (below_size (by repeat (first | (with_reducible first | exact HB.out | apply below_alloc | apply pw_below_drewN | apply below_drew1) | exact HB.out))))
          have n1_ := Aside0.mk (below_step (by repeat (first | (with_reducible first | exact HB.out | apply below_alloc | apply pw_below_drewN | apply below_drew1) | exact HB.out)) hb)
          clear HB
          have HO207 := n0_
          have HB := n1_
          clear n0_ n1_
          clear hb ho10
          refine hK.out _ _ trivial (fun hHeld => ?_)
          clear hK K
          refine norm_ (a' := ?_) ?_ ?_
          rotate_left
          · show Act.put _ (some 7) _ = _
            simp only [Act.put, List.setIfInBounds_toArray, List.set_cons_zero, List.set_cons_succ, i64_w, i32_w]
            rfl
          refine two_ (i := 3) (j := 7) (Ni := some 8) (Nj := some 12) #[true, true, true, true, true, true, true, false, false, false, true, false, false, false] #[true, true, true, false, true, true, true, true, false, false, true, false, false, false] rfl rfl rfl rfl (two_of HT_.out (by kernel_rfl)) (by decide) (by decide) (fun K hK => ?_) (fun K hK => ?_)
          · skip
            have hcv11 := own_string (P := Try.prog) Try.underlying22 Try.underlying5 Try.underlying9 (Kd.own_of_R HO207.out)
            refine value_ (w1 := ?_) (v := ?_) (by rfl) rfl ?_ ?_
            rotate_left 2
            · go_simp
              constructor
              · rfl
              · rfl
            clear hcv11
            refine hK.out _ _ trivial (fun hHeld => ?_)
            clear hK K
            refine norm_ (a' := ?_) ?_ ?_
            rotate_left
            · show Act.put _ (some 8) _ = _
              simp only [Act.put, List.setIfInBounds_toArray, List.set_cons_zero, List.set_cons_succ, i64_w, i32_w]
              rfl
            refine one_ (i := 7) (N := some 12) #[true, true, true, true, true, true, true, true, false, false, true, false, false, false] rfl rfl (one_of HT_.out (by kernel_rfl)) (by decide) (fun K hK => ?_)
            refine goes_ Try.func25 (by kernel_rfl) rfl #[.int .u64 (IntKind.u64.wrap ((a1.size : Int))), .int .i64 3] (by rfl) rfl rfl (by (try simp only [List.map_toArray, List.map_cons, List.map_nil]); first | done | rfl | (simp only [List.length_drop, List.length_take]; rfl)) ?_
            with_reducible refine (concordanceref1_Fix.calls k (IntKind.u64.wrap ((a1.size : Int))) 3 t208 _ A3.out).mono ?_
            rintro e w12 ⟨rfl, hb⟩
            refine ⟨_, rfl, ?_⟩
            have n0_ := Aside0.mk (Kd.R_below (by (with_reducible repeat (first | apply Kd.R_alloc | apply Kd.R_drewN | apply Kd.R_drew)); exact HO207.out) hb)
            have n1_ := Aside0.mk (below_step (by repeat (first | (with_reducible first | exact HB.out | apply below_alloc | apply pw_below_drewN | apply below_drew1) | exact HB.out)) hb)
            clear HO207
            clear HB
            have HO207 := n0_
            have HB := n1_
            clear n0_ n1_
            (try clear hb)
            (try clear hb2)
            (try clear hk)
            (try clear hi)
            refine hK.out _ _ trivial (fun hHeld => ?_)
            clear hK K
            refine norm_ (a' := ?_) ?_ ?_
            rotate_left
            · show Act.put _ (some 12) _ = _
              simp only [Act.put, List.setIfInBounds_toArray, List.set_cons_zero, List.set_cons_succ, i64_w, i32_w]
              rfl
            exact norm_ (by simp only [putAll, Act.put, List.setIfInBounds_toArray, List.set_cons_zero, List.set_cons_succ]) (hCont (v206) _ ⟨(by (with_reducible repeat (first | apply Kd.R_alloc | apply Kd.R_drewN | apply Kd.R_drew)); exact HO207.out), (by repeat (first | (with_reducible first | exact HB.out | apply below_alloc | apply pw_below_drewN | apply below_drew1) | exact HB.out))⟩)
          · skip
            refine goes_ Try.func25 (by kernel_rfl) rfl #[.int .u64 (IntKind.u64.wrap ((a1.size : Int))), .int .i64 3] (by rfl) rfl rfl (by (try simp only [List.map_toArray, List.map_cons, List.map_nil]); first | done | rfl | (simp only [List.length_drop, List.length_take]; rfl)) ?_
            with_reducible refine (concordanceref1_Fix.calls k (IntKind.u64.wrap ((a1.size : Int))) 3 t208 _ A3.out).mono ?_
            rintro e w11 ⟨rfl, hb⟩
            refine ⟨_, rfl, ?_⟩
            have n0_ := Aside0.mk (Kd.R_below (by (with_reducible repeat (first | apply Kd.R_alloc | apply Kd.R_drewN | apply Kd.R_drew)); exact HO207.out) hb)
            have n1_ := Aside0.mk (below_step (by repeat (first | (with_reducible first | exact HB.out | apply below_alloc | apply pw_below_drewN | apply below_drew1) | exact HB.out)) hb)
            clear HO207
            clear HB
            have HO207 := n0_
            have HB := n1_
            clear n0_ n1_
            (try clear hb)
            (try clear hb2)
            (try clear hk)
            (try clear hi)
            refine hK.out _ _ trivial (fun hHeld => ?_)
            clear hK K
            refine norm_ (a' := ?_) ?_ ?_
            rotate_left
            · show Act.put _ (some 12) _ = _
              simp only [Act.put, List.setIfInBounds_toArray, List.set_cons_zero, List.set_cons_succ, i64_w, i32_w]
              rfl
            refine one_ (i := 3) (N := some 8) #[true, true, true, true, true, true, true, true, false, false, true, false, false, false] rfl rfl (one_of HT_.out (by kernel_rfl)) (by decide) (fun K hK => ?_)
            have hcv12 := own_string (P := Try.prog) Try.underlying22 Try.underlying5 Try.underlying9 (Kd.own_of_R HO207.out)
            refine value_ (w1 := ?_) (v := ?_) (by rfl) rfl ?_ ?_
            rotate_left 2
            · go_simp
              constructor
              · rfl
              · rfl
            clear hcv12
            refine hK.out _ _ trivial (fun hHeld => ?_)
            clear hK K
            refine norm_ (a' := ?_) ?_ ?_
            rotate_left
            · show Act.put _ (some 8) _ = _
              simp only [Act.put, List.setIfInBounds_toArray, List.set_cons_zero, List.set_cons_succ, i64_w, i32_w]
              rfl
            exact norm_ (by simp only [putAll, Act.put, List.setIfInBounds_toArray, List.set_cons_zero, List.set_cons_succ]) (hCont (v206) _ ⟨(by (with_reducible repeat (first | apply Kd.R_alloc | apply Kd.R_drewN | apply Kd.R_drew)); exact HO207.out), (by repeat (first | (with_reducible first | exact HB.out | apply below_alloc | apply pw_below_drewN | apply below_drew1) | exact HB.out))⟩)
        · skip
          refine goes_ Try.func25 (by kernel_rfl) rfl #[.int .u64 (IntKind.u64.wrap ((a1.size : Int))), .int .i64 3] (by rfl) rfl rfl (by (try simp only [List.map_toArray, List.map_cons, List.map_nil]); first | done | rfl | (simp only [List.length_drop, List.length_take]; rfl)) ?_
          with_reducible refine (concordanceref1_Fix.calls k (IntKind.u64.wrap ((a1.size : Int))) 3 t208 _ A3.out).mono ?_
          rintro e w9 ⟨rfl, hb⟩
          refine ⟨_, rfl, ?_⟩
          have n0_ := Aside0.mk (below_step (by repeat (first | (with_reducible first | exact HB.out | apply below_alloc | apply pw_below_drewN | apply below_drew1) | exact HB.out)) hb)
          clear HB
          have HB := n0_
          clear n0_
          (try clear hb)
          (try clear hb2)
          (try clear hk)
          (try clear hi)
          refine hK.out _ _ trivial (fun hHeld => ?_)
          clear hK K
          refine norm_ (a' := ?_) ?_ ?_
          rotate_left
          · show Act.put _ (some 12) _ = _
            simp only [Act.put, List.setIfInBounds_toArray, List.set_cons_zero, List.set_cons_succ, i64_w, i32_w]
            rfl
          refine one_ (i := 2) (N := some 7) #[true, true, true, false, true, true, true, true, false, false, true, false, false, false] rfl rfl (one_of HT_.out (by kernel_rfl)) (by decide) (fun K hK => ?_)
          refine Kd.R_lit_step (Kd.int .u8) _ 5 ?hg (N := 7) ?hd (xs := ([(a0) % 256] : List Int)) (inner := [.int .u8 ((a0) % 256)]) (ok := fun _ => True) (okp := fun _ => True) ?hr ?hp (fun _ hk => hk) trivial (Below.refl _ _) (Nat.le_refl _) (by simp) ?_; (case hd => rfl); (case hg => rfl); (case hr => first | (go_simp; done) | (go_simp; rfl)); (case hp => exact (Reps.one (show Kd.M (Kd.int .u8) _ _ _ ((a0) % 256) [.int .u8 ((a0) % 256)] from rfl) (Reps.none _ _)))
          intro v206 w10 ho11 hb hg_ hnew_
          clear hg_ hnew_
          (first | rw [← Ny205.out] at ho11 | (simp only [Int.reduceToNat] at ho11; rw [← Ny205.out] at ho11))
          have n0_ := Aside0.mk (Kd.R_lower ho11 (below_size (by repeat (first | (with_reducible first | exact HB.out | apply below_alloc | apply pw_below_drewN | apply below_drew1) | exact HB.out))))
          have n1_ := Aside0.mk (below_step (by repeat (first | (with_reducible first | exact HB.out | apply below_alloc | apply pw_below_drewN | apply below_drew1) | exact HB.out)) hb)
          clear HB
          have HO207 := n0_
          have HB := n1_
          clear n0_ n1_
          clear hb ho11
          refine hK.out _ _ trivial (fun hHeld => ?_)
          clear hK K
          refine norm_ (a' := ?_) ?_ ?_
          rotate_left
          · show Act.put _ (some 7) _ = _
            simp only [Act.put, List.setIfInBounds_toArray, List.set_cons_zero, List.set_cons_succ, i64_w, i32_w]
            rfl
          refine one_ (i := 3) (N := some 8) #[true, true, true, true, true, true, true, true, false, false, true, false, false, false] rfl rfl (one_of HT_.out (by kernel_rfl)) (by decide) (fun K hK => ?_)
          have hcv12 := own_string (P := Try.prog) Try.underlying22 Try.underlying5 Try.underlying9 (Kd.own_of_R HO207.out)
          refine value_ (w1 := ?_) (v := ?_) (by rfl) rfl ?_ ?_
          rotate_left 2
          · go_simp
            constructor
            · rfl
            · rfl
          clear hcv12
          refine hK.out _ _ trivial (fun hHeld => ?_)
          clear hK K
          refine norm_ (a' := ?_) ?_ ?_
          rotate_left
          · show Act.put _ (some 8) _ = _
            simp only [Act.put, List.setIfInBounds_toArray, List.set_cons_zero, List.set_cons_succ, i64_w, i32_w]
            rfl
          exact norm_ (by simp only [putAll, Act.put, List.setIfInBounds_toArray, List.set_cons_zero, List.set_cons_succ]) (hCont (v206) _ ⟨(by (with_reducible repeat (first | apply Kd.R_alloc | apply Kd.R_drewN | apply Kd.R_drew)); exact HO207.out), (by repeat (first | (with_reducible first | exact HB.out | apply below_alloc | apply pw_below_drewN | apply below_drew1) | exact HB.out))⟩)
      rintro v206 w13 ⟨h0_, h1_⟩
      have n0_ : Aside0 (Kd.R (Kd.int .u8) 5 w13 w.heap.size (fun _ => True) v206 y205) := ⟨h0_⟩
      have n1_ : Aside0 (Below w.heap.size w w13) := ⟨h1_⟩
      clear HB
      clear h0_ h1_
      have HO207 := n0_
      have HB := n1_
      clear n0_ n1_
      have hHeld := trivial
      refine norm_ (a' := ?_) ?_ ?_
      rotate_left
      · simp only [putAll, Act.put, List.setIfInBounds_toArray, List.set_cons_zero, List.set_cons_succ]
        rfl
      refine pure_ (i := 8) (N := some 13) (v := ?_) (a' := ?_) #[true, true, true, true, true, true, true, true, true, false, true, false, false, false] rfl rfl (any_of HT_.out (by kernel_rfl)) (fun _ _ _ h => h) (Or.inl ⟨by rfl, ?_⟩) ?_ ?_
      rotate_left
      · intro w'
        go_simp
        with_reducible rfl
      rotate_left
      · simp only [Act.put, List.setIfInBounds_toArray, List.set_cons_zero, List.set_cons_succ, i64_w, i32_w]
        rfl
      refine one_ (i := 9) (N := some 14) #[true, true, true, true, true, true, true, true, true, true, true, false, false, false] rfl rfl (one_of HT_.out (by kernel_rfl)) (by decide) (fun K hK => ?_)
      refine goes_ Try.func24 (by kernel_rfl) rfl #[.string ((strOfNums y205) ++ t208)] (by rfl) rfl rfl (by (try simp only [List.map_toArray, List.map_cons, List.map_nil]); first | done | rfl | (simp only [List.length_drop, List.length_take]; rfl)) ?_
      with_reducible refine (concordanceref1_Seal.calls ((strOfNums y205) ++ t208) t209 _ A5.out).mono ?_
      rintro e w14 ⟨rfl, hb⟩
      refine ⟨_, rfl, ?_⟩
      have n0_ := Aside0.mk (Kd.R_below (by (with_reducible repeat (first | apply Kd.R_alloc | apply Kd.R_drewN | apply Kd.R_drew)); exact HO207.out) hb)
      have n1_ := Aside0.mk (below_step (by repeat (first | (with_reducible first | exact HB.out | apply below_alloc | apply pw_below_drewN | apply below_drew1) | exact HB.out)) hb)
      clear HO207
      clear HB
      have HO207 := n0_
      have HB := n1_
      clear n0_ n1_
      (try clear hb)
      (try clear hb2)
      (try clear hk)
      (try clear hi)
      refine hK.out _ _ trivial (fun hHeld => ?_)
      clear hK K
      refine norm_ (a' := ?_) ?_ ?_
      rotate_left
      · show Act.put _ (some 14) _ = _
        simp only [Act.put, List.setIfInBounds_toArray, List.set_cons_zero, List.set_cons_succ, i64_w, i32_w]
        rfl
      refine one_ (i := 11) (N := some 16) #[true, true, true, true, true, true, true, true, true, true, true, true, false, false] rfl rfl (one_of HT_.out (by kernel_rfl)) (by decide) (fun K hK => ?_)
      refine goes_ Try.func24 (by kernel_rfl) rfl #[.string a1] (by rfl) rfl rfl (by (try simp only [List.map_toArray, List.map_cons, List.map_nil]); first | done | rfl | (simp only [List.length_drop, List.length_take]; rfl)) ?_
      with_reducible refine (concordanceref1_Seal.calls a1 t210 _ A6.out).mono ?_
      rintro e w15 ⟨rfl, hb⟩
      refine ⟨_, rfl, ?_⟩
      have n0_ := Aside0.mk (Kd.R_below (by (with_reducible repeat (first | apply Kd.R_alloc | apply Kd.R_drewN | apply Kd.R_drew)); exact HO207.out) hb)
      have n1_ := Aside0.mk (below_step (by repeat (first | (with_reducible first | exact HB.out | apply below_alloc | apply pw_below_drewN | apply below_drew1) | exact HB.out)) hb)
      clear HO207
      clear HB
      have HO207 := n0_
      have HB := n1_
      clear n0_ n1_
      (try clear hb)
      (try clear hb2)
      (try clear hk)
      (try clear hi)
      refine hK.out _ _ trivial (fun hHeld => ?_)
      clear hK K
      refine norm_ (a' := ?_) ?_ ?_
      rotate_left
      · show Act.put _ (some 16) _ = _
        simp only [Act.put, List.setIfInBounds_toArray, List.set_cons_zero, List.set_cons_succ, i64_w, i32_w]
        rfl
      refine pure_ (i := 12) (N := some 17) (v := ?_) (a' := ?_) #[true, true, true, true, true, true, true, true, true, true, true, true, true, false] rfl rfl (any_of HT_.out (by kernel_rfl)) (fun _ _ _ h => h) (Or.inl ⟨by rfl, ?_⟩) ?_ ?_
      rotate_left
      · intro w'
        go_simp
        with_reducible rfl
      rotate_left
      · simp only [Act.put, List.setIfInBounds_toArray, List.set_cons_zero, List.set_cons_succ, i64_w, i32_w]
        rfl
      refine pure_ (i := 13) (N := some 4) (v := ?_) (a' := ?_) #[true, true, true, true, true, true, true, true, true, true, true, true, true, true] rfl rfl (any_of HT_.out (by kernel_rfl)) (fun _ _ _ h => h) (Or.inl ⟨by rfl, ?_⟩) ?_ ?_
      rotate_left
      · intro w'
        go_simp
        with_reducible rfl
      rotate_left
      · simp only [Act.put, List.setIfInBounds_toArray, List.set_cons_zero, List.set_cons_succ, i64_w, i32_w]
        rfl
      refine done_ (done_of HT_.out (by kernel_rfl)) ?_
      try go_wp2
      go_ret
      exact ⟨by first | rfl | (simp [errW_none, errW_some] <;> rfl) | (simp [*, errW_none, errW_some] <;> rfl), by repeat (first | (with_reducible first | exact HB.out | apply below_alloc | apply pw_below_drewN | apply below_drew1) | exact HB.out)⟩
    · rw [if_neg c7] at H
      exact absurd H (by simp)
  · rw [if_neg c4] at H
    exact absurd H (by simp)

end Go.Proofs.Ytcnapbpljghfoaa.PCrc

/- concordancelaw3.FramePuts, walked by hand: a record is framed as the document says, or refused; it is taken again. -/
namespace Go.Proofs.Ytcnapbpljghfoaa.Plain
open Go.RowKit Go.Proofs.YtcnapbpljghfoaaW.PrintWords Go.Proofs.YtcnapbpljghfoaaW.PrintLast Go.Proofs.YtcnapbpljghfoaaW.PrintMore
open Go.Proofs.Ytcnapbpljghfoaa.PCrc
open Go.Proofs.Ytcnapbpljghfoaa.Hand (moreF sealF ownF tailL sum_f tail_f refsumF fixF concatF takeO)
set_option linter.unusedVariables false
set_option linter.unusedSimpArgs false
theorem reffix3 (n : Nat) (k : Nat) : concordanceref1_Fix.f (k + 4) (n : Int) 3 = some (strOfNums (fixL n 3)) := by
  unfold concordanceref1_Fix.f
  rw [show mn (mx 3 0) 8 = 3 from by unfold mn mx; decide, if_pos (by omega), if_pos (by decide), show List.replicate (3 : Int).toNat (0 : Int) = [0, 0, 0] from rfl]
  have s0 : shr .u64 (n : Int) 0 % 256 = ((n % 256 : Nat) : Int) := by
    unfold shr
    rw [show min (0 : Int).toNat IntKind.u64.bits = 0 from by decide]
    omega
  have s1 : shr .u64 (n : Int) 8 % 256 = ((n / 256 % 256 : Nat) : Int) := by
    unfold shr
    rw [show min (8 : Int).toNat IntKind.u64.bits = 8 from by decide]
    omega
  have s2 : shr .u64 (n : Int) 16 % 256 = ((n / 65536 % 256 : Nat) : Int) := by
    unfold shr
    rw [show min (16 : Int).toNat IntKind.u64.bits = 16 from by decide]
    omega
  rw [show k + 4 = (k + 3) + 1 from rfl, concordanceref1_Fix.l0, if_pos (by omega), w64 (x := 8 * 0) (by omega) (by omega), if_pos (by omega), w64 (x := 3 - 1) (by omega) (by omega), w64 (x := (3 : Int) - 1 - 0) (by omega) (by omega), if_pos (by omega), if_pos (by simp), show (8 : Int) * 0 = 0 from rfl, s0, w64 (by omega) (by omega)]
  rw [show k + 3 = (k + 2) + 1 from rfl, concordanceref1_Fix.l0, if_pos (by omega), w64 (x := 8 * (0 + 1)) (by omega) (by omega), if_pos (by omega), w64 (x := 3 - 1) (by omega) (by omega), w64 (x := (3 : Int) - 1 - (0 + 1)) (by omega) (by omega), if_pos (by omega), if_pos (by simp), show (8 : Int) * (0 + 1) = 8 from rfl, s1, w64 (by omega) (by omega)]
  rw [show k + 2 = (k + 1) + 1 from rfl, concordanceref1_Fix.l0, if_pos (by omega), w64 (x := 8 * (0 + 1 + 1)) (by omega) (by omega), if_pos (by omega), w64 (x := 3 - 1) (by omega) (by omega), w64 (x := (3 : Int) - 1 - (0 + 1 + 1)) (by omega) (by omega), if_pos (by omega), if_pos (by simp), show (8 : Int) * (0 + 1 + 1) = 16 from rfl, s2, w64 (by omega) (by omega)]
  rw [concordanceref1_Fix.l0, if_neg (by omega)]
  congr 2
  show [((n / 65536 % 256 : Nat) : Int), ((n / 256 % 256 : Nat) : Int), ((n % 256 : Nat) : Int)] = [((n / 256 ^ 2 % 256 : Nat) : Int), ((n / 256 ^ 1 % 256 : Nat) : Int), ((n / 256 ^ 0 % 256 : Nat) : Int)]
  simp
theorem refframe_f {body : List Int} (hb : isB body) (hl : body.length ≤ 140737488200000) (kind : Int) (k : Nat) : concordanceref1_Frame.f (k + 4) kind (strOfNums body) = some (strOfNums (recL kind body)) := by
  unfold concordanceref1_Frame.f
  rw [Option.bind_some, strOfNums_size, wrap_u64, show ((body.length : Int) % 18446744073709551616) = ((body.length : Nat) : Int) from by omega, reffix3, Option.bind_some, strOfNums_size, strOfNums_size, if_pos (by simp [fixL_length]), strOfNums_append]
  have e : [kind % 256] ++ fixL body.length 3 = headL kind body.length := rfl
  rw [e, refseal_f (headL_isB _ _) (by rw [headL_length]; omega), Option.bind_some, refseal_f hb (by omega), Option.bind_some, strOfNums_size, strOfNums_size, if_pos (by rw [List.length_append, List.length_append, headL_length, tailL_length, tailL_length]; omega), strOfNums_append]
  rfl
end Go.Proofs.Ytcnapbpljghfoaa.Plain
namespace Go.Proofs.Ytcnapbpljghfoaa.Hand
open Go.RowKit Go.Proofs.YtcnapbpljghfoaaW.PrintWords Go.Proofs.YtcnapbpljghfoaaW.PrintLast Go.Proofs.YtcnapbpljghfoaaW.PrintMore
open Go.Proofs.Ytcnapbpljghfoaa.Plain Go.Proofs.Ytcnapbpljghfoaa.PCrc
set_option linter.unusedVariables false
set_option linter.unusedSimpArgs false
/-- A row that came in reads so whatever becomes of the world above it. -/
theorem F_came {k : IntKind} {w : World} {A : Option Addr} {n : Nat} {xs : List Int} (h : Kd.C (Kd.int k) w A n xs) : Kd.F (Kd.int k) w (fun _ => True) A n xs := fun W' hk => (Kd.heap_int k).C (fun j hj => hk j trivial hj) h
def puts.T8 : Bool × List (List Nat × List Nat) := (true, [([], []), ([0], [0]), ([1], [1]), ([2], [2]), ([3, 2], [2, 3]), ([2], [2]), ([5, 2], [2, 5]), ([2], [2]), ([2], [2]), ([8, 2], [2, 8]), ([7, 9, 2, 2], [2, 7, 9]), ([6, 10, 2], [2, 6, 10]), ([4, 11, 2], [2, 4, 11]), ([2, 12], [2, 12]), ([13, 10], [13]), ([14], [14]), ([15, 14], [14, 15]), ([14, 16], [14, 16]), ([17, 14], [17]), ([18], [18]), ([18], [18]), ([20, 18], [18, 20]), ([19, 21, 18], [18, 19, 21]), ([18, 22], [18, 22]), ([23, 18], [23]), ([24], [24]), ([25, 24], [24, 25]), ([24], [24]), ([26, 27, 24], [24, 26, 27]), ([24, 28], [24, 28]), ([29, 24], [29]), ([30], [30]), ([31, 30], [30, 31]), ([32, 30], [30, 32]), ([30], [30]), ([34, 30], [30, 34]), ([33, 35, 30], [30, 33, 35]), ([30, 36], [30, 36]), ([37, 30], [37]), ([38], [38]), ([38], [38]), ([40, 38], [38, 40]), ([38], [38]), ([42, 38], [38, 42]), ([43, 38, 38], [38, 43]), ([41, 44, 38], [38, 41, 44]), ([39, 45, 38], [38, 39, 45]), ([38, 46], [38, 46]), ([47, 44], [47]), ([48, 48], [48]), ([48, 49], [48, 49]), ([50, 49, 0, 1, 2, 3, 4, 5, 6, 7, 8, 9, 10, 11, 12, 13, 14, 15, 16, 17, 18, 19, 20, 21, 22, 23, 24, 25, 26, 27, 28, 29, 30, 31, 32, 33, 34, 35, 36, 37, 38, 39, 40, 41, 42, 43, 44, 45, 46, 47, 48, 49, 50], [50])])
def puts.B8 : List Nat := [0, 1, 3, 7, 15, 7, 39, 7, 7, 263, 903, 2023, 4095, 8191, 16383, 32767, 65535, 131071, 262143, 524287, 524287, 1572863, 4194303, 8388607, 16777215, 33554431, 67108863, 33554431, 268435455, 536870911, 1073741823, 2147483647, 4294967295, 8589934591, 2147483647, 19327352831, 68719476735, 137438953471, 274877906943, 549755813887, 549755813887, 1649267441663, 549755813887, 4947802324991, 13743895347199, 34634616274943, 70368744177663, 140737488355327, 281474976710655, 562949953421311, 1125899906842623, 2251799813685247]
theorem puts.tab8 : rtab .any (opsOf Try.f3 8) = puts.T8 := by kernel_rfl
theorem puts.bits8 : waitsOk puts.T8.2 puts.B8 = true := by kernel_rfl

set_option maxHeartbeats 4000000 in
set_option maxRecDepth 100000 in
theorem puts_walk (A0 : Option Addr) (c0 : Nat) (l0 : List Int) (a1 : Int) (A2 : Option Addr) (c2 : Nat) (l2 : List Int) (w : World) (hr0 : Kd.C (Kd.int .u8) w A0 l0.length l0) (hc0 : l0.length ≤ c0) (_y0 : l0.length * 1 ≤ 140737488351232) (hw0 : ∀ n ∈ l0, (Lit.int .u8 n).wf = true) (hw1 : (Lit.int .i64 a1).wf = true)
    (hr2 : Kd.C (Kd.int .u8) w A2 l2.length l2) (hc2 : l2.length ≤ c2) (_y2 : l2.length * 1 ≤ 140737488351232) (hw2 : ∀ n ∈ l2, (Lit.int .u8 n).wf = true) :
    Calls Try.prog 3 #[.slice A0 l0.length c0, .int .i64 a1, .slice A2 l2.length c2] w fun e w' => e = .returned (.bool true) ∧ Below w.heap.size w w' := by
  have hb0 : isB l0 := fun x hx => Plain.wf_u8 (hw0 x hx)
  have hb2 : isB l2 := fun x hx => Plain.wf_u8 (hw2 x hx)
  have HAW := Aside0.mk (awake3_f 0)
  have HR0 := Aside0.mk hr0
  have HR2 := Aside0.mk hr2
  have HB := Aside0.mk (Below.refl w.heap.size w)
  clear hw0 hw2 hr0 hr2 _y0 _y2
  by_cases c1 : 2000 < l0.length
  · have d1 : decide (2000 < (l0.length : Int)) = true := decide_eq_true (by omega)
    clear hb0 hb2
    go_enter Try.func3, Try.ntmps3
    go_wp2_with (first | (go_at_call 10; refine (concordancelaw3_awake.calls _ _ _ HAW.out).mono ?_; rintro e w7 ⟨rfl, hb⟩; have n1_ := Aside0.mk (below_step HB.out hb); clear HB hb; have HB := n1_; clear n1_))
    go_ret
    exact ⟨rfl, HB.out⟩
  · have d1 : decide (2000 < (l0.length : Int)) = false := decide_eq_false (by omega)
    by_cases c2' : 3000 < l2.length
    · have d2 : decide (3000 < (l2.length : Int)) = true := decide_eq_true (by omega)
      clear hb0 hb2
      go_enter Try.func3, Try.ntmps3
      go_wp2_with (first | (go_at_call 10; refine (concordancelaw3_awake.calls _ _ _ HAW.out).mono ?_; rintro e w7 ⟨rfl, hb⟩; have n1_ := Aside0.mk (below_step HB.out hb); clear HB hb; have HB := n1_; clear n1_))
      go_ret
      exact ⟨rfl, HB.out⟩
    · have d2 : decide (3000 < (l2.length : Int)) = false := decide_eq_false (by omega)
      have hput := put_f (l := l0) (by omega) hb2 (by omega) a1 0
      unfold putF at hput
      have hokf := frameok_f 0 a1 (l2.length : Int)
      by_cases c3 : a1 < 1 ∨ 250 < a1
      · rw [if_pos c3] at hput hokf
        have HPUT := Aside0.mk hput
        have HOKF := Aside0.mk hokf
        clear hput hokf hb0 hb2
        go_enter Try.func3, Try.ntmps3
        go_wp2_with (first | (go_at_call 11; refine (frame_Put.calls 1 (fun _ => True) A0 c0 l0 _ A2 c2 l2 _ _ _ ⟨A0, c0, rfl, hc0, F_came HR0.out⟩ HR2.out hc2 HPUT.out).mono ?_; rintro e w2 ⟨v2, rfl, ho, hb⟩; obtain ⟨A3, c3, rfl⟩ := Kd.R_slice ho; have HO3 := Aside0.mk (Kd.R_reads' ho).2; clear ho; have n1_ := Aside0.mk (below_step HB.out hb); clear HB hb; have HB := n1_; clear n1_) | (go_at_call 12; refine (concordanceref1_FrameOk.calls _ _ _ _ _ HOKF.out).mono ?_; rintro e w3 ⟨rfl, ⟨nd, rfl⟩⟩; have n0_ := Aside0.mk (And.intro HO3.out.1 (Kd.C_drewN HO3.out.2 nd)); clear HO3; have HO3 := n0_; clear n0_; have n1_ := Aside0.mk (pw_below_drewN HB.out nd); clear HB; have HB := n1_; clear n1_) | (go_at_call 10; refine (concordancelaw3_awake.calls _ _ _ HAW.out).mono ?_; rintro e w7 ⟨rfl, hb⟩; have n1_ := Aside0.mk (below_step HB.out hb); clear HB hb; have HB := n1_; clear n1_))
        go_ret
        exact ⟨rfl, HB.out⟩
      · rw [if_neg c3] at hput hokf
        rw [if_neg (by omega)] at hput hokf
        have hrl := recL_length a1 l2
        have hrB := recL_isB (kind := a1) hb2
        have hfr := refframe_f hb2 (by omega) a1 0
        have ht := take_rec (l := l0) (r := []) (kind := a1) hb2 (by omega) (by omega) (by omega)
        rw [List.append_nil] at ht
        have hcat := strOfNums_append l0 (recL a1 l2)
        have hlen : (l0 ++ recL a1 l2).length = l0.length + 12 + l2.length := by rw [List.length_append, hrl]; omega
        obtain ⟨q, eq⟩ : ∃ q, recL a1 l2 = q := ⟨_, rfl⟩
        rw [eq] at hput hrl hrB ht hfr hcat hlen
        obtain ⟨r, er⟩ : ∃ r, l0 ++ q = r := ⟨_, rfl⟩
        rw [er] at hput ht hcat hlen
        have hBr : isB r := by rw [← er]; exact isB_append hb0 hrB
        have htk : takeO r (l0.length : Int) = some (a1, l2, (r.length : Int), 0) := by
          unfold takeO
          rw [if_pos ⟨hBr, by omega⟩, ht, hlen]
          simp
        have hsz : frame_Size.f (l2.length : Int) = some ((l2.length : Int) + 12) := by
          unfold frame_Size.f mx
          rw [if_neg (by omega), w64 (by omega) (by omega), Int.add_comm]
        have HPUT := Aside0.mk hput
        have HOKF := Aside0.mk hokf
        have HTK := Aside0.mk htk
        have HFR := Aside0.mk hfr
        have HSZ := Aside0.mk hsz
        have HQS := Aside0.mk (show q.length ≤ 4000 ∧ l0.length ≤ 2000 from ⟨by omega, by omega⟩)
        have hll : (l0.length : Int) ≤ 2000 := by omega
        have hl2 : (l2.length : Int) ≤ 3000 := by omega
        have hrr : (r.length : Int) ≤ 6000 := by omega
        have hrlen : wrap64 ((l0.length : Int) + ((l2.length : Int) + 12)) = (r.length : Int) := by rw [w64 (by omega) (by omega)]; omega
        have HCS := Aside0.mk (show ¬ 9223372036854775807 < (strOfNums l0).size + (strOfNums q).size by rw [strOfNums_size, strOfNums_size]; omega)
        clear hput hokf htk hfr hsz ht hrl hrB hb0 hb2 hlen hBr eq er
        go_enter Try.func3, Try.ntmps3
        go_wp2_with (first | (go_at_call 11; refine (frame_Put.calls 1 (fun _ => True) A0 c0 l0 _ A2 c2 l2 _ _ _ ⟨A0, c0, rfl, hc0, F_came HR0.out⟩ HR2.out hc2 HPUT.out).mono ?_; rintro e w2 ⟨v2, rfl, ho, hb⟩; obtain ⟨A3, c3, rfl⟩ := Kd.R_slice ho; have HO3 := Aside0.mk (Kd.R_reads' ho).2; clear ho; have n1_ := Aside0.mk (below_step HB.out hb); clear HB hb; have HB := n1_; clear n1_) | (go_at_call 12; refine (concordanceref1_FrameOk.calls _ _ _ _ _ HOKF.out).mono ?_; rintro e w3 ⟨rfl, ⟨nd, rfl⟩⟩; have n0_ := Aside0.mk (And.intro HO3.out.1 (Kd.C_drewN HO3.out.2 nd)); clear HO3; have HO3 := n0_; clear n0_; have n1_ := Aside0.mk (pw_below_drewN HB.out nd); clear HB; have HB := n1_; clear n1_) | (go_at_call 13; refine (take_calls _ _ r _ _ _ _ _ _ HO3.out.2 HO3.out.1 HTK.out).mono ?_; rintro e w5 ⟨v5, rfl, hv, hb⟩; obtain ⟨A5, c5, rfl, hle5, hF5⟩ := hv; have n0_ := Aside0.mk (And.intro HO3.out.1 (Kd.C_alloc (Kd.C_below HO3.out.2 hb) (.cells #[.int .i64 a1, .slice A5 l2.length c5] 29))); have HBD := Aside0.mk (Kd.C_alloc (Kd.F_now hF5) (.cells #[.int .i64 a1, .slice A5 l2.length c5] 29)); have HBX := Aside0.mk (blk_new w5 (.cells #[.int .i64 a1, .slice A5 l2.length c5] 29)); have n1_ := Aside0.mk (below_alloc (below_step HB.out hb) (.cells #[.int .i64 a1, .slice A5 l2.length c5] 29)); clear HO3 HB; have HO3 := n0_; have HB := n1_; clear n0_ n1_ hb hF5))
        refine start_ (n := 52) (S := fun w' => Below (w5.alloc (.cells #[.int .i64 a1, .slice A5 l2.length c5] 29)).heap.size (w5.alloc (.cells #[.int .i64 a1, .slice A5 l2.length c5] 29)) w') (ds := []) #[false, false, false, false, false, false, false, false, false, false, false, false, false, false, false, false, false, false, false, false, false, false, false, false, false, false, false, false, false, false, false, false, false, false, false, false, false, false, false, false, false, false, false, false, false, false, false, false, false, false, false, false] (by kernel_rfl) rfl rfl (below_drew1 (Below.refl _ _)) (fun hHeld => ?_)
        refine with_tabW puts.tab8 puts.bits8 (fun HT_ HW_ => ?_)
        refine pure_ (i := 0) (N := some 54) (v := ?_) (a' := ?_) #[true, false, false, false, false, false, false, false, false, false, false, false, false, false, false, false, false, false, false, false, false, false, false, false, false, false, false, false, false, false, false, false, false, false, false, false, false, false, false, false, false, false, false, false, false, false, false, false, false, false, false, false] rfl rfl (any_of HT_.out (by kernel_rfl)) (fun _ _ _ h => h) (Or.inl ⟨by rfl, ?_⟩) ?_ ?_
        rotate_left
        · intro w'
          go_simp
          with_reducible rfl
        rotate_left
        · simp only [Act.put, List.setIfInBounds_toArray, List.set_cons_zero, List.set_cons_succ, i64_w, i32_w]
          rfl
        refine pure_ (i := 1) (N := some 55) (v := ?_) (a' := ?_) #[true, true, false, false, false, false, false, false, false, false, false, false, false, false, false, false, false, false, false, false, false, false, false, false, false, false, false, false, false, false, false, false, false, false, false, false, false, false, false, false, false, false, false, false, false, false, false, false, false, false, false, false] rfl rfl (any_of HT_.out (by kernel_rfl)) (fun _ _ _ h => h) (Or.inl ⟨by rfl, ?_⟩) ?_ ?_
        rotate_left
        · intro w'
          go_simp
          with_reducible rfl
        rotate_left
        · simp only [Act.put, List.setIfInBounds_toArray, List.set_cons_zero, List.set_cons_succ, i64_w, i32_w]
          rfl
        refine pure_ (i := 2) (N := some 56) (v := ?_) (a' := ?_) #[true, true, true, false, false, false, false, false, false, false, false, false, false, false, false, false, false, false, false, false, false, false, false, false, false, false, false, false, false, false, false, false, false, false, false, false, false, false, false, false, false, false, false, false, false, false, false, false, false, false, false, false] rfl rfl (any_of HT_.out (by kernel_rfl)) (fun _ _ _ h => h) (Or.inl ⟨by rfl, ?_⟩) ?_ ?_
        rotate_left
        · intro w'
          go_simp
          with_reducible rfl
        rotate_left
        · simp only [Act.put, List.setIfInBounds_toArray, List.set_cons_zero, List.set_cons_succ, i64_w, i32_w]
          rfl
        refine pure_ (i := 3) (N := some 57) (v := ?_) (a' := ?_) #[true, true, true, true, false, false, false, false, false, false, false, false, false, false, false, false, false, false, false, false, false, false, false, false, false, false, false, false, false, false, false, false, false, false, false, false, false, false, false, false, false, false, false, false, false, false, false, false, false, false, false, false] rfl rfl (any_of HT_.out (by kernel_rfl)) (fun _ _ _ h => h) (Or.inl ⟨by rfl, ?_⟩) ?_ ?_
        rotate_left
        · intro w'
          go_simp
          with_reducible rfl
        rotate_left
        · simp only [Act.put, List.setIfInBounds_toArray, List.set_cons_zero, List.set_cons_succ, i64_w, i32_w]
          rfl
        refine take_ (i := 4) (N := some 58) (v := ?_) (a' := ?_) #[true, true, true, true, true, false, false, false, false, false, false, false, false, false, false, false, false, false, false, false, false, false, false, false, false, false, false, false, false, false, false, false, false, false, false, false, false, false, false, false, false, false, false, false, false, false, false, false, false, false, false, false] rfl rfl (take_ofW HT_.out HW_.out (by kernel_rfl)) (fun _ _ _ h => h) (Or.inl ⟨by rfl, ?_⟩) hHeld ?_ ?_
        rotate_left
        · intro w' hS
          have hcv := Kd.C_string (P := Try.prog) (A := A3) (c := c3) Try.underlying22 Try.underlying5 Try.underlying9 (Kd.C_below HO3.out.2 hS)
          go_simp
          with_reducible rfl
        rotate_left
        · simp only [Act.put, List.setIfInBounds_toArray, List.set_cons_zero, List.set_cons_succ, i64_w, i32_w]
          rfl
        refine pure_ (i := 5) (N := some 59) (v := ?_) (a' := ?_) #[true, true, true, true, true, true, false, false, false, false, false, false, false, false, false, false, false, false, false, false, false, false, false, false, false, false, false, false, false, false, false, false, false, false, false, false, false, false, false, false, false, false, false, false, false, false, false, false, false, false, false, false] rfl rfl (any_of HT_.out (by kernel_rfl)) (fun _ _ _ h => h) (Or.inl ⟨by rfl, ?_⟩) ?_ ?_
        rotate_left
        · intro w'
          go_simp
          with_reducible rfl
        rotate_left
        · simp only [Act.put, List.setIfInBounds_toArray, List.set_cons_zero, List.set_cons_succ, i64_w, i32_w]
          rfl
        refine take_ (i := 6) (N := some 60) (v := ?_) (a' := ?_) #[true, true, true, true, true, true, true, false, false, false, false, false, false, false, false, false, false, false, false, false, false, false, false, false, false, false, false, false, false, false, false, false, false, false, false, false, false, false, false, false, false, false, false, false, false, false, false, false, false, false, false, false] rfl rfl (take_ofW HT_.out HW_.out (by kernel_rfl)) (fun _ _ _ h => h) (Or.inl ⟨by rfl, ?_⟩) hHeld ?_ ?_
        rotate_left
        · intro w' hS
          have hcv := Kd.C_string (P := Try.prog) (A := A0) (c := c0) Try.underlying22 Try.underlying5 Try.underlying9 (Kd.C_below HR0.out (below_step HB.out hS))
          go_simp
          with_reducible rfl
        rotate_left
        · simp only [Act.put, List.setIfInBounds_toArray, List.set_cons_zero, List.set_cons_succ, i64_w, i32_w]
          rfl
        refine pure_ (i := 7) (N := some 61) (v := ?_) (a' := ?_) #[true, true, true, true, true, true, true, true, false, false, false, false, false, false, false, false, false, false, false, false, false, false, false, false, false, false, false, false, false, false, false, false, false, false, false, false, false, false, false, false, false, false, false, false, false, false, false, false, false, false, false, false] rfl rfl (any_of HT_.out (by kernel_rfl)) (fun _ _ _ h => h) (Or.inl ⟨by rfl, ?_⟩) ?_ ?_
        rotate_left
        · intro w'
          go_simp
          with_reducible rfl
        rotate_left
        · simp only [Act.put, List.setIfInBounds_toArray, List.set_cons_zero, List.set_cons_succ, i64_w, i32_w]
          rfl
        refine pure_ (i := 8) (N := some 62) (v := ?_) (a' := ?_) #[true, true, true, true, true, true, true, true, true, false, false, false, false, false, false, false, false, false, false, false, false, false, false, false, false, false, false, false, false, false, false, false, false, false, false, false, false, false, false, false, false, false, false, false, false, false, false, false, false, false, false, false] rfl rfl (any_of HT_.out (by kernel_rfl)) (fun _ _ _ h => h) (Or.inl ⟨by rfl, ?_⟩) ?_ ?_
        rotate_left
        · intro w'
          go_simp
          with_reducible rfl
        rotate_left
        · simp only [Act.put, List.setIfInBounds_toArray, List.set_cons_zero, List.set_cons_succ, i64_w, i32_w]
          rfl
        refine take_ (i := 9) (N := some 63) (v := ?_) (a' := ?_) #[true, true, true, true, true, true, true, true, true, true, false, false, false, false, false, false, false, false, false, false, false, false, false, false, false, false, false, false, false, false, false, false, false, false, false, false, false, false, false, false, false, false, false, false, false, false, false, false, false, false, false, false] rfl rfl (take_ofW HT_.out HW_.out (by kernel_rfl)) (fun _ _ _ h => h) (Or.inl ⟨by rfl, ?_⟩) hHeld ?_ ?_
        rotate_left
        · intro w' hS
          have hcv := Kd.C_string (P := Try.prog) (A := A2) (c := c2) Try.underlying22 Try.underlying5 Try.underlying9 (Kd.C_below HR2.out (below_step HB.out hS))
          go_simp
          with_reducible rfl
        rotate_left
        · simp only [Act.put, List.setIfInBounds_toArray, List.set_cons_zero, List.set_cons_succ, i64_w, i32_w]
          rfl
        refine one_ (i := 10) (N := some 64) #[true, true, true, true, true, true, true, true, true, true, true, false, false, false, false, false, false, false, false, false, false, false, false, false, false, false, false, false, false, false, false, false, false, false, false, false, false, false, false, false, false, false, false, false, false, false, false, false, false, false, false, false] rfl rfl (one_of HT_.out (by kernel_rfl)) (by decide) (fun K hK => ?_)
        refine goes_ Try.func14 (by kernel_rfl) rfl #[.int .i64 a1, .string (strOfNums l2)] (by rfl) rfl rfl (by (try simp only [List.map_toArray, List.map_cons, List.map_nil]); first | done | rfl) ?_
        with_reducible refine (concordanceref1_Frame.calls _ _ _ _ _ HFR.out).mono ?_
        rintro e w6 ⟨rfl, hb⟩
        refine ⟨_, rfl, ?_⟩
        have hS_ := below_step hHeld hb
        refine hK.out _ _ hS_ (fun hHeld => ?_)
        clear hK K
        refine norm_ (a' := ?_) ?_ ?_
        rotate_left
        · show Act.put _ (some 64) _ = _
          simp only [Act.put, List.setIfInBounds_toArray, List.set_cons_zero, List.set_cons_succ, i64_w, i32_w]
          rfl
        refine pure_ (i := 11) (N := some 65) (v := ?_) (a' := ?_) #[true, true, true, true, true, true, true, true, true, true, true, true, false, false, false, false, false, false, false, false, false, false, false, false, false, false, false, false, false, false, false, false, false, false, false, false, false, false, false, false, false, false, false, false, false, false, false, false, false, false, false, false] rfl rfl (any_of HT_.out (by kernel_rfl)) (fun _ _ _ h => h) (Or.inl ⟨by rfl, ?_⟩) ?_ ?_
        rotate_left
        · intro w'
          go_simp
          rw [if_neg HCS.out]
        rotate_left
        · simp only [Act.put, List.setIfInBounds_toArray, List.set_cons_zero, List.set_cons_succ, i64_w, i32_w]
          rfl
        refine pure_ (i := 12) (N := some 66) (v := ?_) (a' := ?_) #[true, true, true, true, true, true, true, true, true, true, true, true, true, false, false, false, false, false, false, false, false, false, false, false, false, false, false, false, false, false, false, false, false, false, false, false, false, false, false, false, false, false, false, false, false, false, false, false, false, false, false, false] rfl rfl (any_of HT_.out (by kernel_rfl)) (fun _ _ _ h => h) (Or.inl ⟨by rfl, ?_⟩) ?_ ?_
        rotate_left
        · intro w'
          go_simp
          with_reducible rfl
        rotate_left
        · simp only [Act.put, List.setIfInBounds_toArray, List.set_cons_zero, List.set_cons_succ, i64_w, i32_w]
          rfl
        refine pure_ (i := 13) (N := some 67) (v := ?_) (a' := ?_) #[true, true, true, true, true, true, true, true, true, true, true, true, true, true, false, false, false, false, false, false, false, false, false, false, false, false, false, false, false, false, false, false, false, false, false, false, false, false, false, false, false, false, false, false, false, false, false, false, false, false, false, false] rfl rfl (any_of HT_.out (by kernel_rfl)) (fun _ _ _ h => h) (Or.inl ⟨by rfl, ?_⟩) ?_ ?_
        rotate_left
        · intro w'
          go_simp
          with_reducible rfl
        rotate_left
        · simp only [Act.put, List.setIfInBounds_toArray, List.set_cons_zero, List.set_cons_succ, i64_w, i32_w]
          rfl
        refine pure_ (i := 14) (N := some 68) (v := ?_) (a' := ?_) #[true, true, true, true, true, true, true, true, true, true, true, true, true, true, true, false, false, false, false, false, false, false, false, false, false, false, false, false, false, false, false, false, false, false, false, false, false, false, false, false, false, false, false, false, false, false, false, false, false, false, false, false] rfl rfl (any_of HT_.out (by kernel_rfl)) (fun _ _ _ h => h) (Or.inl ⟨by rfl, ?_⟩) ?_ ?_
        rotate_left
        · intro w'
          go_simp
          with_reducible rfl
        rotate_left
        · simp only [Act.put, List.setIfInBounds_toArray, List.set_cons_zero, List.set_cons_succ, i64_w, i32_w]
          rfl
        refine pure_ (i := 15) (N := some 69) (v := ?_) (a' := ?_) #[true, true, true, true, true, true, true, true, true, true, true, true, true, true, true, true, false, false, false, false, false, false, false, false, false, false, false, false, false, false, false, false, false, false, false, false, false, false, false, false, false, false, false, false, false, false, false, false, false, false, false, false] rfl rfl (any_of HT_.out (by kernel_rfl)) (fun _ _ _ h => h) (Or.inl ⟨by rfl, ?_⟩) ?_ ?_
        rotate_left
        · intro w'
          go_simp
          with_reducible rfl
        rotate_left
        · simp only [Act.put, List.setIfInBounds_toArray, List.set_cons_zero, List.set_cons_succ, i64_w, i32_w]
          rfl
        refine pure_ (i := 16) (N := some 70) (v := ?_) (a' := ?_) #[true, true, true, true, true, true, true, true, true, true, true, true, true, true, true, true, true, false, false, false, false, false, false, false, false, false, false, false, false, false, false, false, false, false, false, false, false, false, false, false, false, false, false, false, false, false, false, false, false, false, false, false] rfl rfl (any_of HT_.out (by kernel_rfl)) (fun _ _ _ h => h) (Or.inl ⟨by rfl, ?_⟩) ?_ ?_
        rotate_left
        · intro w'
          go_simp
          with_reducible rfl
        rotate_left
        · simp only [Act.put, List.setIfInBounds_toArray, List.set_cons_zero, List.set_cons_succ, i64_w, i32_w]
          rfl
        refine pure_ (i := 17) (N := some 71) (v := ?_) (a' := ?_) #[true, true, true, true, true, true, true, true, true, true, true, true, true, true, true, true, true, true, false, false, false, false, false, false, false, false, false, false, false, false, false, false, false, false, false, false, false, false, false, false, false, false, false, false, false, false, false, false, false, false, false, false] rfl rfl (any_of HT_.out (by kernel_rfl)) (fun _ _ _ h => h) (Or.inl ⟨by rfl, ?_⟩) ?_ ?_
        rotate_left
        · intro w'
          go_simp
          with_reducible rfl
        rotate_left
        · simp only [Act.put, List.setIfInBounds_toArray, List.set_cons_zero, List.set_cons_succ, i64_w, i32_w]
          rfl
        refine pure_ (i := 18) (N := some 72) (v := ?_) (a' := ?_) #[true, true, true, true, true, true, true, true, true, true, true, true, true, true, true, true, true, true, true, false, false, false, false, false, false, false, false, false, false, false, false, false, false, false, false, false, false, false, false, false, false, false, false, false, false, false, false, false, false, false, false, false] rfl rfl (any_of HT_.out (by kernel_rfl)) (fun _ _ _ h => h) (Or.inl ⟨by rfl, ?_⟩) ?_ ?_
        rotate_left
        · intro w'
          go_simp
          with_reducible rfl
        rotate_left
        · simp only [Act.put, List.setIfInBounds_toArray, List.set_cons_zero, List.set_cons_succ, i64_w, i32_w]
          rfl
        refine pure_ (i := 19) (N := some 73) (v := ?_) (a' := ?_) #[true, true, true, true, true, true, true, true, true, true, true, true, true, true, true, true, true, true, true, true, false, false, false, false, false, false, false, false, false, false, false, false, false, false, false, false, false, false, false, false, false, false, false, false, false, false, false, false, false, false, false, false] rfl rfl (any_of HT_.out (by kernel_rfl)) (fun _ _ _ h => h) (Or.inl ⟨by rfl, ?_⟩) ?_ ?_
        rotate_left
        · intro w'
          go_simp
          with_reducible rfl
        rotate_left
        · simp only [Act.put, List.setIfInBounds_toArray, List.set_cons_zero, List.set_cons_succ, i64_w, i32_w]
          rfl
        refine pure_ (i := 20) (N := some 74) (v := ?_) (a' := ?_) #[true, true, true, true, true, true, true, true, true, true, true, true, true, true, true, true, true, true, true, true, true, false, false, false, false, false, false, false, false, false, false, false, false, false, false, false, false, false, false, false, false, false, false, false, false, false, false, false, false, false, false, false] rfl rfl (any_of HT_.out (by kernel_rfl)) (fun _ _ _ h => h) (Or.inl ⟨by rfl, ?_⟩) ?_ ?_
        rotate_left
        · intro w'
          go_simp
          with_reducible rfl
        rotate_left
        · simp only [Act.put, List.setIfInBounds_toArray, List.set_cons_zero, List.set_cons_succ, i64_w, i32_w]
          rfl
        refine pure_ (i := 21) (N := some 75) (v := ?_) (a' := ?_) #[true, true, true, true, true, true, true, true, true, true, true, true, true, true, true, true, true, true, true, true, true, true, false, false, false, false, false, false, false, false, false, false, false, false, false, false, false, false, false, false, false, false, false, false, false, false, false, false, false, false, false, false] rfl rfl (any_of HT_.out (by kernel_rfl)) (fun _ _ _ h => h) (Or.inl ⟨by rfl, ?_⟩) ?_ ?_
        rotate_left
        · intro w'
          go_simp
          with_reducible rfl
        rotate_left
        · simp only [Act.put, List.setIfInBounds_toArray, List.set_cons_zero, List.set_cons_succ, i64_w, i32_w]
          rfl
        refine pure_ (i := 22) (N := some 76) (v := ?_) (a' := ?_) #[true, true, true, true, true, true, true, true, true, true, true, true, true, true, true, true, true, true, true, true, true, true, true, false, false, false, false, false, false, false, false, false, false, false, false, false, false, false, false, false, false, false, false, false, false, false, false, false, false, false, false, false] rfl rfl (any_of HT_.out (by kernel_rfl)) (fun _ _ _ h => h) (Or.inl ⟨by rfl, ?_⟩) ?_ ?_
        rotate_left
        · intro w'
          go_simp
          with_reducible rfl
        rotate_left
        · simp only [Act.put, List.setIfInBounds_toArray, List.set_cons_zero, List.set_cons_succ, i64_w, i32_w]
          rfl
        refine pure_ (i := 23) (N := some 77) (v := ?_) (a' := ?_) #[true, true, true, true, true, true, true, true, true, true, true, true, true, true, true, true, true, true, true, true, true, true, true, true, false, false, false, false, false, false, false, false, false, false, false, false, false, false, false, false, false, false, false, false, false, false, false, false, false, false, false, false] rfl rfl (any_of HT_.out (by kernel_rfl)) (fun _ _ _ h => h) (Or.inl ⟨by rfl, ?_⟩) ?_ ?_
        rotate_left
        · intro w'
          go_simp
          with_reducible rfl
        rotate_left
        · simp only [Act.put, List.setIfInBounds_toArray, List.set_cons_zero, List.set_cons_succ, i64_w, i32_w]
          rfl
        refine pure_ (i := 24) (N := some 78) (v := ?_) (a' := ?_) #[true, true, true, true, true, true, true, true, true, true, true, true, true, true, true, true, true, true, true, true, true, true, true, true, true, false, false, false, false, false, false, false, false, false, false, false, false, false, false, false, false, false, false, false, false, false, false, false, false, false, false, false] rfl rfl (any_of HT_.out (by kernel_rfl)) (fun _ _ _ h => h) (Or.inl ⟨by rfl, ?_⟩) ?_ ?_
        rotate_left
        · intro w'
          go_simp
          with_reducible rfl
        rotate_left
        · simp only [Act.put, List.setIfInBounds_toArray, List.set_cons_zero, List.set_cons_succ, i64_w, i32_w]
          rfl
        refine pure_ (i := 25) (N := some 79) (v := ?_) (a' := ?_) #[true, true, true, true, true, true, true, true, true, true, true, true, true, true, true, true, true, true, true, true, true, true, true, true, true, true, false, false, false, false, false, false, false, false, false, false, false, false, false, false, false, false, false, false, false, false, false, false, false, false, false, false] rfl rfl (any_of HT_.out (by kernel_rfl)) (fun _ _ _ h => h) (Or.inl ⟨by rfl, ?_⟩) ?_ ?_
        rotate_left
        · intro w'
          go_simp
          with_reducible rfl
        rotate_left
        · simp only [Act.put, List.setIfInBounds_toArray, List.set_cons_zero, List.set_cons_succ, i64_w, i32_w]
          rfl
        refine take_ (i := 26) (N := some 80) (v := ?_) (a' := ?_) #[true, true, true, true, true, true, true, true, true, true, true, true, true, true, true, true, true, true, true, true, true, true, true, true, true, true, true, false, false, false, false, false, false, false, false, false, false, false, false, false, false, false, false, false, false, false, false, false, false, false, false, false] rfl rfl (take_ofW HT_.out HW_.out (by kernel_rfl)) (fun _ _ _ h => h) (Or.inl ⟨by rfl, ?_⟩) hHeld ?_ ?_
        rotate_left
        · intro w' hS
          have hbk := blk_below HBX.out hS
          have hx0 := blk_cell hbk 0
          have hx1 := blk_cell hbk 1
          go_simp
          with_reducible rfl
        rotate_left
        · simp only [Act.put, List.setIfInBounds_toArray, List.set_cons_zero, List.set_cons_succ, i64_w, i32_w]
          rfl
        refine pure_ (i := 27) (N := some 81) (v := ?_) (a' := ?_) #[true, true, true, true, true, true, true, true, true, true, true, true, true, true, true, true, true, true, true, true, true, true, true, true, true, true, true, true, false, false, false, false, false, false, false, false, false, false, false, false, false, false, false, false, false, false, false, false, false, false, false, false] rfl rfl (any_of HT_.out (by kernel_rfl)) (fun _ _ _ h => h) (Or.inl ⟨by rfl, ?_⟩) ?_ ?_
        rotate_left
        · intro w'
          go_simp
          with_reducible rfl
        rotate_left
        · simp only [Act.put, List.setIfInBounds_toArray, List.set_cons_zero, List.set_cons_succ, i64_w, i32_w]
          rfl
        refine pure_ (i := 28) (N := some 82) (v := ?_) (a' := ?_) #[true, true, true, true, true, true, true, true, true, true, true, true, true, true, true, true, true, true, true, true, true, true, true, true, true, true, true, true, true, false, false, false, false, false, false, false, false, false, false, false, false, false, false, false, false, false, false, false, false, false, false, false] rfl rfl (any_of HT_.out (by kernel_rfl)) (fun _ _ _ h => h) (Or.inl ⟨by rfl, ?_⟩) ?_ ?_
        rotate_left
        · intro w'
          go_simp
          with_reducible rfl
        rotate_left
        · simp only [Act.put, List.setIfInBounds_toArray, List.set_cons_zero, List.set_cons_succ, i64_w, i32_w]
          rfl
        refine pure_ (i := 29) (N := some 83) (v := ?_) (a' := ?_) #[true, true, true, true, true, true, true, true, true, true, true, true, true, true, true, true, true, true, true, true, true, true, true, true, true, true, true, true, true, true, false, false, false, false, false, false, false, false, false, false, false, false, false, false, false, false, false, false, false, false, false, false] rfl rfl (any_of HT_.out (by kernel_rfl)) (fun _ _ _ h => h) (Or.inl ⟨by rfl, ?_⟩) ?_ ?_
        rotate_left
        · intro w'
          go_simp
          with_reducible rfl
        rotate_left
        · simp only [Act.put, List.setIfInBounds_toArray, List.set_cons_zero, List.set_cons_succ, i64_w, i32_w]
          rfl
        refine pure_ (i := 30) (N := some 84) (v := ?_) (a' := ?_) #[true, true, true, true, true, true, true, true, true, true, true, true, true, true, true, true, true, true, true, true, true, true, true, true, true, true, true, true, true, true, true, false, false, false, false, false, false, false, false, false, false, false, false, false, false, false, false, false, false, false, false, false] rfl rfl (any_of HT_.out (by kernel_rfl)) (fun _ _ _ h => h) (Or.inl ⟨by rfl, ?_⟩) ?_ ?_
        rotate_left
        · intro w'
          go_simp
          with_reducible rfl
        rotate_left
        · simp only [Act.put, List.setIfInBounds_toArray, List.set_cons_zero, List.set_cons_succ, i64_w, i32_w]
          rfl
        refine pure_ (i := 31) (N := some 85) (v := ?_) (a' := ?_) #[true, true, true, true, true, true, true, true, true, true, true, true, true, true, true, true, true, true, true, true, true, true, true, true, true, true, true, true, true, true, true, true, false, false, false, false, false, false, false, false, false, false, false, false, false, false, false, false, false, false, false, false] rfl rfl (any_of HT_.out (by kernel_rfl)) (fun _ _ _ h => h) (Or.inl ⟨by rfl, ?_⟩) ?_ ?_
        rotate_left
        · intro w'
          go_simp
          with_reducible rfl
        rotate_left
        · simp only [Act.put, List.setIfInBounds_toArray, List.set_cons_zero, List.set_cons_succ, i64_w, i32_w]
          rfl
        refine take_ (i := 32) (N := some 86) (v := ?_) (a' := ?_) #[true, true, true, true, true, true, true, true, true, true, true, true, true, true, true, true, true, true, true, true, true, true, true, true, true, true, true, true, true, true, true, true, true, false, false, false, false, false, false, false, false, false, false, false, false, false, false, false, false, false, false, false] rfl rfl (take_ofW HT_.out HW_.out (by kernel_rfl)) (fun _ _ _ h => h) (Or.inl ⟨by rfl, ?_⟩) hHeld ?_ ?_
        rotate_left
        · intro w' hS
          have hbk := blk_below HBX.out hS
          have hx0 := blk_cell hbk 0
          have hx1 := blk_cell hbk 1
          go_simp
          with_reducible rfl
        rotate_left
        · simp only [Act.put, List.setIfInBounds_toArray, List.set_cons_zero, List.set_cons_succ, i64_w, i32_w]
          rfl
        refine take_ (i := 33) (N := some 87) (v := ?_) (a' := ?_) #[true, true, true, true, true, true, true, true, true, true, true, true, true, true, true, true, true, true, true, true, true, true, true, true, true, true, true, true, true, true, true, true, true, true, false, false, false, false, false, false, false, false, false, false, false, false, false, false, false, false, false, false] rfl rfl (take_ofW HT_.out HW_.out (by kernel_rfl)) (fun _ _ _ h => h) (Or.inl ⟨by rfl, ?_⟩) hHeld ?_ ?_
        rotate_left
        · intro w' hS
          have hcv := Kd.C_string (P := Try.prog) (A := A5) (c := c5) Try.underlying22 Try.underlying5 Try.underlying9 (Kd.C_below HBD.out hS)
          go_simp
          with_reducible rfl
        rotate_left
        · simp only [Act.put, List.setIfInBounds_toArray, List.set_cons_zero, List.set_cons_succ, i64_w, i32_w]
          rfl
        refine pure_ (i := 34) (N := some 88) (v := ?_) (a' := ?_) #[true, true, true, true, true, true, true, true, true, true, true, true, true, true, true, true, true, true, true, true, true, true, true, true, true, true, true, true, true, true, true, true, true, true, true, false, false, false, false, false, false, false, false, false, false, false, false, false, false, false, false, false] rfl rfl (any_of HT_.out (by kernel_rfl)) (fun _ _ _ h => h) (Or.inl ⟨by rfl, ?_⟩) ?_ ?_
        rotate_left
        · intro w'
          go_simp
          with_reducible rfl
        rotate_left
        · simp only [Act.put, List.setIfInBounds_toArray, List.set_cons_zero, List.set_cons_succ, i64_w, i32_w]
          rfl
        refine take_ (i := 35) (N := some 89) (v := ?_) (a' := ?_) #[true, true, true, true, true, true, true, true, true, true, true, true, true, true, true, true, true, true, true, true, true, true, true, true, true, true, true, true, true, true, true, true, true, true, true, true, false, false, false, false, false, false, false, false, false, false, false, false, false, false, false, false] rfl rfl (take_ofW HT_.out HW_.out (by kernel_rfl)) (fun _ _ _ h => h) (Or.inl ⟨by rfl, ?_⟩) hHeld ?_ ?_
        rotate_left
        · intro w' hS
          have hcv := Kd.C_string (P := Try.prog) (A := A2) (c := c2) Try.underlying22 Try.underlying5 Try.underlying9 (Kd.C_below HR2.out (below_step HB.out hS))
          go_simp
          with_reducible rfl
        rotate_left
        · simp only [Act.put, List.setIfInBounds_toArray, List.set_cons_zero, List.set_cons_succ, i64_w, i32_w]
          rfl
        refine pure_ (i := 36) (N := some 90) (v := ?_) (a' := ?_) #[true, true, true, true, true, true, true, true, true, true, true, true, true, true, true, true, true, true, true, true, true, true, true, true, true, true, true, true, true, true, true, true, true, true, true, true, true, false, false, false, false, false, false, false, false, false, false, false, false, false, false, false] rfl rfl (any_of HT_.out (by kernel_rfl)) (fun _ _ _ h => h) (Or.inl ⟨by rfl, ?_⟩) ?_ ?_
        rotate_left
        · intro w'
          go_simp
          with_reducible rfl
        rotate_left
        · simp only [Act.put, List.setIfInBounds_toArray, List.set_cons_zero, List.set_cons_succ, i64_w, i32_w]
          rfl
        refine pure_ (i := 37) (N := some 91) (v := ?_) (a' := ?_) #[true, true, true, true, true, true, true, true, true, true, true, true, true, true, true, true, true, true, true, true, true, true, true, true, true, true, true, true, true, true, true, true, true, true, true, true, true, true, false, false, false, false, false, false, false, false, false, false, false, false, false, false] rfl rfl (any_of HT_.out (by kernel_rfl)) (fun _ _ _ h => h) (Or.inl ⟨by rfl, ?_⟩) ?_ ?_
        rotate_left
        · intro w'
          go_simp
          with_reducible rfl
        rotate_left
        · simp only [Act.put, List.setIfInBounds_toArray, List.set_cons_zero, List.set_cons_succ, i64_w, i32_w]
          rfl
        refine pure_ (i := 38) (N := some 92) (v := ?_) (a' := ?_) #[true, true, true, true, true, true, true, true, true, true, true, true, true, true, true, true, true, true, true, true, true, true, true, true, true, true, true, true, true, true, true, true, true, true, true, true, true, true, true, false, false, false, false, false, false, false, false, false, false, false, false, false] rfl rfl (any_of HT_.out (by kernel_rfl)) (fun _ _ _ h => h) (Or.inl ⟨by rfl, ?_⟩) ?_ ?_
        rotate_left
        · intro w'
          go_simp
          with_reducible rfl
        rotate_left
        · simp only [Act.put, List.setIfInBounds_toArray, List.set_cons_zero, List.set_cons_succ, i64_w, i32_w]
          rfl
        refine pure_ (i := 39) (N := some 93) (v := ?_) (a' := ?_) #[true, true, true, true, true, true, true, true, true, true, true, true, true, true, true, true, true, true, true, true, true, true, true, true, true, true, true, true, true, true, true, true, true, true, true, true, true, true, true, true, false, false, false, false, false, false, false, false, false, false, false, false] rfl rfl (any_of HT_.out (by kernel_rfl)) (fun _ _ _ h => h) (Or.inl ⟨by rfl, ?_⟩) ?_ ?_
        rotate_left
        · intro w'
          go_simp
          with_reducible rfl
        rotate_left
        · simp only [Act.put, List.setIfInBounds_toArray, List.set_cons_zero, List.set_cons_succ, i64_w, i32_w]
          rfl
        refine pure_ (i := 40) (N := some 94) (v := ?_) (a' := ?_) #[true, true, true, true, true, true, true, true, true, true, true, true, true, true, true, true, true, true, true, true, true, true, true, true, true, true, true, true, true, true, true, true, true, true, true, true, true, true, true, true, true, false, false, false, false, false, false, false, false, false, false, false] rfl rfl (any_of HT_.out (by kernel_rfl)) (fun _ _ _ h => h) (Or.inl ⟨by rfl, ?_⟩) ?_ ?_
        rotate_left
        · intro w'
          go_simp
          with_reducible rfl
        rotate_left
        · simp only [Act.put, List.setIfInBounds_toArray, List.set_cons_zero, List.set_cons_succ, i64_w, i32_w]
          rfl
        refine pure_ (i := 41) (N := some 95) (v := ?_) (a' := ?_) #[true, true, true, true, true, true, true, true, true, true, true, true, true, true, true, true, true, true, true, true, true, true, true, true, true, true, true, true, true, true, true, true, true, true, true, true, true, true, true, true, true, true, false, false, false, false, false, false, false, false, false, false] rfl rfl (any_of HT_.out (by kernel_rfl)) (fun _ _ _ h => h) (Or.inl ⟨by rfl, ?_⟩) ?_ ?_
        rotate_left
        · intro w'
          go_simp
          with_reducible rfl
        rotate_left
        · simp only [Act.put, List.setIfInBounds_toArray, List.set_cons_zero, List.set_cons_succ, i64_w, i32_w]
          rfl
        refine pure_ (i := 42) (N := some 96) (v := ?_) (a' := ?_) #[true, true, true, true, true, true, true, true, true, true, true, true, true, true, true, true, true, true, true, true, true, true, true, true, true, true, true, true, true, true, true, true, true, true, true, true, true, true, true, true, true, true, true, false, false, false, false, false, false, false, false, false] rfl rfl (any_of HT_.out (by kernel_rfl)) (fun _ _ _ h => h) (Or.inl ⟨by rfl, ?_⟩) ?_ ?_
        rotate_left
        · intro w'
          go_simp
          with_reducible rfl
        rotate_left
        · simp only [Act.put, List.setIfInBounds_toArray, List.set_cons_zero, List.set_cons_succ, i64_w, i32_w]
          rfl
        refine pure_ (i := 43) (N := some 97) (v := ?_) (a' := ?_) #[true, true, true, true, true, true, true, true, true, true, true, true, true, true, true, true, true, true, true, true, true, true, true, true, true, true, true, true, true, true, true, true, true, true, true, true, true, true, true, true, true, true, true, true, false, false, false, false, false, false, false, false] rfl rfl (any_of HT_.out (by kernel_rfl)) (fun _ _ _ h => h) (Or.inl ⟨by rfl, ?_⟩) ?_ ?_
        rotate_left
        · intro w'
          go_simp
          with_reducible rfl
        rotate_left
        · simp only [Act.put, List.setIfInBounds_toArray, List.set_cons_zero, List.set_cons_succ, i64_w, i32_w]
          rfl
        refine one_ (i := 44) (N := some 98) #[true, true, true, true, true, true, true, true, true, true, true, true, true, true, true, true, true, true, true, true, true, true, true, true, true, true, true, true, true, true, true, true, true, true, true, true, true, true, true, true, true, true, true, true, true, false, false, false, false, false, false, false] rfl rfl (one_of HT_.out (by kernel_rfl)) (by decide) (fun K hK => ?_)
        refine goes_ Try.func15 (by kernel_rfl) rfl #[.int .i64 (l2.length : Int)] (by rfl) rfl rfl (by (try simp only [List.map_toArray, List.map_cons, List.map_nil]); first | done | rfl) ?_
        with_reducible refine (frame_Size.calls _ _ _ HSZ.out).mono ?_
        rintro e w8 ⟨rfl, hb⟩
        refine ⟨_, rfl, ?_⟩
        have hS_ := below_step hHeld hb
        refine hK.out _ _ hS_ (fun hHeld => ?_)
        clear hK K
        refine norm_ (a' := ?_) ?_ ?_
        rotate_left
        · show Act.put _ (some 98) _ = _
          simp only [Act.put, List.setIfInBounds_toArray, List.set_cons_zero, List.set_cons_succ, i64_w, i32_w]
          rfl
        refine pure_ (i := 45) (N := some 99) (v := ?_) (a' := ?_) #[true, true, true, true, true, true, true, true, true, true, true, true, true, true, true, true, true, true, true, true, true, true, true, true, true, true, true, true, true, true, true, true, true, true, true, true, true, true, true, true, true, true, true, true, true, true, false, false, false, false, false, false] rfl rfl (any_of HT_.out (by kernel_rfl)) (fun _ _ _ h => h) (Or.inl ⟨by rfl, ?_⟩) ?_ ?_
        rotate_left
        · intro w'
          go_simp
          with_reducible rfl
        rotate_left
        · simp only [Act.put, List.setIfInBounds_toArray, List.set_cons_zero, List.set_cons_succ, i64_w, i32_w]
          rfl
        refine pure_ (i := 46) (N := some 100) (v := ?_) (a' := ?_) #[true, true, true, true, true, true, true, true, true, true, true, true, true, true, true, true, true, true, true, true, true, true, true, true, true, true, true, true, true, true, true, true, true, true, true, true, true, true, true, true, true, true, true, true, true, true, true, false, false, false, false, false] rfl rfl (any_of HT_.out (by kernel_rfl)) (fun _ _ _ h => h) (Or.inl ⟨by rfl, ?_⟩) ?_ ?_
        rotate_left
        · intro w'
          go_simp
          with_reducible rfl
        rotate_left
        · simp only [Act.put, List.setIfInBounds_toArray, List.set_cons_zero, List.set_cons_succ, i64_w, i32_w]
          rfl
        refine pure_ (i := 47) (N := some 101) (v := ?_) (a' := ?_) #[true, true, true, true, true, true, true, true, true, true, true, true, true, true, true, true, true, true, true, true, true, true, true, true, true, true, true, true, true, true, true, true, true, true, true, true, true, true, true, true, true, true, true, true, true, true, true, true, false, false, false, false] rfl rfl (any_of HT_.out (by kernel_rfl)) (fun _ _ _ h => h) (Or.inl ⟨by rfl, ?_⟩) ?_ ?_
        rotate_left
        · intro w'
          go_simp
          with_reducible rfl
        rotate_left
        · simp only [Act.put, List.setIfInBounds_toArray, List.set_cons_zero, List.set_cons_succ, i64_w, i32_w]
          rfl
        refine pure_ (i := 48) (N := some 102) (v := ?_) (a' := ?_) #[true, true, true, true, true, true, true, true, true, true, true, true, true, true, true, true, true, true, true, true, true, true, true, true, true, true, true, true, true, true, true, true, true, true, true, true, true, true, true, true, true, true, true, true, true, true, true, true, true, false, false, false] rfl rfl (any_of HT_.out (by kernel_rfl)) (fun _ _ _ h => h) (Or.inl ⟨by rfl, ?_⟩) ?_ ?_
        rotate_left
        · intro w'
          go_simp
          with_reducible rfl
        rotate_left
        · simp only [Act.put, List.setIfInBounds_toArray, List.set_cons_zero, List.set_cons_succ, i64_w, i32_w]
          rfl
        refine one_ (i := 49) (N := some 103) #[true, true, true, true, true, true, true, true, true, true, true, true, true, true, true, true, true, true, true, true, true, true, true, true, true, true, true, true, true, true, true, true, true, true, true, true, true, true, true, true, true, true, true, true, true, true, true, true, true, true, false, false] rfl rfl (one_of HT_.out (by kernel_rfl)) (by decide) (fun K hK => ?_)
        refine goes_ Try.func10 (by kernel_rfl) rfl #[] (by rfl) rfl rfl (by (try simp only [List.map_toArray, List.map_cons, List.map_nil]); first | done | rfl) ?_
        with_reducible refine (concordancelaw3_awake.calls _ _ _ HAW.out).mono ?_
        rintro e w9 ⟨rfl, hb⟩
        refine ⟨_, rfl, ?_⟩
        have hS_ := below_step hHeld hb
        refine hK.out _ _ hS_ (fun hHeld => ?_)
        clear hK K
        refine norm_ (a' := ?_) ?_ ?_
        rotate_left
        · show Act.put _ (some 103) _ = _
          simp only [Act.put, List.setIfInBounds_toArray, List.set_cons_zero, List.set_cons_succ, i64_w, i32_w]
          rfl
        refine pure_ (i := 50) (N := some 104) (v := ?_) (a' := ?_) #[true, true, true, true, true, true, true, true, true, true, true, true, true, true, true, true, true, true, true, true, true, true, true, true, true, true, true, true, true, true, true, true, true, true, true, true, true, true, true, true, true, true, true, true, true, true, true, true, true, true, true, false] rfl rfl (any_of HT_.out (by kernel_rfl)) (fun _ _ _ h => h) (Or.inl ⟨by rfl, ?_⟩) ?_ ?_
        rotate_left
        · intro w'
          go_simp
          with_reducible rfl
        rotate_left
        · simp only [Act.put, List.setIfInBounds_toArray, List.set_cons_zero, List.set_cons_succ, i64_w, i32_w]
          rfl
        refine pure_ (i := 51) (N := some 6) (v := ?_) (a' := ?_) #[true, true, true, true, true, true, true, true, true, true, true, true, true, true, true, true, true, true, true, true, true, true, true, true, true, true, true, true, true, true, true, true, true, true, true, true, true, true, true, true, true, true, true, true, true, true, true, true, true, true, true, true] rfl rfl (any_of HT_.out (by kernel_rfl)) (fun _ _ _ h => h) (Or.inl ⟨by rfl, ?_⟩) ?_ ?_
        rotate_left
        · intro w'
          go_simp
          with_reducible rfl
        rotate_left
        · simp only [Act.put, List.setIfInBounds_toArray, List.set_cons_zero, List.set_cons_succ, i64_w, i32_w]
          rfl
        refine done_ (done_of HT_.out (by kernel_rfl)) ?_
        go_wp2
        go_ret
        exact ⟨rfl, below_step HB.out hHeld⟩
end Go.Proofs.Ytcnapbpljghfoaa.Hand

/- FrameAll in plain words: what is told of any row, against the document's own reading, and of records that were put into it. -/
namespace Go.Proofs.Ytcnapbpljghfoaa.Plain
open Go.RowKit Go.Proofs.YtcnapbpljghfoaaW.PrintWords Go.Proofs.Ytcnapbpljghfoaa.PCrc
open Go.Proofs.Ytcnapbpljghfoaa.Hand (tailL endW endT fend ftold)
set_option linter.unusedVariables false
set_option linter.unusedSimpArgs false
/-- A record that is taken is taken also where more follows. -/
theorem takeF_ext {l r : List Int} {a x n : Int} {b : List Int} (h : takeF l a = (x, b, n, 0)) : takeF (l ++ r) a = (x, b, n, 0) := by
  unfold takeF at h
  by_cases h1 : a < 0 ∨ (l.length : Int) < a
  · rw [if_pos h1] at h
    simp at h
  rw [if_neg h1] at h
  obtain ⟨m, rfl⟩ := Int.eq_ofNat_of_zero_le (show 0 ≤ a by omega)
  rw [Int.toNat_natCast] at h
  have hd : (l ++ r).drop m = l.drop m ++ r := List.drop_append_of_le_length (by omega)
  by_cases h2 : (l.drop m).length < 8
  · rw [if_pos h2] at h
    simp at h
  rw [if_neg h2] at h
  by_cases h3 : (openL ((l.drop m).take 8)).2 = 0
  · rw [if_pos h3] at h
    unfold takeF
    rw [if_neg (by rw [List.length_append]; omega), Int.toNat_natCast, hd, if_neg (by rw [List.length_append]; omega), List.take_append_of_le_length (by omega), if_pos h3]
    generalize (openL ((l.drop m).take 8)).1 = H at h ⊢
    generalize l.drop m = d at h h2 ⊢
    unfold recB at h ⊢
    split at h
    · simp at h
    · rename_i h4
      rw [if_neg h4]
      split at h
      · simp at h
      · rename_i h5
        rw [if_neg (by rw [List.length_append]; omega), List.take_append_of_le_length (by omega)]
        exact h
  · rw [if_neg h3] at h
    injection h with _ h
    injection h with _ h
    injection h with _ h
    exact absurd h h3
/-- What stands among the records was taken where it stands. -/
theorem fitemsF_mem (k : Nat) : ∀ (a : Int) (l : List Int) (z : Int × Int × List Int), z ∈ fitemsF k a l → ∃ n, takeF l z.1 = (z.2.1, z.2.2, n, 0) := by
  induction k with
  | zero => intro a l z h; cases h
  | succ k ih =>
    intro a l z h
    rw [fitemsF] at h
    split at h
    · split at h
      · rename_i _ h0
        rcases List.mem_cons.1 h with rfl | h
        · refine ⟨(takeF l a).2.2.1, ?_⟩
          dsimp only
          rw [← h0]
        · exact ih _ l z h
      · cases h
    · cases h
/-- How far the document's reading has come: these records, the next place. -/
def Stand (l : List Int) (pre : List (Int × Int × List Int)) (a : Int) : Prop := (∃ k, fitems l = pre ++ fitemsF k a l ∧ (l.length : Int) - a < k) ∧ endT pre = a ∧ 0 ≤ a ∧ a ≤ l.length
theorem Stand.zero (l : List Int) : Stand l [] 0 := ⟨⟨l.length + 1, rfl, by omega⟩, rfl, by omega, by omega⟩
theorem Stand.step {l : List Int} (hb : isB l) (hl : l.length ≤ 1000000) {pre : List (Int × Int × List Int)} {a x n : Int} {b : List Int} (h : Stand l pre a) (hlt : a < l.length) (ht : takeF l a = (x, b, n, 0)) : Stand l (pre ++ [(a, x, b)]) n := by
  obtain ⟨⟨k, hf, hk⟩, he, h0, h1⟩ := h
  obtain ⟨_, hn, hnl, _⟩ := takeF_next hb ht
  obtain ⟨k, rfl⟩ : ∃ q, k = q + 1 := ⟨k - 1, by omega⟩
  refine ⟨⟨k, ?_, by omega⟩, ?_, by omega, hnl⟩
  · rw [hf, fitemsF_step k a l hlt ht, List.append_assoc]
    rfl
  · unfold endT
    rw [List.getLast?_append]
    simp only [List.getLast?_singleton, Option.some_or, Option.elim]
    rw [endW_of h0 (by omega) (by omega), hn]
/-- Where it stops. -/
theorem Stand.done {l : List Int} {pre : List (Int × Int × List Int)} {a : Int} (h : Stand l pre a) (hs : (¬ a < l.length) ∨ (takeF l a).2.2.2 ≠ 0) : fitems l = pre ∧ fend l = (a, if a < l.length then (takeF l a).2.2.2 else 0) := by
  obtain ⟨⟨k, hf, hk⟩, he, h0, h1⟩ := h
  have hfit : fitems l = pre := by
    rcases hs with hs | hs
    · rw [hf, fitemsF_nil _ _ _ hs, List.append_nil]
    · rw [hf, fitemsF_stop (x := (takeF l a).1) (b := (takeF l a).2.1) (n := (takeF l a).2.2.1) (e := (takeF l a).2.2.2) _ _ _ rfl hs, List.append_nil]
  refine ⟨hfit, ?_⟩
  unfold fend
  rw [hfit, he]
  by_cases hq : a = l.length
  · rw [if_pos hq, if_neg (by omega)]
  · rw [if_neg hq, if_pos (by omega)]
theorem Stand.room {l : List Int} {pre : List (Int × Int × List Int)} {a : Int} (h : Stand l pre a) : pre.length ≤ l.length + 1 := by
  obtain ⟨⟨k, hf, _⟩, _⟩ := h
  have h1 := congrArg List.length hf
  have h2 := fitemsF_length (l.length + 1) 0 l
  unfold fitems at h1
  rw [List.length_append] at h1
  omega
/-- A record told at a place where one was put is that one, wherever the row was cut. -/
theorem put_told {bs : List (Int × List Int)} (h : OkR bs) {tail : List Int} {c j : Nat} (hj : j < bs.length) {z : Int × Int × List Int} (hz : z ∈ fitems ((catL bs ++ tail).take c)) (hp : z.1 = ((catL (bs.take j)).length : Int)) : z.2 = bs[j] := by
  obtain ⟨n, ht⟩ := fitemsF_mem _ _ _ z hz
  have h1 := takeF_ext (r := (catL bs ++ tail).drop c) ht
  rw [List.take_append_drop, hp] at h1
  have hsp : catL bs ++ tail = catL (bs.take j) ++ recL bs[j].1 bs[j].2 ++ (catL (bs.drop (j + 1)) ++ tail) := by
    conv => lhs; rw [← List.take_append_drop j bs]
    rw [catL_append, List.drop_eq_getElem_cons hj, catL_cons]
    simp only [List.append_assoc]
  have hx := h _ (List.getElem_mem hj)
  have h2 := take_rec (l := catL (bs.take j)) (r := catL (bs.drop (j + 1)) ++ tail) (kind := bs[j].1) hx.2.2.1 hx.1 hx.2.1 hx.2.2.2
  rw [← hsp, h1] at h2
  injection h2 with e1 h2
  injection h2 with e2 _
  rw [← Prod.eta z.2, e1, e2]
end Go.Proofs.Ytcnapbpljghfoaa.Plain
