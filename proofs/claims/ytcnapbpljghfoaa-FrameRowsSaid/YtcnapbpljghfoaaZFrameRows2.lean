/- Texts of this seat, one behind the other: what concordance's FrameRows reaches. -/
import Derived.Test.YtcnapbpljghfoaaZFrameRows1
import Derived.Deep.QuietTactic
import Derived.BigQuiet
import Derived.Test.YtcnapbpljghfoaaZFrameRows0
import Derived.Deep.Matrix
import Derived.ProofKit
import Derived.OpenShut
/- concordancelaw3.FrameRows, walked by hand: records one behind the other are told with their places, each as it was put; from any of these places on it is the same. -/
namespace Go.Proofs.Ytcnapbpljghfoaa.Hand
open Go.RowKit Go.Proofs.YtcnapbpljghfoaaW.PrintWords Go.Proofs.YtcnapbpljghfoaaW.PrintLast Go.Proofs.YtcnapbpljghfoaaW.PrintMore
open Go.Proofs.Ytcnapbpljghfoaa.Plain Go.Proofs.Ytcnapbpljghfoaa.PCrc
attribute [local go_sem] max2_int min2_int max_two min_two
set_option linter.unusedVariables false
set_option linter.unusedSimpArgs false
/-- The cells of a record in a row of records. -/
theorem frow_cells {w : World} {g : Nat} {rs : List (Int × List Int)} (h : Kd.C kdFrame w (some ⟨g, 0, none⟩) rs.length rs) (j : Nat) (hj : j < rs.length) :
    ∃ A c, w.cell? ⟨g, j * 2, none⟩ = some (.int .i64 rs[j].1) ∧ w.cell? ⟨g, j * 2 + 1, none⟩ = some (.slice A rs[j].2.length c) ∧ rs[j].2.length ≤ c ∧ Kd.C (Kd.int .u8) w A rs[j].2.length rs[j].2 := by
  obtain ⟨ad, c, e, hcl, hK, hc⟩ := Kd.C_get h (0, []) (j : Int) (by omega) (by omega)
  injection e with e
  subst e
  rw [Int.toNat_natCast, List.getD_eq_getElem?_getD, List.getElem?_eq_getElem hj, Option.getD_some] at hK
  rw [Int.toNat_natCast] at hc
  obtain ⟨x0, x1, rfl, h0, A, c', h1, h2, h3⟩ := hK
  have h0' : x0 = [.int .i64 rs[j].1] := h0
  subst h0' h1
  have e0 := hc 0 _ rfl
  have e1 := hc 1 _ rfl
  rw [add_plain] at e0 e1
  exact ⟨A, c', e0, e1, h2, h3⟩
def rows.T19 : Bool × List (List Nat × List Nat) := (true, [([], []), ([], []), ([0, 1], [0, 1]), ([2], [2]), ([], []), ([], []), ([4, 5], [4, 5]), ([6], [6]), ([3, 7], [3, 7]), ([8], [8]), ([9], [9]), ([9], [9]), ([10, 11, 9], [9, 10, 11]), ([12, 9], [9, 12]), ([13, 9], [9, 13]), ([9], [9]), ([15, 9], [9, 15]), ([16, 9], [9, 16]), ([14, 17, 9], [9, 14, 17]), ([9, 18], [9, 18]), ([19, 9], [19]), ([20], [20]), ([20], [20]), ([21, 22, 20], [20, 21, 22]), ([23, 20], [20, 23]), ([24, 20], [20, 24]), ([25, 20], [20, 25]), ([20], [20]), ([20], [20]), ([27, 28, 20], [20, 27, 28]), ([29, 20], [20, 29]), ([30, 20], [20, 30]), ([26, 31, 20], [20, 26, 31]), ([20, 32], [20, 32])])
def rows.B19 : List Nat := [0, 0, 3, 7, 0, 0, 48, 112, 255, 511, 1023, 1023, 4095, 8191, 16383, 1023, 33791, 99327, 262143, 524287, 1048575, 2097151, 2097151, 8388607, 16777215, 33554431, 67108863, 2097151, 2097151, 404750335, 941621247, 2015363071, 4294967295, 8589934591]
theorem rows.tab19 : rtab .any (opsOf Try.f6 19) = rows.T19 := by kernel_rfl
theorem rows.bits19 : waitsOk rows.T19.2 rows.B19 = true := by kernel_rfl
def rows.T26 : Bool × List (List Nat × List Nat) := (true, [([], []), ([0], [0]), ([], []), ([2], [2]), ([], []), ([3, 4], [3, 4]), ([1, 5], [1, 5]), ([6], [6]), ([7], [7]), ([8, 7], [7, 8]), ([7], [7]), ([10, 7], [7, 10]), ([9, 11, 7], [7, 9, 11]), ([7, 12], [7, 12]), ([13, 7], [13]), ([14], [14]), ([15, 14], [14, 15]), ([16, 14], [14, 16]), ([17, 14], [14, 17]), ([14, 18], [14, 18]), ([19, 14], [19]), ([20], [20]), ([21, 20], [20, 21]), ([20, 22], [20, 22]), ([23, 20], [23]), ([24], [24]), ([25, 24], [24, 25]), ([24], [24]), ([27, 24], [24, 27]), ([28, 24], [24, 28]), ([29, 24], [24, 29]), ([26, 30, 24], [24, 26, 30]), ([24, 31], [24, 31]), ([32, 24], [32]), ([33], [33]), ([33], [33]), ([33], [33]), ([35, 36, 33], [33, 35, 36]), ([37, 33], [33, 37]), ([33], [33]), ([33], [33]), ([39, 40, 33], [33, 39, 40]), ([41, 33], [33, 41]), ([42, 33], [33, 42]), ([43, 33, 33], [33, 43]), ([38, 44, 33], [33, 38, 44]), ([34, 45, 33], [33, 34, 45]), ([33, 46], [33, 46]), ([47, 44], [47]), ([48, 48], [48]), ([48, 49], [48, 49]), ([50, 49, 0, 1, 2, 3, 4, 5, 6, 7, 8, 9, 10, 11, 12, 13, 14, 15, 16, 17, 18, 19, 20, 21, 22, 23, 24, 25, 26, 27, 28, 29, 30, 31, 32, 33, 34, 35, 36, 37, 38, 39, 40, 41, 42, 43, 44, 45, 46, 47, 48, 49, 50], [50])])
def rows.B26 : List Nat := [0, 1, 0, 4, 0, 28, 63, 127, 255, 511, 255, 1279, 4095, 8191, 16383, 32767, 65535, 131071, 262143, 524287, 1048575, 2097151, 4194303, 8388607, 16777215, 33554431, 67108863, 33554431, 167772159, 436207615, 973078527, 2147483647, 4294967295, 8589934591, 17179869183, 17179869183, 17179869183, 120259084287, 257698037759, 17179869183, 17179869183, 1666447310847, 3865470566399, 8263517077503, 17059610099711, 35167192219647, 70368744177663, 140737488355327, 281474976710655, 562949953421311, 1125899906842623, 2251799813685247]
theorem rows.tab26 : rtab .any (opsOf Try.f6 26) = rows.T26 := by kernel_rfl
theorem rows.bits26 : waitsOk rows.T26.2 rows.B26 = true := by kernel_rfl
set_option maxHeartbeats 8000000 in
set_option maxRecDepth 100000 in
theorem rows_walk (A0 : Option Addr) (c0 : Nat) (L : List (List Int)) (a1 : Int) (w : World) (hr0 : Kd.C (Kd.slice 5 (Kd.int .u8)) w A0 L.length L) (hc0 : L.length ≤ c0) (hw0 : ∀ x ∈ L, ∀ n ∈ x, (Lit.int .u8 n).wf = true) (hw1 : (Lit.int .i64 a1).wf = true) :
    Calls Try.prog 6 #[.slice A0 L.length c0, .int .i64 a1] w fun e w' => e = .returned (.bool true) ∧ Below w.heap.size w w' := by
  have HBL := Aside0.mk (show ∀ x ∈ L, isB x from fun x hx n hn => Plain.wf_u8 (hw0 x hx n hn))
  have HAW := Aside0.mk (awake3_f 0)
  have HR0 := Aside0.mk hr0
  have HLM := Aside0.mk (Kd.C_max hr0)
  have HB := Aside0.mk (Below.refl w.heap.size w)
  clear hw0 hr0
  go_enter Try.func6, Try.ntmps6
  go_wp2
  go_loopg [5, 6, 7] 11 (fun kq v5 v6 v7 w' => ∃ (i : Nat), v7 = .int .i64 (i : Int) ∧ Aside0 (i ≤ 10 ∧ i ≤ L.length ∧ 10 - i ≤ kq) ∧ Aside0 (∀ j, j < i → (rd_L1 L (j : Int)).length ≤ 300) ∧ Aside0 (Kd.R (Kd.int .u8) 5 w' w.heap.size (fun _ => True) v5 (catL (recsOf (fun j => (j : Int) * 25 + 1) L i))) ∧ Aside0 (Kd.R (Kd.int .i64) 3 w' w.heap.size (fun _ => True) v6 (endsOf (fun j => (j : Int) * 25 + 1) L i)) ∧ Aside0 (Below w.heap.size w w'))
  case atStart => exact ⟨0, rfl, ⟨by omega, by omega, by omega⟩, ⟨fun j hj => by omega⟩, ⟨Kd.R_nil _ _ _ _ _⟩, ⟨Kd.R_nil _ _ _ _ _⟩, ⟨HB.out⟩⟩
  case round =>
    clear HB
    obtain ⟨i, rfl, HI, HLE, HV, HE, HB⟩ := hrel
    have hb1 := HI.out.2.1
    by_cases k1 : i < L.length ∧ i < 10
    · obtain ⟨hlt, h6⟩ := k1
      have d1 : decide ((i : Int) < (L.length : Int)) = true := decide_eq_true (by omega)
      have d2 : decide ((i : Int) < 10) = true := decide_eq_true (by omega)
      obtain ⟨ad, A2, c2, rfl, hcell, hle2, hC2⟩ := at_L1 (Kd.C_below HR0.out HB.out) (i : Int) (by omega) (by omega)
      rw [Int.toNat_natCast] at hcell
      obtain ⟨Ab, cb, rfl⟩ := Kd.R_slice HV.out
      obtain ⟨Ae, ce, rfl⟩ := Kd.R_slice HE.out
      have hcl := catL_recs_le (K := (fun j => (j : Int) * 25 + 1)) i HLE.out
      have hcs := recsOf_succ (fun j => (j : Int) * 25 + 1) L i
      have hes := endsOf_succ (fun j => (j : Int) * 25 + 1) L i
      have hel := endsOf_length (fun j => (j : Int) * 25 + 1) L i
      have hby : isB (rd_L1 L (i : Int)) := by
        unfold rd_L1
        rw [Int.toNat_natCast, List.getD_eq_getElem?_getD, List.getElem?_eq_getElem hlt]
        exact HBL.out _ (List.getElem_mem _)
      obtain ⟨y, ey⟩ : ∃ y, rd_L1 L (i : Int) = y := ⟨_, rfl⟩
      rw [ey] at hcell hle2 hC2 hcs hby
      by_cases k2 : 300 < y.length
      · have d3 : decide (300 < (y.length : Int)) = true := decide_eq_true (by omega)
        clear hcl hcs hes hel hby ey
        go_wp2_with (first | (go_at_call 10; refine (concordancelaw3_awake.calls _ _ _ HAW.out).mono ?_; rintro e w9 ⟨rfl, hb⟩; have n1_ := Aside0.mk (below_step HB.out hb); clear HB hb; have HB := n1_; clear n1_))
        go_ret
        exact ⟨rfl, HB.out⟩
      · have d3 : decide (300 < (y.length : Int)) = false := decide_eq_false (by omega)
        have HI2 := Aside0.mk (And.intro hlt h6)
        have hput := put_f (l := catL (recsOf (fun j => (j : Int) * 25 + 1) L i)) (by omega) hby (by omega) ((i : Int) * 25 + 1) 0
        unfold putF at hput
        rw [if_neg (by omega), if_neg (by omega)] at hput
        have hcat : catL (recsOf (fun j => (j : Int) * 25 + 1) L i) ++ recL ((i : Int) * 25 + 1) y = catL (recsOf (fun j => (j : Int) * 25 + 1) L (i + 1)) := by
          rw [hcs, catL_append, catL_cons, catL_nil, List.append_nil]
        rw [hcat] at hput
        have HPUT := Aside0.mk hput
        have HY := Aside0.mk (show y.length ≤ 300 by omega)
        have HEY := Aside0.mk ey
        have HES := Aside0.mk hes
        have HEL := Aside0.mk hel
        have HC2 := Aside0.mk hC2
        have HCE := Aside0.mk (Kd.C_below HR0.out HB.out)
        clear hput hcat hcs hcl hes hel hby ey k2 hC2
        go_wp2_with (first | ((with_reducible refine gate_builtin (b := .append) (xs := #[.tmp 36, .tmp 39]) rfl ?_); at_builtin; refine Kd.R_append (Kd.int .i64) (w0 := w) w.heap.size rfl (.tmp 36) (.tmp 39) 40 3 (.int .i64 0) 8 rfl Try.underlying40 finfo_int rfl (by decide) (by omega) (.slice Ae (endsOf (fun j => (j : Int) * 25 + 1) L i).length ce) (endsOf (fun j => (j : Int) * 25 + 1) L i) ((catL (recsOf (fun j => (j : Int) * 25 + 1) L i)).length : Int) [.int .i64 ((catL (recsOf (fun j => (j : Int) * 25 + 1) L i)).length : Int)] (fun _ => True) (fun _ => False) rfl rfl rfl (fun _ h => h.elim) (fun _ _ => trivial) HE.out HB.out HB.out.size (by have := HEL.out; have := HI2.out.2; omega) ?_; intro v3 w3 ho hb hg hat; have n0_ := Aside0.mk (Kd.R_over HV.out HE.out (by decide) hg); rw [← HES.out] at ho; clear HV HE HB; have HV := n0_; have HE := Aside0.mk ho; have HB := Aside0.mk hb; obtain ⟨ad', A2', c2', hade, hcell2, hle2', hC2'⟩ := at_L1 (Kd.C_below HR0.out HB.out) (i : Int) (by omega) (by omega); injection hade with hade; subst hade; rw [Int.toNat_natCast, HEY.out] at hcell2; rw [HEY.out] at hle2' hC2'; have HC3 := Aside0.mk hC2'; clear n0_ ho hb hg hat hC2') | (go_at_call 11; refine (frame_Put.calls 1 (fun _ => True) Ab cb _ _ A2' c2' y _ _ _ ⟨Ab, cb, rfl, (Kd.R_reads' HV.out).2.1, Kd.R_F HV.out⟩ HC3.out hle2' HPUT.out).mono ?_; rintro e w2 ⟨v2, rfl, ho, hb⟩; obtain ⟨A3, c3, rfl⟩ := Kd.R_slice ho; have n0_ := Aside0.mk (Kd.R_mono (Kd.R_lower ho HB.out.size) (ok' := fun _ => True) (fun _ _ => trivial)); have n2_ := Aside0.mk (Kd.R_below HE.out hb); clear HV HE ho; have HV := n0_; have HE := n2_; clear n0_ n2_; have n1_ := Aside0.mk (below_step HB.out hb); clear HB hb; have HB := n1_; clear n1_))
        go_roundg (9 - i)
        case measure => have := HI.out; have := HI2.out; omega
        case rel =>
          refine ⟨i + 1, by go_num, ⟨by have := HI2.out; omega, by have := HI2.out; omega, by omega⟩, ⟨fun j hj => ?_⟩, ⟨HV.out⟩, ⟨HE.out⟩, ⟨HB.out⟩⟩
          rcases Nat.lt_or_ge j i with h | h
          · exact HLE.out j h
          · have : j = i := by omega
            subst this
            rw [HEY.out]
            exact HY.out
    · have hlen := catL_recs_le (K := (fun j => (j : Int) * 25 + 1)) i HLE.out
      have hi10 : i ≤ 10 := HI.out.1
      have hB' := recsOf_ok (K := (fun j => (j : Int) * 25 + 1)) (L := L) (i := i) (fun j hj => by show 1 ≤ (j : Int) * 25 + 1 ∧ (j : Int) * 25 + 1 ≤ 250; omega) HBL.out (fun j hj => by have := HLE.out j hj; omega)
      have hdec : (decide ((i : Int) < (L.length : Int)) = false ∧ ¬ i < L.length) ∨ (decide ((i : Int) < (L.length : Int)) = true ∧ i < L.length ∧ decide ((i : Int) < 10) = false ∧ ¬ i < 10) := by
        by_cases h : i < L.length
        · exact .inr ⟨decide_eq_true (by omega), h, decide_eq_false (by omega), by omega⟩
        · exact .inl ⟨decide_eq_false (by omega), h⟩
      have hfit := fit_all hB' [] (.inl rfl)
      rw [List.append_nil] at hfit
      have hft : ftold (catL (recsOf (fun j => (j : Int) * 25 + 1) L i)) 100 = placesL 0 (recsOf (fun j => (j : Int) * 25 + 1) L i) := by
        unfold ftold
        rw [hfit, List.take_of_length_le]
        rw [placesL_length, recsOf_length]
        have : (100 : Int).toNat = 100 := rfl
        omega
      obtain ⟨Ab, cb, rfl⟩ := Kd.R_slice HV.out
      have hVb := Kd.R_reads' HV.out
      have hCB := catL_isB hB'
      have hpl := placesL_length 0 (recsOf (fun j => (j : Int) * 25 + 1) L i)
      have hps := placesL_say 0 (recsOf (fun j => (j : Int) * 25 + 1) L i)
      have hpg := placesL_getD (recsOf (fun j => (j : Int) * 25 + 1) L i) 0
      rw [recsOf_length] at hpl hpg
      have hrt : ∀ j, j ≤ i → (recsOf (fun j => (j : Int) * 25 + 1) L i).take j = recsOf (fun j => (j : Int) * 25 + 1) L j := fun j hj => recsOf_take _ _ hj
      have hea : ∀ j, j < i → rd (endsOf (fun j => (j : Int) * 25 + 1) L i) (j : Int) = ((catL (recsOf (fun j => (j : Int) * 25 + 1) L j)).length : Int) := fun j hj => endsOf_at _ _ hj
      have hel := endsOf_length (fun j => (j : Int) * 25 + 1) L i
      have hrl := recsOf_length (fun j => (j : Int) * 25 + 1) L i
      have hge : ∀ (j : Nat) (h : j < (recsOf (fun j => (j : Int) * 25 + 1) L i).length), (recsOf (fun j => (j : Int) * 25 + 1) L i)[j] = ((j : Int) * 25 + 1, rd_L1 L (j : Int)) := by
        intro j h
        simp [recsOf]
      obtain ⟨B, eB⟩ : ∃ B, recsOf (fun j => (j : Int) * 25 + 1) L i = B := ⟨_, rfl⟩
      obtain ⟨E, eE⟩ : ∃ E, endsOf (fun j => (j : Int) * 25 + 1) L i = E := ⟨_, rfl⟩
      obtain ⟨T, eT⟩ : ∃ T, placesL 0 (recsOf (fun j => (j : Int) * 25 + 1) L i) = T := ⟨_, rfl⟩
      have HRT := Aside0.mk (fun j (hj : j ≤ i) => (hrt j hj).symm)
      rw [eT] at hft hpl hps hpg
      rw [eB] at hft hVb hCB hps hpg hrt hrl hge hB' hlen HRT ⊢
      rw [eE] at hea hel HE
      obtain ⟨C, eC⟩ : ∃ C, catL B = C := ⟨_, rfl⟩
      rw [eC] at hft hVb hCB hlen ⊢
      have HCE := Aside0.mk eC
      have HCL := Aside0.mk (show C.length ≤ 3120 by omega)
      have HCB := Aside0.mk hCB
      have HVC := Aside0.mk hVb.2
      have HPL := Aside0.mk hpl
      have HPS := Aside0.mk hps
      have HPG := Aside0.mk hpg
      have HEA := Aside0.mk hea
      have HEL := Aside0.mk hel
      have HRL := Aside0.mk hrl
      have HGE := Aside0.mk hge
      have HOK := Aside0.mk hB'
      have HI10 := Aside0.mk hi10
      have HIL := Aside0.mk HI.out.2.1
      have HLE2 := Aside0.mk HLE.out
      have htold := fun (w' : World) (hw : Kd.C (Kd.int .u8) w' Ab C.length C) => ftold2_calls Ab cb C 100 w' hw HVC.out.1 HCB.out (by have := HCL.out; omega)
      rw [hft, HPL.out] at htold
      have HTOLD := Aside0.mk htold
      clear hlen hVb hCB hpl hps hpg hrt hea hel hrl hge hB' hfit hft eB eT eE eC HV HLE htold hb1
      have hcm : (C.length : Int) ≤ 3120 := by have := HCL.out; omega
      by_cases hi0 : i = 0
      · subst hi0
        obtain ⟨Ae, ce, rfl⟩ := Kd.R_slice HE.out
        have hE0 : ((E.length : Int) == 0) = true := beq_iff_eq.mpr (by have := HEL.out; omega)
        have hTn : (T.map (·.1)).length = 0 := by rw [List.length_map]; exact HPL.out
        have hE1 : E.length = 0 := HEL.out
        rcases hdec with ⟨d1, g1⟩ | ⟨d1, g1, d2, g2⟩
        · go_wp2_with (first | (go_at_call 17; refine (HTOLD.out _ HVC.out.2).mono ?_; rintro e w7 ⟨v7, A7, c7, rfl, ho, _, _, _, hb⟩; obtain ⟨A8, c8, rfl⟩ := Kd.R_slice ho; clear ho; have n1_ := Aside0.mk (below_step HB.out hb); clear HB hb; have HB := n1_; clear n1_))
          go_loopg [12] 1 (fun kq v12 w' => v12 = .int .i64 0 ∧ w' = w7)
          case atStart => exact ⟨rfl, rfl⟩
          case round =>
            obtain ⟨rfl, rfl⟩ := hrel
            go_wp2_with (first | (go_at_call 10; refine (concordancelaw3_awake.calls _ _ _ HAW.out).mono ?_; rintro e w9 ⟨rfl, hb⟩; have n1_ := Aside0.mk (below_step HB.out hb); clear HB hb; have HB := n1_; clear n1_))
            go_ret
            exact ⟨rfl, HB.out⟩
        · exact absurd g2 (by omega)
      · obtain ⟨ge, ce, rfl, _, _, _, _⟩ := Kd.R_form HE.out (by rw [HEL.out]; omega)
        have HEC := Aside0.mk (Kd.R_reads' HE.out).2
        have hE0 : ((E.length : Int) == 0) = false := beq_eq_false_iff_ne.mpr (by have := HEL.out; omega)
        have hE1 : E.length ≠ 0 := by have := HEL.out; omega
        have hEm : (E.length : Int) ≤ 10 := by have := HEL.out; omega
        have hTn : (T.map (·.1)).length = E.length := by rw [List.length_map, HPL.out, HEL.out]
        have HI0 := Aside0.mk (show 0 < i by omega)
        clear HE hi0
        rcases hdec with ⟨d1, g1⟩ | ⟨d1, g1, d2, g2⟩
        all_goals
          go_wp2_with (first | ((with_reducible refine gate_callee (f := 17) rfl ?_); refine goesL_ (some 58) rfl rfl Try.func17 (by kernel_rfl) rfl #[.slice Ab C.length cb, .int .i64 100] rfl (by (try simp only [List.map_toArray, List.map_cons, List.map_nil]); first | done | rfl) ?_; refine (HTOLD.out _ HVC.out.2).mono ?_; rintro e w7 ⟨v7, A7, c7, rfl, ho, hle7, hC7, hg7, hb⟩; refine ⟨_, rfl, ?_⟩; obtain ⟨gp, cp, rfl, _, _, _, _⟩ := Kd.R_form ho (by rw [hTn]; have := HI0.out; have := HEL.out; omega); obtain ⟨gl, rfl⟩ := hg7 HI0.out; have HP := Aside0.mk (Kd.R_reads' ho).2.2; have HLR := Aside0.mk hC7; have n0_ := Aside0.mk (And.intro HVC.out.1 (Kd.C_below HVC.out.2 hb)); have n2_ := Aside0.mk (And.intro HEC.out.1 (Kd.C_below HEC.out.2 hb)); clear HVC HEC ho hC7 hle7; have HVC := n0_; have HEC := n2_; clear n0_ n2_; have n1_ := Aside0.mk (below_step HB.out hb); clear HB hb; have HB := n1_; clear n1_))
          rw [HPS.out, HRL.out] at HLR
          go_loopg [12] (i + 1) (fun kq v12 w' => ∃ j : Nat, v12 = .int .i64 (j : Int) ∧ Aside0 (j ≤ i ∧ i - j ≤ kq) ∧ Aside0 (Below w7.heap.size w7 w'))
          case atStart => exact ⟨0, rfl, ⟨by omega, by omega⟩, ⟨Below.refl _ _⟩⟩
          case round =>
            obtain ⟨j, rfl, HJ, HB7⟩ := hrel
            have hj10 : j ≤ 10 := by have := HJ.out.1; have := HI10.out; omega
            by_cases k2 : j < i
            · have hjE : j < E.length := by have := HEL.out; omega
              have d3 : decide ((j : Int) < (E.length : Int)) = true := decide_eq_true (by omega)
              have hX : (T.map (·.1)).length = i := by rw [List.length_map]; exact HPL.out
              have hcp := head_cell (Kd.C_below HP.out HB7.out) j (by rw [hX]; exact k2)
              have hce := head_cell (Kd.C_below HEC.out.2 HB7.out) j hjE
              have hval : rd (T.map (·.1)) (j : Int) = ((catL (recsOf (fun j => (j : Int) * 25 + 1) L j)).length : Int) := by
                have h1 := HPG.out j k2
                rw [HRT.out j (by omega)]
                unfold rd
                rw [Int.toNat_natCast, h1]
                omega
              rw [hval] at hcp
              rw [HEA.out j k2] at hce
              have hjB : j < B.length := by rw [HRL.out]; exact k2
              obtain ⟨Al, cl, hl0, hl1, hll, hlC⟩ := frow_cells (by rw [HRL.out]; exact Kd.C_below HLR.out HB7.out) j hjB
              rw [HGE.out j hjB] at hl0 hl1 hlC
              obtain ⟨ad, A2, c2, rfl, hcell, hle2, hC2⟩ := at_L1 (Kd.C_below HR0.out (below_step HB.out HB7.out)) (j : Int) (by omega) (by have := HIL.out; omega)
              rw [Int.toNat_natCast] at hcell
              have hjL : j < L.length := by have := HIL.out; omega
              obtain ⟨q, eq⟩ : ∃ q, (catL (recsOf (fun j => (j : Int) * 25 + 1) L j)).length = q := ⟨_, rfl⟩
              obtain ⟨y, ey⟩ : ∃ y, rd_L1 L (j : Int) = y := ⟨_, rfl⟩
              rw [eq] at hcp hce
              dsimp only at hl0 hl1 hlC
              rw [ey] at hl1 hlC hcell hC2
              have HCP := Aside0.mk hcp
              have HCE2 := Aside0.mk hce
              have HL0 := Aside0.mk hl0
              have HL1 := Aside0.mk hl1
              have HLC := Aside0.mk hlC
              have HCC := Aside0.mk hcell
              have HC2 := Aside0.mk hC2
              have HK2 := Aside0.mk k2
              clear hX hval eq ey hll hlC hle2 hC2 hjB hcp hce hl0 hl1 hcell
              have hw1 : wrap64 ((j : Int) * 25) = (j : Int) * 25 := w64 (by omega) (by omega)
              have hw2 : wrap64 ((j : Int) * 25 + 1) = (j : Int) * 25 + 1 := w64 (by omega) (by omega)
              go_wp2
              refine start_ (n := 34) (S := fun w' => Below wr.heap.size wr w') (ds := []) #[false, false, false, false, false, false, false, false, false, false, false, false, false, false, false, false, false, false, false, false, false, false, false, false, false, false, false, false, false, false, false, false, false, false] (by kernel_rfl) rfl rfl (below_drew1 (Below.refl _ _)) (fun hHeld => ?_)
              refine with_tabW rows.tab19 rows.bits19 (fun HT_ HW_ => ?_)
              refine pure_ (i := 0) (N := some 72) (v := ?_) (a' := ?_) #[true, false, false, false, false, false, false, false, false, false, false, false, false, false, false, false, false, false, false, false, false, false, false, false, false, false, false, false, false, false, false, false, false, false] rfl rfl (any_of HT_.out (by kernel_rfl)) (fun _ _ _ h => h) (Or.inl ⟨by rfl, ?_⟩) ?_ ?_
              rotate_left
              · intro w'
                go_simp
                with_reducible rfl
              rotate_left
              · simp only [Act.put, List.setIfInBounds_toArray, List.set_cons_zero, List.set_cons_succ, i64_w, i32_w]
                rfl
              refine pure_ (i := 1) (N := some 73) (v := ?_) (a' := ?_) #[true, true, false, false, false, false, false, false, false, false, false, false, false, false, false, false, false, false, false, false, false, false, false, false, false, false, false, false, false, false, false, false, false, false] rfl rfl (any_of HT_.out (by kernel_rfl)) (fun _ _ _ h => h) (Or.inl ⟨by rfl, ?_⟩) ?_ ?_
              rotate_left
              · intro w'
                go_simp
                with_reducible rfl
              rotate_left
              · simp only [Act.put, List.setIfInBounds_toArray, List.set_cons_zero, List.set_cons_succ, i64_w, i32_w]
                rfl
              refine pure_ (i := 2) (N := some 74) (v := ?_) (a' := ?_) #[true, true, true, false, false, false, false, false, false, false, false, false, false, false, false, false, false, false, false, false, false, false, false, false, false, false, false, false, false, false, false, false, false, false] rfl rfl (any_of HT_.out (by kernel_rfl)) (fun _ _ _ h => h) (Or.inl ⟨by rfl, ?_⟩) ?_ ?_
              rotate_left
              · intro w'
                go_simp
                with_reducible rfl
              rotate_left
              · simp only [Act.put, List.setIfInBounds_toArray, List.set_cons_zero, List.set_cons_succ, i64_w, i32_w]
                rfl
              refine take_ (i := 3) (N := some 75) (v := ?_) (a' := ?_) #[true, true, true, true, false, false, false, false, false, false, false, false, false, false, false, false, false, false, false, false, false, false, false, false, false, false, false, false, false, false, false, false, false, false] rfl rfl (take_ofW HT_.out HW_.out (by kernel_rfl)) (fun _ _ _ h => h) (Or.inl ⟨by rfl, ?_⟩) hHeld ?_ ?_
              rotate_left
              · intro w' hS
                have h_ := (hS.cell (World.block_lt_of_cell? _ _ HCP.out)).trans HCP.out
                go_simp
                with_reducible rfl
              rotate_left
              · simp only [Act.put, List.setIfInBounds_toArray, List.set_cons_zero, List.set_cons_succ, i64_w, i32_w]
                rfl
              refine pure_ (i := 4) (N := some 76) (v := ?_) (a' := ?_) #[true, true, true, true, true, false, false, false, false, false, false, false, false, false, false, false, false, false, false, false, false, false, false, false, false, false, false, false, false, false, false, false, false, false] rfl rfl (any_of HT_.out (by kernel_rfl)) (fun _ _ _ h => h) (Or.inl ⟨by rfl, ?_⟩) ?_ ?_
              rotate_left
              · intro w'
                go_simp
                with_reducible rfl
              rotate_left
              · simp only [Act.put, List.setIfInBounds_toArray, List.set_cons_zero, List.set_cons_succ, i64_w, i32_w]
                rfl
              refine pure_ (i := 5) (N := some 77) (v := ?_) (a' := ?_) #[true, true, true, true, true, true, false, false, false, false, false, false, false, false, false, false, false, false, false, false, false, false, false, false, false, false, false, false, false, false, false, false, false, false] rfl rfl (any_of HT_.out (by kernel_rfl)) (fun _ _ _ h => h) (Or.inl ⟨by rfl, ?_⟩) ?_ ?_
              rotate_left
              · intro w'
                go_simp
                with_reducible rfl
              rotate_left
              · simp only [Act.put, List.setIfInBounds_toArray, List.set_cons_zero, List.set_cons_succ, i64_w, i32_w]
                rfl
              refine pure_ (i := 6) (N := some 78) (v := ?_) (a' := ?_) #[true, true, true, true, true, true, true, false, false, false, false, false, false, false, false, false, false, false, false, false, false, false, false, false, false, false, false, false, false, false, false, false, false, false] rfl rfl (any_of HT_.out (by kernel_rfl)) (fun _ _ _ h => h) (Or.inl ⟨by rfl, ?_⟩) ?_ ?_
              rotate_left
              · intro w'
                go_simp
                with_reducible rfl
              rotate_left
              · simp only [Act.put, List.setIfInBounds_toArray, List.set_cons_zero, List.set_cons_succ, i64_w, i32_w]
                rfl
              refine take_ (i := 7) (N := some 79) (v := ?_) (a' := ?_) #[true, true, true, true, true, true, true, true, false, false, false, false, false, false, false, false, false, false, false, false, false, false, false, false, false, false, false, false, false, false, false, false, false, false] rfl rfl (take_ofW HT_.out HW_.out (by kernel_rfl)) (fun _ _ _ h => h) (Or.inl ⟨by rfl, ?_⟩) hHeld ?_ ?_
              rotate_left
              · intro w' hS
                have h_ := (hS.cell (World.block_lt_of_cell? _ _ HCE2.out)).trans HCE2.out
                go_simp
                with_reducible rfl
              rotate_left
              · simp only [Act.put, List.setIfInBounds_toArray, List.set_cons_zero, List.set_cons_succ, i64_w, i32_w]
                rfl
              refine pure_ (i := 8) (N := some 80) (v := ?_) (a' := ?_) #[true, true, true, true, true, true, true, true, true, false, false, false, false, false, false, false, false, false, false, false, false, false, false, false, false, false, false, false, false, false, false, false, false, false] rfl rfl (any_of HT_.out (by kernel_rfl)) (fun _ _ _ h => h) (Or.inl ⟨by rfl, ?_⟩) ?_ ?_
              rotate_left
              · intro w'
                go_simp
                with_reducible rfl
              rotate_left
              · simp only [Act.put, List.setIfInBounds_toArray, List.set_cons_zero, List.set_cons_succ, i64_w, i32_w]
                rfl
              refine pure_ (i := 9) (N := some 81) (v := ?_) (a' := ?_) #[true, true, true, true, true, true, true, true, true, true, false, false, false, false, false, false, false, false, false, false, false, false, false, false, false, false, false, false, false, false, false, false, false, false] rfl rfl (any_of HT_.out (by kernel_rfl)) (fun _ _ _ h => h) (Or.inl ⟨by rfl, ?_⟩) ?_ ?_
              rotate_left
              · intro w'
                go_simp
                with_reducible rfl
              rotate_left
              · simp only [Act.put, List.setIfInBounds_toArray, List.set_cons_zero, List.set_cons_succ, i64_w, i32_w]
                rfl
              refine pure_ (i := 10) (N := some 82) (v := ?_) (a' := ?_) #[true, true, true, true, true, true, true, true, true, true, true, false, false, false, false, false, false, false, false, false, false, false, false, false, false, false, false, false, false, false, false, false, false, false] rfl rfl (any_of HT_.out (by kernel_rfl)) (fun _ _ _ h => h) (Or.inl ⟨by rfl, ?_⟩) ?_ ?_
              rotate_left
              · intro w'
                go_simp
                with_reducible rfl
              rotate_left
              · simp only [Act.put, List.setIfInBounds_toArray, List.set_cons_zero, List.set_cons_succ, i64_w, i32_w]
                rfl
              refine pure_ (i := 11) (N := some 83) (v := ?_) (a' := ?_) #[true, true, true, true, true, true, true, true, true, true, true, true, false, false, false, false, false, false, false, false, false, false, false, false, false, false, false, false, false, false, false, false, false, false] rfl rfl (any_of HT_.out (by kernel_rfl)) (fun _ _ _ h => h) (Or.inl ⟨by rfl, ?_⟩) ?_ ?_
              rotate_left
              · intro w'
                go_simp
                with_reducible rfl
              rotate_left
              · simp only [Act.put, List.setIfInBounds_toArray, List.set_cons_zero, List.set_cons_succ, i64_w, i32_w]
                rfl
              refine pure_ (i := 12) (N := some 84) (v := ?_) (a' := ?_) #[true, true, true, true, true, true, true, true, true, true, true, true, true, false, false, false, false, false, false, false, false, false, false, false, false, false, false, false, false, false, false, false, false, false] rfl rfl (any_of HT_.out (by kernel_rfl)) (fun _ _ _ h => h) (Or.inl ⟨by rfl, ?_⟩) ?_ ?_
              rotate_left
              · intro w'
                go_simp
                with_reducible rfl
              rotate_left
              · simp only [Act.put, List.setIfInBounds_toArray, List.set_cons_zero, List.set_cons_succ, i64_w, i32_w]
                rfl
              refine pure_ (i := 13) (N := some 85) (v := ?_) (a' := ?_) #[true, true, true, true, true, true, true, true, true, true, true, true, true, true, false, false, false, false, false, false, false, false, false, false, false, false, false, false, false, false, false, false, false, false] rfl rfl (any_of HT_.out (by kernel_rfl)) (fun _ _ _ h => h) (Or.inl ⟨by rfl, ?_⟩) ?_ ?_
              rotate_left
              · intro w'
                go_simp
                with_reducible rfl
              rotate_left
              · simp only [Act.put, List.setIfInBounds_toArray, List.set_cons_zero, List.set_cons_succ, i64_w, i32_w]
                rfl
              refine take_ (i := 14) (N := some 86) (v := ?_) (a' := ?_) #[true, true, true, true, true, true, true, true, true, true, true, true, true, true, true, false, false, false, false, false, false, false, false, false, false, false, false, false, false, false, false, false, false, false] rfl rfl (take_ofW HT_.out HW_.out (by kernel_rfl)) (fun _ _ _ h => h) (Or.inl ⟨by rfl, ?_⟩) hHeld ?_ ?_
              rotate_left
              · intro w' hS
                have h_ := (hS.cell (World.block_lt_of_cell? _ _ HL0.out)).trans HL0.out
                go_simp
                with_reducible rfl
              rotate_left
              · simp only [Act.put, List.setIfInBounds_toArray, List.set_cons_zero, List.set_cons_succ, i64_w, i32_w]
                rfl
              refine pure_ (i := 15) (N := some 87) (v := ?_) (a' := ?_) #[true, true, true, true, true, true, true, true, true, true, true, true, true, true, true, true, false, false, false, false, false, false, false, false, false, false, false, false, false, false, false, false, false, false] rfl rfl (any_of HT_.out (by kernel_rfl)) (fun _ _ _ h => h) (Or.inl ⟨by rfl, ?_⟩) ?_ ?_
              rotate_left
              · intro w'
                go_simp
                with_reducible rfl
              rotate_left
              · simp only [Act.put, List.setIfInBounds_toArray, List.set_cons_zero, List.set_cons_succ, i64_w, i32_w]
                rfl
              refine pure_ (i := 16) (N := some 88) (v := ?_) (a' := ?_) #[true, true, true, true, true, true, true, true, true, true, true, true, true, true, true, true, true, false, false, false, false, false, false, false, false, false, false, false, false, false, false, false, false, false] rfl rfl (any_of HT_.out (by kernel_rfl)) (fun _ _ _ h => h) (Or.inl ⟨by rfl, ?_⟩) ?_ ?_
              rotate_left
              · intro w'
                go_simp
                with_reducible rfl
              rotate_left
              · simp only [Act.put, List.setIfInBounds_toArray, List.set_cons_zero, List.set_cons_succ, i64_w, i32_w]
                rfl
              refine pure_ (i := 17) (N := some 89) (v := ?_) (a' := ?_) #[true, true, true, true, true, true, true, true, true, true, true, true, true, true, true, true, true, true, false, false, false, false, false, false, false, false, false, false, false, false, false, false, false, false] rfl rfl (any_of HT_.out (by kernel_rfl)) (fun _ _ _ h => h) (Or.inl ⟨by rfl, ?_⟩) ?_ ?_
              rotate_left
              · intro w'
                go_simp
                with_reducible rfl
              rotate_left
              · simp only [Act.put, List.setIfInBounds_toArray, List.set_cons_zero, List.set_cons_succ, i64_w, i32_w]
                rfl
              refine pure_ (i := 18) (N := some 90) (v := ?_) (a' := ?_) #[true, true, true, true, true, true, true, true, true, true, true, true, true, true, true, true, true, true, true, false, false, false, false, false, false, false, false, false, false, false, false, false, false, false] rfl rfl (any_of HT_.out (by kernel_rfl)) (fun _ _ _ h => h) (Or.inl ⟨by rfl, ?_⟩) ?_ ?_
              rotate_left
              · intro w'
                go_simp
                with_reducible rfl
              rotate_left
              · simp only [Act.put, List.setIfInBounds_toArray, List.set_cons_zero, List.set_cons_succ, i64_w, i32_w]
                rfl
              refine pure_ (i := 19) (N := some 91) (v := ?_) (a' := ?_) #[true, true, true, true, true, true, true, true, true, true, true, true, true, true, true, true, true, true, true, true, false, false, false, false, false, false, false, false, false, false, false, false, false, false] rfl rfl (any_of HT_.out (by kernel_rfl)) (fun _ _ _ h => h) (Or.inl ⟨by rfl, ?_⟩) ?_ ?_
              rotate_left
              · intro w'
                go_simp
                with_reducible rfl
              rotate_left
              · simp only [Act.put, List.setIfInBounds_toArray, List.set_cons_zero, List.set_cons_succ, i64_w, i32_w]
                rfl
              refine pure_ (i := 20) (N := some 92) (v := ?_) (a' := ?_) #[true, true, true, true, true, true, true, true, true, true, true, true, true, true, true, true, true, true, true, true, true, false, false, false, false, false, false, false, false, false, false, false, false, false] rfl rfl (any_of HT_.out (by kernel_rfl)) (fun _ _ _ h => h) (Or.inl ⟨by rfl, ?_⟩) ?_ ?_
              rotate_left
              · intro w'
                go_simp
                with_reducible rfl
              rotate_left
              · simp only [Act.put, List.setIfInBounds_toArray, List.set_cons_zero, List.set_cons_succ, i64_w, i32_w]
                rfl
              refine pure_ (i := 21) (N := some 93) (v := ?_) (a' := ?_) #[true, true, true, true, true, true, true, true, true, true, true, true, true, true, true, true, true, true, true, true, true, true, false, false, false, false, false, false, false, false, false, false, false, false] rfl rfl (any_of HT_.out (by kernel_rfl)) (fun _ _ _ h => h) (Or.inl ⟨by rfl, ?_⟩) ?_ ?_
              rotate_left
              · intro w'
                go_simp
                with_reducible rfl
              rotate_left
              · simp only [Act.put, List.setIfInBounds_toArray, List.set_cons_zero, List.set_cons_succ, i64_w, i32_w]
                rfl
              refine pure_ (i := 22) (N := some 94) (v := ?_) (a' := ?_) #[true, true, true, true, true, true, true, true, true, true, true, true, true, true, true, true, true, true, true, true, true, true, true, false, false, false, false, false, false, false, false, false, false, false] rfl rfl (any_of HT_.out (by kernel_rfl)) (fun _ _ _ h => h) (Or.inl ⟨by rfl, ?_⟩) ?_ ?_
              rotate_left
              · intro w'
                go_simp
                with_reducible rfl
              rotate_left
              · simp only [Act.put, List.setIfInBounds_toArray, List.set_cons_zero, List.set_cons_succ, i64_w, i32_w]
                rfl
              refine pure_ (i := 23) (N := some 95) (v := ?_) (a' := ?_) #[true, true, true, true, true, true, true, true, true, true, true, true, true, true, true, true, true, true, true, true, true, true, true, true, false, false, false, false, false, false, false, false, false, false] rfl rfl (any_of HT_.out (by kernel_rfl)) (fun _ _ _ h => h) (Or.inl ⟨by rfl, ?_⟩) ?_ ?_
              rotate_left
              · intro w'
                go_simp
                with_reducible rfl
              rotate_left
              · simp only [Act.put, List.setIfInBounds_toArray, List.set_cons_zero, List.set_cons_succ, i64_w, i32_w]
                rfl
              refine pure_ (i := 24) (N := some 96) (v := ?_) (a' := ?_) #[true, true, true, true, true, true, true, true, true, true, true, true, true, true, true, true, true, true, true, true, true, true, true, true, true, false, false, false, false, false, false, false, false, false] rfl rfl (any_of HT_.out (by kernel_rfl)) (fun _ _ _ h => h) (Or.inl ⟨by rfl, ?_⟩) ?_ ?_
              rotate_left
              · intro w'
                go_simp
                with_reducible rfl
              rotate_left
              · simp only [Act.put, List.setIfInBounds_toArray, List.set_cons_zero, List.set_cons_succ, i64_w, i32_w]
                rfl
              refine take_ (i := 25) (N := some 97) (v := ?_) (a' := ?_) #[true, true, true, true, true, true, true, true, true, true, true, true, true, true, true, true, true, true, true, true, true, true, true, true, true, true, false, false, false, false, false, false, false, false] rfl rfl (take_ofW HT_.out HW_.out (by kernel_rfl)) (fun _ _ _ h => h) (Or.inl ⟨by rfl, ?_⟩) hHeld ?_ ?_
              rotate_left
              · intro w' hS
                have h_ := (hS.cell (World.block_lt_of_cell? _ _ HL1.out)).trans HL1.out
                go_simp
                with_reducible rfl
              rotate_left
              · simp only [Act.put, List.setIfInBounds_toArray, List.set_cons_zero, List.set_cons_succ, i64_w, i32_w]
                rfl
              refine take_ (i := 26) (N := some 98) (v := ?_) (a' := ?_) #[true, true, true, true, true, true, true, true, true, true, true, true, true, true, true, true, true, true, true, true, true, true, true, true, true, true, true, false, false, false, false, false, false, false] rfl rfl (take_ofW HT_.out HW_.out (by kernel_rfl)) (fun _ _ _ h => h) (Or.inl ⟨by rfl, ?_⟩) hHeld ?_ ?_
              rotate_left
              · intro w' hS
                have h_ := Kd.C_string (P := Try.prog) (A := Al) (c := cl) Try.underlying22 Try.underlying5 Try.underlying9 (Kd.C_below HLC.out hS)
                go_simp
                with_reducible rfl
              rotate_left
              · simp only [Act.put, List.setIfInBounds_toArray, List.set_cons_zero, List.set_cons_succ, i64_w, i32_w]
                rfl
              refine pure_ (i := 27) (N := some 99) (v := ?_) (a' := ?_) #[true, true, true, true, true, true, true, true, true, true, true, true, true, true, true, true, true, true, true, true, true, true, true, true, true, true, true, true, false, false, false, false, false, false] rfl rfl (any_of HT_.out (by kernel_rfl)) (fun _ _ _ h => h) (Or.inl ⟨by rfl, ?_⟩) ?_ ?_
              rotate_left
              · intro w'
                go_simp
                with_reducible rfl
              rotate_left
              · simp only [Act.put, List.setIfInBounds_toArray, List.set_cons_zero, List.set_cons_succ, i64_w, i32_w]
                rfl
              refine pure_ (i := 28) (N := some 100) (v := ?_) (a' := ?_) #[true, true, true, true, true, true, true, true, true, true, true, true, true, true, true, true, true, true, true, true, true, true, true, true, true, true, true, true, true, false, false, false, false, false] rfl rfl (any_of HT_.out (by kernel_rfl)) (fun _ _ _ h => h) (Or.inl ⟨by rfl, ?_⟩) ?_ ?_
              rotate_left
              · intro w'
                go_simp
                with_reducible rfl
              rotate_left
              · simp only [Act.put, List.setIfInBounds_toArray, List.set_cons_zero, List.set_cons_succ, i64_w, i32_w]
                rfl
              refine pure_ (i := 29) (N := some 101) (v := ?_) (a' := ?_) #[true, true, true, true, true, true, true, true, true, true, true, true, true, true, true, true, true, true, true, true, true, true, true, true, true, true, true, true, true, true, false, false, false, false] rfl rfl (any_of HT_.out (by kernel_rfl)) (fun _ _ _ h => h) (Or.inl ⟨by rfl, ?_⟩) ?_ ?_
              rotate_left
              · intro w'
                go_simp
                with_reducible rfl
              rotate_left
              · simp only [Act.put, List.setIfInBounds_toArray, List.set_cons_zero, List.set_cons_succ, i64_w, i32_w]
                rfl
              refine take_ (i := 30) (N := some 102) (v := ?_) (a' := ?_) #[true, true, true, true, true, true, true, true, true, true, true, true, true, true, true, true, true, true, true, true, true, true, true, true, true, true, true, true, true, true, true, false, false, false] rfl rfl (take_ofW HT_.out HW_.out (by kernel_rfl)) (fun _ _ _ h => h) (Or.inl ⟨by rfl, ?_⟩) hHeld ?_ ?_
              rotate_left
              · intro w' hS
                have h_ := (hS.cell (World.block_lt_of_cell? _ _ HCC.out)).trans HCC.out
                go_simp
                with_reducible rfl
              rotate_left
              · simp only [Act.put, List.setIfInBounds_toArray, List.set_cons_zero, List.set_cons_succ, i64_w, i32_w]
                rfl
              refine take_ (i := 31) (N := some 103) (v := ?_) (a' := ?_) #[true, true, true, true, true, true, true, true, true, true, true, true, true, true, true, true, true, true, true, true, true, true, true, true, true, true, true, true, true, true, true, true, false, false] rfl rfl (take_ofW HT_.out HW_.out (by kernel_rfl)) (fun _ _ _ h => h) (Or.inl ⟨by rfl, ?_⟩) hHeld ?_ ?_
              rotate_left
              · intro w' hS
                have h_ := Kd.C_string (P := Try.prog) (A := A2) (c := c2) Try.underlying22 Try.underlying5 Try.underlying9 (Kd.C_below HC2.out hS)
                go_simp
                with_reducible rfl
              rotate_left
              · simp only [Act.put, List.setIfInBounds_toArray, List.set_cons_zero, List.set_cons_succ, i64_w, i32_w]
                rfl
              refine pure_ (i := 32) (N := some 104) (v := ?_) (a' := ?_) #[true, true, true, true, true, true, true, true, true, true, true, true, true, true, true, true, true, true, true, true, true, true, true, true, true, true, true, true, true, true, true, true, true, false] rfl rfl (any_of HT_.out (by kernel_rfl)) (fun _ _ _ h => h) (Or.inl ⟨by rfl, ?_⟩) ?_ ?_
              rotate_left
              · intro w'
                go_simp
                with_reducible rfl
              rotate_left
              · simp only [Act.put, List.setIfInBounds_toArray, List.set_cons_zero, List.set_cons_succ, i64_w, i32_w]
                rfl
              refine pure_ (i := 33) (N := some 105) (v := ?_) (a' := ?_) #[true, true, true, true, true, true, true, true, true, true, true, true, true, true, true, true, true, true, true, true, true, true, true, true, true, true, true, true, true, true, true, true, true, true] rfl rfl (any_of HT_.out (by kernel_rfl)) (fun _ _ _ h => h) (Or.inl ⟨by rfl, ?_⟩) ?_ ?_
              rotate_left
              · intro w'
                go_simp
                with_reducible rfl
              rotate_left
              · simp only [Act.put, List.setIfInBounds_toArray, List.set_cons_zero, List.set_cons_succ, i64_w, i32_w]
                rfl
              refine done_ (done_of HT_.out (by kernel_rfl)) ?_
              clear hw1 hw2
              go_wp2
              go_roundg (i - 1 - j)
              case measure => have := HJ.out; have := HK2.out; omega
              case rel => exact ⟨j + 1, by go_num, ⟨by have := HK2.out; omega, by omega⟩, ⟨below_drew1 HB7.out⟩⟩
            · have hji : j = i := by have := HJ.out; omega
              subst hji
              have hEl : E.length = j := HEL.out
              have hjE : ¬ j < E.length := by omega
              have d3 : decide ((j : Int) < (E.length : Int)) = false := decide_eq_false (by omega)
              obtain ⟨k, hk, hkl⟩ : ∃ k : Nat, Int.tmod (Go.bits .and .i64 a1 255) (E.length : Int) = (k : Int) ∧ k < E.length := by
                have e := and_low a1 8 (by omega)
                rw [show ((2 ^ 8 - 1 : Nat) : Int) = 255 from rfl, show ((2 ^ 8 : Nat) : Int) = 256 from rfl] at e
                rw [e, Int.tmod_eq_emod_of_nonneg (by omega)]
                have h1 := Int.emod_nonneg (a1 % 256) (b := (E.length : Int)) (by omega)
                have h2 := Int.emod_lt_of_pos (a1 % 256) (b := (E.length : Int)) (by omega)
                exact ⟨((a1 % 256) % (E.length : Int)).toNat, by omega, by omega⟩
              have hkj : k < j := by omega
              have HKJ := Aside0.mk hkj
              have hkL : k < L.length := by have := HIL.out; omega
              have hkB : k < B.length := by rw [HRL.out]; exact hkj
              have HB9 := Aside0.mk (below_step HB.out HB7.out)
              -- the place of record k, what stands ahead of it and behind
              have hce := head_cell (Kd.C_below HEC.out.2 HB7.out) k hkl
              rw [HEA.out k hkj] at hce
              have hBk := HGE.out k hkB
              have hsp : C = catL (recsOf (fun j => (j : Int) * 25 + 1) L k) ++ recL ((k : Int) * 25 + 1) (rd_L1 L (k : Int)) ++ catL (B.drop (k + 1)) := by
                rw [← HCE.out, HRT.out k (by omega)]
                conv => lhs; rw [← List.take_append_drop k B]
                rw [catL_append, List.drop_eq_getElem_cons hkB, catL_cons, hBk, List.append_assoc]
              have hsp2 : C = catL (recsOf (fun j => (j : Int) * 25 + 1) L k) ++ catL (B.drop k) := by
                rw [← HCE.out, HRT.out k (by omega), ← catL_append, List.take_append_drop]
              have hyk := HLE2.out k hkj
              have hyB : isB (rd_L1 L (k : Int)) := by
                unfold rd_L1
                rw [Int.toNat_natCast, List.getD_eq_getElem?_getD, List.getElem?_eq_getElem hkL]
                exact HBL.out _ (List.getElem_mem _)
              have hj10' : j ≤ 10 := HI10.out
              have htk := take_rec (l := catL (recsOf (fun j => (j : Int) * 25 + 1) L k)) (r := catL (B.drop (k + 1))) (kind := (k : Int) * 25 + 1) hyB (by omega) (by omega) (by omega)
              rw [← hsp] at htk
              have hdr : C.drop (catL (recsOf (fun j => (j : Int) * 25 + 1) L k)).length = catL (B.drop k) := by rw [hsp2, List.drop_left]
              have hqC : (catL (recsOf (fun j => (j : Int) * 25 + 1) L k)).length ≤ C.length := by
                have := congrArg List.length hsp2
                rw [List.length_append] at this
                omega
              have hfit2 := fit_all (HOK.out.drop k) [] (.inl rfl)
              rw [List.append_nil] at hfit2
              have hdl : (B.drop k).length = j - k := by rw [List.length_drop, HRL.out]
              have hft2 : ftold (catL (B.drop k)) 100 = placesL 0 (B.drop k) := by
                unfold ftold
                rw [hfit2, List.take_of_length_le]
                rw [placesL_length, hdl]
                have : (100 : Int).toNat = 100 := rfl
                omega
              have hpl2 := placesL_length 0 (B.drop k)
              rw [hdl] at hpl2
              have hps2 := placesL_say 0 (B.drop k)
              have hp0 : rd ((placesL 0 (B.drop k)).map (·.1)) 0 = 0 := by
                have h1 := placesL_getD (B.drop k) 0 0 (by rw [hdl]; omega)
                unfold rd
                rw [show (0 : Int).toNat = 0 from rfl, h1]
                simp [catL]
              have hb0 : (B.drop k)[0]? = some ((k : Int) * 25 + 1, rd_L1 L (k : Int)) := by
                rw [List.getElem?_drop, Nat.add_zero, List.getElem?_eq_getElem hkB, hBk]
              have hdB : isB (catL (B.drop k)) := catL_isB (HOK.out.drop k)
              obtain ⟨q, eq⟩ : ∃ q, (catL (recsOf (fun j => (j : Int) * 25 + 1) L k)).length = q := ⟨_, rfl⟩
              obtain ⟨y, ey⟩ : ∃ y, rd_L1 L (k : Int) = y := ⟨_, rfl⟩
              obtain ⟨D, eD⟩ : ∃ D, B.drop k = D := ⟨_, rfl⟩
              obtain ⟨T2, eT2⟩ : ∃ T2, placesL 0 D = T2 := ⟨_, rfl⟩
              rw [eq] at hce htk hdr hqC
              rw [ey] at htk hyk hb0
              rw [eD] at hdr hdl hft2 hpl2 hps2 hp0 hb0 hdB
              rw [eT2] at hft2 hpl2 hps2 hp0
              obtain ⟨X, eX⟩ : ∃ X, catL D = X := ⟨_, rfl⟩
              rw [eX] at hdr hft2 hdB
              obtain ⟨i0, hi0, _, hsz0, _⟩ := info_parts hinfo_u8
              obtain ⟨A8, hsl, hsA, hsC⟩ := print_drop_of (P := Try.prog) (Value.int .u8) 0 22 5 .i64 Try.underlying22 hi0 hsz0 Ab cb C (q : Int) (by omega) (by omega) HVC.out.1
              have hRx := Kd.C_of_reads (h1 := fun _ => rfl) (hsA _ (Kd.reads_of_C (Kd.C_below HVC.out.2 HB7.out)))
              rw [Int.toNat_natCast, hdr] at hsl hRx hsC
              have HRX : Aside0 (Kd.C (Kd.int .u8) wr A8 X.length X) := ⟨hRx⟩
              have hXl : X.length ≤ 3120 := by have := HCL.out; rw [← hdr, List.length_drop]; omega
              have htold2 := fun (w' : World) (hw : Kd.C (Kd.int .u8) w' A8 X.length X) => ftold2_calls A8 (cb - q) X 100 w' hw hsC hdB (by omega)
              rw [hft2] at htold2
              have HTOLD2 := Aside0.mk htold2
              have hto : takeO C (q : Int) = some ((k : Int) * 25 + 1, y, (q : Int) + 12 + y.length, 0) := by
                unfold takeO
                rw [if_pos ⟨HCB.out, by have := HCL.out; omega⟩, htk]
              have HTO := Aside0.mk hto
              have HVC9 := Aside0.mk (And.intro HVC.out.1 (Kd.C_below HVC.out.2 HB7.out))
              have HEC9 := Aside0.mk (And.intro HEC.out.1 (Kd.C_below HEC.out.2 HB7.out))
              have HPL2 := Aside0.mk hpl2
              have HPS2 := Aside0.mk hps2
              have HP0 := Aside0.mk hp0
              have HB0' := Aside0.mk hb0
              have HY3 := Aside0.mk hyk
              have HDL := Aside0.mk hdl
              have HEY := Aside0.mk ey
              have HEQ := Aside0.mk eq
              have HQC := Aside0.mk hqC
              have hsz : frame_Size.f (y.length : Int) = some ((y.length : Int) + 12) := by
                unfold frame_Size.f mx
                rw [if_neg (by omega), w64 (by omega) (by omega), Int.add_comm]
              have HSZ := Aside0.mk hsz
              have HEAk := Aside0.mk (HEA.out k hkj)
              clear HVC HEC HB htold2 hto hpl2 hps2 hp0 hb0 hyk hdl ey eq eD eT2 eX hi0 hsz0 hsA hRx hsC hft2 hfit2 hsp hsp2 hyB htk hdr hBk hdB hsz hXl k2 hqC hEl
              have HB := HB9
              clear HB9
              have HKL := Aside0.mk hkl
              go_wp2_with (first | ((with_reducible refine gate_callee (f := 17) rfl ?_); refine goesL_ (some 122) rfl rfl Try.func17 (by kernel_rfl) rfl #[.slice A8 X.length (cb - q), .int .i64 100] rfl (by (try simp only [List.map_toArray, List.map_cons, List.map_nil]); first | done | rfl) ?_; refine (HTOLD2.out _ HRX.out).mono ?_; rintro e w8 ⟨v8, A9, c9, rfl, ho, hle9, hC9, hg9, hb⟩; refine ⟨_, rfl, ?_⟩; obtain ⟨gp2, cp2, rfl, _, _, _, _⟩ := Kd.R_form ho (by rw [List.length_map, HPL2.out]; have := HKJ.out; omega); obtain ⟨gl2, rfl⟩ := hg9 (by rw [HPL2.out]; have := HKJ.out; omega); have HP2 := Aside0.mk (Kd.R_reads' ho).2.2; have HLR2 := Aside0.mk hC9; have n0_ := Aside0.mk (And.intro HVC9.out.1 (Kd.C_below HVC9.out.2 hb)); have n2_ := Aside0.mk (And.intro HEC9.out.1 (Kd.C_below HEC9.out.2 hb)); clear HVC9 HEC9 ho hC9 hle9; have HVC9 := n0_; have HEC9 := n2_; clear n0_ n2_; have n1_ := Aside0.mk (below_step HB.out hb); clear HB hb; have HB := n1_; clear n1_; have hce9 := head_cell HEC9.out.2 k HKL.out; rw [HEAk.out, HEQ.out] at hce9) | ((with_reducible refine gate_callee (f := 13) rfl ?_); refine goesL_ (some 131) rfl rfl Try.func13 (by kernel_rfl) rfl #[.slice Ab C.length cb, .int .i64 (q : Int)] rfl (by (try simp only [List.map_toArray, List.map_cons, List.map_nil]); first | done | rfl) ?_; refine (take_calls _ _ C _ _ _ _ _ _ HVC9.out.2 HVC9.out.1 HTO.out).mono ?_; rintro e w10 ⟨v10, rfl, hv, hb⟩; refine ⟨_, rfl, ?_⟩; obtain ⟨A10, c10, rfl, hle10, hF10⟩ := hv; have HBX := Aside0.mk (blk_new w10 (.cells #[.int .i64 ((k : Int) * 25 + 1), .slice A10 y.length c10] 29)); have HP3 := Aside0.mk (Kd.C_alloc (Kd.C_below HP2.out hb) (.cells #[.int .i64 ((k : Int) * 25 + 1), .slice A10 y.length c10] 29)); have HLR3 := Aside0.mk (Kd.C_alloc (Kd.C_below HLR2.out hb) (.cells #[.int .i64 ((k : Int) * 25 + 1), .slice A10 y.length c10] 29)); have HEC3 := Aside0.mk (Kd.C_alloc (Kd.C_below HEC9.out.2 hb) (.cells #[.int .i64 ((k : Int) * 25 + 1), .slice A10 y.length c10] 29)); have n1_ := Aside0.mk (below_alloc (below_step HB.out hb) (.cells #[.int .i64 ((k : Int) * 25 + 1), .slice A10 y.length c10] 29)); clear HB HP2 HLR2 hF10 hb; have HB := n1_; clear n1_))
              have hlk : T2.length = E.length - k := by rw [HPL2.out, HEL.out]
              have hlq : (T2.length : Int) = (E.length : Int) - (k : Int) := by have := HKL.out; omega
              have hl1 : ((T2.length : Int) == wrap64 ((E.length : Int) - (k : Int))) = true := by rw [w64 (by omega) (by omega)]; exact beq_iff_eq.mpr hlq
              have hl2 : ((T2.length : Int) == (E.length : Int) - (k : Int)) = true := beq_iff_eq.mpr hlq
              have hws : wrap64 ((q : Int) + ((y.length : Int) + 12)) = (q : Int) + 12 + (y.length : Int) := by
                have := HQC.out
                have := HCL.out
                have := HY3.out
                rw [w64 (by omega) (by omega)]
                omega
              have hTp : 0 < T2.length := by have := HKL.out; omega
              have HTP := Aside0.mk hTp
              have HD0 : ∃ h : 0 < D.length, D[0] = ((k : Int) * 25 + 1, y) := List.getElem?_eq_some_iff.1 HB0'.out
              rw [HPS2.out] at HLR3
              obtain ⟨ad, Ay, cy, hA, hcy, hley, hCy⟩ := at_L1 HR0.out (k : Int) (by omega) (by have := HKJ.out; have := HIL.out; omega)
              subst hA
              rw [Int.toNat_natCast, HEY.out] at hcy
              have HCY := Aside0.mk hcy
              have HDD := Aside0.mk HD0
              clear hlk hlq hcy hley hCy HD0
              refine start_ (n := 52) (S := fun w' => Below (w10.alloc (.cells #[.int .i64 ((k : Int) * 25 + 1), .slice A10 y.length c10] 29)).heap.size (w10.alloc (.cells #[.int .i64 ((k : Int) * 25 + 1), .slice A10 y.length c10] 29)) w') (ds := []) #[false, false, false, false, false, false, false, false, false, false, false, false, false, false, false, false, false, false, false, false, false, false, false, false, false, false, false, false, false, false, false, false, false, false, false, false, false, false, false, false, false, false, false, false, false, false, false, false, false, false, false, false] (by kernel_rfl) rfl rfl (below_drew1 (Below.refl _ _)) (fun hHeld => ?_)
              refine with_tabW rows.tab26 rows.bits26 (fun HT_ HW_ => ?_)
              refine pure_ (i := 0) (N := some 135) (v := ?_) (a' := ?_) #[true, false, false, false, false, false, false, false, false, false, false, false, false, false, false, false, false, false, false, false, false, false, false, false, false, false, false, false, false, false, false, false, false, false, false, false, false, false, false, false, false, false, false, false, false, false, false, false, false, false, false, false] rfl rfl (any_of HT_.out (by kernel_rfl)) (fun _ _ _ h => h) (Or.inl ⟨by rfl, ?_⟩) ?_ ?_
              rotate_left
              · intro w'
                go_simp
                with_reducible rfl
              rotate_left
              · simp only [Act.put, List.setIfInBounds_toArray, List.set_cons_zero, List.set_cons_succ, i64_w, i32_w]
                rfl
              refine pure_ (i := 1) (N := some 136) (v := ?_) (a' := ?_) #[true, true, false, false, false, false, false, false, false, false, false, false, false, false, false, false, false, false, false, false, false, false, false, false, false, false, false, false, false, false, false, false, false, false, false, false, false, false, false, false, false, false, false, false, false, false, false, false, false, false, false, false] rfl rfl (any_of HT_.out (by kernel_rfl)) (fun _ _ _ h => h) (Or.inl ⟨by rfl, ?_⟩) ?_ ?_
              rotate_left
              · intro w'
                go_simp
                with_reducible rfl
              rotate_left
              · simp only [Act.put, List.setIfInBounds_toArray, List.set_cons_zero, List.set_cons_succ, i64_w, i32_w]
                rfl
              refine pure_ (i := 2) (N := some 137) (v := ?_) (a' := ?_) #[true, true, true, false, false, false, false, false, false, false, false, false, false, false, false, false, false, false, false, false, false, false, false, false, false, false, false, false, false, false, false, false, false, false, false, false, false, false, false, false, false, false, false, false, false, false, false, false, false, false, false, false] rfl rfl (any_of HT_.out (by kernel_rfl)) (fun _ _ _ h => h) (Or.inl ⟨by rfl, ?_⟩) ?_ ?_
              rotate_left
              · intro w'
                go_simp
                with_reducible rfl
              rotate_left
              · simp only [Act.put, List.setIfInBounds_toArray, List.set_cons_zero, List.set_cons_succ, i64_w, i32_w]
                rfl
              refine pure_ (i := 3) (N := some 138) (v := ?_) (a' := ?_) #[true, true, true, true, false, false, false, false, false, false, false, false, false, false, false, false, false, false, false, false, false, false, false, false, false, false, false, false, false, false, false, false, false, false, false, false, false, false, false, false, false, false, false, false, false, false, false, false, false, false, false, false] rfl rfl (any_of HT_.out (by kernel_rfl)) (fun _ _ _ h => h) (Or.inl ⟨by rfl, ?_⟩) ?_ ?_
              rotate_left
              · intro w'
                go_simp
                with_reducible rfl
              rotate_left
              · simp only [Act.put, List.setIfInBounds_toArray, List.set_cons_zero, List.set_cons_succ, i64_w, i32_w]
                rfl
              refine pure_ (i := 4) (N := some 139) (v := ?_) (a' := ?_) #[true, true, true, true, true, false, false, false, false, false, false, false, false, false, false, false, false, false, false, false, false, false, false, false, false, false, false, false, false, false, false, false, false, false, false, false, false, false, false, false, false, false, false, false, false, false, false, false, false, false, false, false] rfl rfl (any_of HT_.out (by kernel_rfl)) (fun _ _ _ h => h) (Or.inl ⟨by rfl, ?_⟩) ?_ ?_
              rotate_left
              · intro w'
                go_simp
                with_reducible rfl
              rotate_left
              · simp only [Act.put, List.setIfInBounds_toArray, List.set_cons_zero, List.set_cons_succ, i64_w, i32_w]
                rfl
              refine pure_ (i := 5) (N := some 140) (v := ?_) (a' := ?_) #[true, true, true, true, true, true, false, false, false, false, false, false, false, false, false, false, false, false, false, false, false, false, false, false, false, false, false, false, false, false, false, false, false, false, false, false, false, false, false, false, false, false, false, false, false, false, false, false, false, false, false, false] rfl rfl (any_of HT_.out (by kernel_rfl)) (fun _ _ _ h => h) (Or.inl ⟨by rfl, ?_⟩) ?_ ?_
              rotate_left
              · intro w'
                go_simp
                with_reducible rfl
              rotate_left
              · simp only [Act.put, List.setIfInBounds_toArray, List.set_cons_zero, List.set_cons_succ, i64_w, i32_w]
                rfl
              refine pure_ (i := 6) (N := some 141) (v := ?_) (a' := ?_) #[true, true, true, true, true, true, true, false, false, false, false, false, false, false, false, false, false, false, false, false, false, false, false, false, false, false, false, false, false, false, false, false, false, false, false, false, false, false, false, false, false, false, false, false, false, false, false, false, false, false, false, false] rfl rfl (any_of HT_.out (by kernel_rfl)) (fun _ _ _ h => h) (Or.inl ⟨by rfl, ?_⟩) ?_ ?_
              rotate_left
              · intro w'
                go_simp
                with_reducible rfl
              rotate_left
              · simp only [Act.put, List.setIfInBounds_toArray, List.set_cons_zero, List.set_cons_succ, i64_w, i32_w]
                rfl
              refine pure_ (i := 7) (N := some 142) (v := ?_) (a' := ?_) #[true, true, true, true, true, true, true, true, false, false, false, false, false, false, false, false, false, false, false, false, false, false, false, false, false, false, false, false, false, false, false, false, false, false, false, false, false, false, false, false, false, false, false, false, false, false, false, false, false, false, false, false] rfl rfl (any_of HT_.out (by kernel_rfl)) (fun _ _ _ h => h) (Or.inl ⟨by rfl, ?_⟩) ?_ ?_
              rotate_left
              · intro w'
                go_simp
                with_reducible rfl
              rotate_left
              · simp only [Act.put, List.setIfInBounds_toArray, List.set_cons_zero, List.set_cons_succ, i64_w, i32_w]
                rfl
              refine pure_ (i := 8) (N := some 143) (v := ?_) (a' := ?_) #[true, true, true, true, true, true, true, true, true, false, false, false, false, false, false, false, false, false, false, false, false, false, false, false, false, false, false, false, false, false, false, false, false, false, false, false, false, false, false, false, false, false, false, false, false, false, false, false, false, false, false, false] rfl rfl (any_of HT_.out (by kernel_rfl)) (fun _ _ _ h => h) (Or.inl ⟨by rfl, ?_⟩) ?_ ?_
              rotate_left
              · intro w'
                go_simp
                with_reducible rfl
              rotate_left
              · simp only [Act.put, List.setIfInBounds_toArray, List.set_cons_zero, List.set_cons_succ, i64_w, i32_w]
                rfl
              refine pure_ (i := 9) (N := some 144) (v := ?_) (a' := ?_) #[true, true, true, true, true, true, true, true, true, true, false, false, false, false, false, false, false, false, false, false, false, false, false, false, false, false, false, false, false, false, false, false, false, false, false, false, false, false, false, false, false, false, false, false, false, false, false, false, false, false, false, false] rfl rfl (any_of HT_.out (by kernel_rfl)) (fun _ _ _ h => h) (Or.inl ⟨by rfl, ?_⟩) ?_ ?_
              rotate_left
              · intro w'
                go_simp
                with_reducible rfl
              rotate_left
              · simp only [Act.put, List.setIfInBounds_toArray, List.set_cons_zero, List.set_cons_succ, i64_w, i32_w]
                rfl
              refine pure_ (i := 10) (N := some 145) (v := ?_) (a' := ?_) #[true, true, true, true, true, true, true, true, true, true, true, false, false, false, false, false, false, false, false, false, false, false, false, false, false, false, false, false, false, false, false, false, false, false, false, false, false, false, false, false, false, false, false, false, false, false, false, false, false, false, false, false] rfl rfl (any_of HT_.out (by kernel_rfl)) (fun _ _ _ h => h) (Or.inl ⟨by rfl, ?_⟩) ?_ ?_
              rotate_left
              · intro w'
                go_simp
                with_reducible rfl
              rotate_left
              · simp only [Act.put, List.setIfInBounds_toArray, List.set_cons_zero, List.set_cons_succ, i64_w, i32_w]
                rfl
              refine pure_ (i := 11) (N := some 146) (v := ?_) (a' := ?_) #[true, true, true, true, true, true, true, true, true, true, true, true, false, false, false, false, false, false, false, false, false, false, false, false, false, false, false, false, false, false, false, false, false, false, false, false, false, false, false, false, false, false, false, false, false, false, false, false, false, false, false, false] rfl rfl (any_of HT_.out (by kernel_rfl)) (fun _ _ _ h => h) (Or.inl ⟨by rfl, ?_⟩) ?_ ?_
              rotate_left
              · intro w'
                go_simp
                with_reducible rfl
              rotate_left
              · simp only [Act.put, List.setIfInBounds_toArray, List.set_cons_zero, List.set_cons_succ, i64_w, i32_w]
                rfl
              refine pure_ (i := 12) (N := some 147) (v := ?_) (a' := ?_) #[true, true, true, true, true, true, true, true, true, true, true, true, true, false, false, false, false, false, false, false, false, false, false, false, false, false, false, false, false, false, false, false, false, false, false, false, false, false, false, false, false, false, false, false, false, false, false, false, false, false, false, false] rfl rfl (any_of HT_.out (by kernel_rfl)) (fun _ _ _ h => h) (Or.inl ⟨by rfl, ?_⟩) ?_ ?_
              rotate_left
              · intro w'
                go_simp
                with_reducible rfl
              rotate_left
              · simp only [Act.put, List.setIfInBounds_toArray, List.set_cons_zero, List.set_cons_succ, i64_w, i32_w]
                rfl
              refine pure_ (i := 13) (N := some 148) (v := ?_) (a' := ?_) #[true, true, true, true, true, true, true, true, true, true, true, true, true, true, false, false, false, false, false, false, false, false, false, false, false, false, false, false, false, false, false, false, false, false, false, false, false, false, false, false, false, false, false, false, false, false, false, false, false, false, false, false] rfl rfl (any_of HT_.out (by kernel_rfl)) (fun _ _ _ h => h) (Or.inl ⟨by rfl, ?_⟩) ?_ ?_
              rotate_left
              · intro w'
                go_simp
                with_reducible rfl
              rotate_left
              · simp only [Act.put, List.setIfInBounds_toArray, List.set_cons_zero, List.set_cons_succ, i64_w, i32_w]
                rfl
              refine pure_ (i := 14) (N := some 149) (v := ?_) (a' := ?_) #[true, true, true, true, true, true, true, true, true, true, true, true, true, true, true, false, false, false, false, false, false, false, false, false, false, false, false, false, false, false, false, false, false, false, false, false, false, false, false, false, false, false, false, false, false, false, false, false, false, false, false, false] rfl rfl (any_of HT_.out (by kernel_rfl)) (fun _ _ _ h => h) (Or.inl ⟨by rfl, ?_⟩) ?_ ?_
              rotate_left
              · intro w'
                go_simp
                with_reducible rfl
              rotate_left
              · simp only [Act.put, List.setIfInBounds_toArray, List.set_cons_zero, List.set_cons_succ, i64_w, i32_w]
                rfl
              refine pure_ (i := 15) (N := some 150) (v := ?_) (a' := ?_) #[true, true, true, true, true, true, true, true, true, true, true, true, true, true, true, true, false, false, false, false, false, false, false, false, false, false, false, false, false, false, false, false, false, false, false, false, false, false, false, false, false, false, false, false, false, false, false, false, false, false, false, false] rfl rfl (any_of HT_.out (by kernel_rfl)) (fun _ _ _ h => h) (Or.inl ⟨by rfl, ?_⟩) ?_ ?_
              rotate_left
              · intro w'
                go_simp
                with_reducible rfl
              rotate_left
              · simp only [Act.put, List.setIfInBounds_toArray, List.set_cons_zero, List.set_cons_succ, i64_w, i32_w]
                rfl
              refine pure_ (i := 16) (N := some 151) (v := ?_) (a' := ?_) #[true, true, true, true, true, true, true, true, true, true, true, true, true, true, true, true, true, false, false, false, false, false, false, false, false, false, false, false, false, false, false, false, false, false, false, false, false, false, false, false, false, false, false, false, false, false, false, false, false, false, false, false] rfl rfl (any_of HT_.out (by kernel_rfl)) (fun _ _ _ h => h) (Or.inl ⟨by rfl, ?_⟩) ?_ ?_
              rotate_left
              · intro w'
                go_simp
                with_reducible rfl
              rotate_left
              · simp only [Act.put, List.setIfInBounds_toArray, List.set_cons_zero, List.set_cons_succ, i64_w, i32_w]
                rfl
              refine take_ (i := 17) (N := some 152) (v := ?_) (a' := ?_) #[true, true, true, true, true, true, true, true, true, true, true, true, true, true, true, true, true, true, false, false, false, false, false, false, false, false, false, false, false, false, false, false, false, false, false, false, false, false, false, false, false, false, false, false, false, false, false, false, false, false, false, false] rfl rfl (take_ofW HT_.out HW_.out (by kernel_rfl)) (fun _ _ _ h => h) (Or.inl ⟨by rfl, ?_⟩) hHeld ?_ ?_
              rotate_left
              · intro w' hS
                have h_ := head_cell (Kd.C_below HP3.out hS) 0 (by rw [List.length_map]; exact HTP.out)
                rw [show ((0 : Nat) : Int) = 0 from rfl, HP0.out] at h_
                go_simp
                with_reducible rfl
              rotate_left
              · simp only [Act.put, List.setIfInBounds_toArray, List.set_cons_zero, List.set_cons_succ, i64_w, i32_w]
                rfl
              refine pure_ (i := 18) (N := some 153) (v := ?_) (a' := ?_) #[true, true, true, true, true, true, true, true, true, true, true, true, true, true, true, true, true, true, true, false, false, false, false, false, false, false, false, false, false, false, false, false, false, false, false, false, false, false, false, false, false, false, false, false, false, false, false, false, false, false, false, false] rfl rfl (any_of HT_.out (by kernel_rfl)) (fun _ _ _ h => h) (Or.inl ⟨by rfl, ?_⟩) ?_ ?_
              rotate_left
              · intro w'
                go_simp
                with_reducible rfl
              rotate_left
              · simp only [Act.put, List.setIfInBounds_toArray, List.set_cons_zero, List.set_cons_succ, i64_w, i32_w]
                rfl
              refine pure_ (i := 19) (N := some 154) (v := ?_) (a' := ?_) #[true, true, true, true, true, true, true, true, true, true, true, true, true, true, true, true, true, true, true, true, false, false, false, false, false, false, false, false, false, false, false, false, false, false, false, false, false, false, false, false, false, false, false, false, false, false, false, false, false, false, false, false] rfl rfl (any_of HT_.out (by kernel_rfl)) (fun _ _ _ h => h) (Or.inl ⟨by rfl, ?_⟩) ?_ ?_
              rotate_left
              · intro w'
                go_simp
                with_reducible rfl
              rotate_left
              · simp only [Act.put, List.setIfInBounds_toArray, List.set_cons_zero, List.set_cons_succ, i64_w, i32_w]
                rfl
              refine pure_ (i := 20) (N := some 155) (v := ?_) (a' := ?_) #[true, true, true, true, true, true, true, true, true, true, true, true, true, true, true, true, true, true, true, true, true, false, false, false, false, false, false, false, false, false, false, false, false, false, false, false, false, false, false, false, false, false, false, false, false, false, false, false, false, false, false, false] rfl rfl (any_of HT_.out (by kernel_rfl)) (fun _ _ _ h => h) (Or.inl ⟨by rfl, ?_⟩) ?_ ?_
              rotate_left
              · intro w'
                go_simp
                with_reducible rfl
              rotate_left
              · simp only [Act.put, List.setIfInBounds_toArray, List.set_cons_zero, List.set_cons_succ, i64_w, i32_w]
                rfl
              refine pure_ (i := 21) (N := some 156) (v := ?_) (a' := ?_) #[true, true, true, true, true, true, true, true, true, true, true, true, true, true, true, true, true, true, true, true, true, true, false, false, false, false, false, false, false, false, false, false, false, false, false, false, false, false, false, false, false, false, false, false, false, false, false, false, false, false, false, false] rfl rfl (any_of HT_.out (by kernel_rfl)) (fun _ _ _ h => h) (Or.inl ⟨by rfl, ?_⟩) ?_ ?_
              rotate_left
              · intro w'
                go_simp
                with_reducible rfl
              rotate_left
              · simp only [Act.put, List.setIfInBounds_toArray, List.set_cons_zero, List.set_cons_succ, i64_w, i32_w]
                rfl
              refine pure_ (i := 22) (N := some 157) (v := ?_) (a' := ?_) #[true, true, true, true, true, true, true, true, true, true, true, true, true, true, true, true, true, true, true, true, true, true, true, false, false, false, false, false, false, false, false, false, false, false, false, false, false, false, false, false, false, false, false, false, false, false, false, false, false, false, false, false] rfl rfl (any_of HT_.out (by kernel_rfl)) (fun _ _ _ h => h) (Or.inl ⟨by rfl, ?_⟩) ?_ ?_
              rotate_left
              · intro w'
                go_simp
                with_reducible rfl
              rotate_left
              · simp only [Act.put, List.setIfInBounds_toArray, List.set_cons_zero, List.set_cons_succ, i64_w, i32_w]
                rfl
              refine pure_ (i := 23) (N := some 158) (v := ?_) (a' := ?_) #[true, true, true, true, true, true, true, true, true, true, true, true, true, true, true, true, true, true, true, true, true, true, true, true, false, false, false, false, false, false, false, false, false, false, false, false, false, false, false, false, false, false, false, false, false, false, false, false, false, false, false, false] rfl rfl (any_of HT_.out (by kernel_rfl)) (fun _ _ _ h => h) (Or.inl ⟨by rfl, ?_⟩) ?_ ?_
              rotate_left
              · intro w'
                go_simp
                with_reducible rfl
              rotate_left
              · simp only [Act.put, List.setIfInBounds_toArray, List.set_cons_zero, List.set_cons_succ, i64_w, i32_w]
                rfl
              refine pure_ (i := 24) (N := some 159) (v := ?_) (a' := ?_) #[true, true, true, true, true, true, true, true, true, true, true, true, true, true, true, true, true, true, true, true, true, true, true, true, true, false, false, false, false, false, false, false, false, false, false, false, false, false, false, false, false, false, false, false, false, false, false, false, false, false, false, false] rfl rfl (any_of HT_.out (by kernel_rfl)) (fun _ _ _ h => h) (Or.inl ⟨by rfl, ?_⟩) ?_ ?_
              rotate_left
              · intro w'
                go_simp
                with_reducible rfl
              rotate_left
              · simp only [Act.put, List.setIfInBounds_toArray, List.set_cons_zero, List.set_cons_succ, i64_w, i32_w]
                rfl
              refine pure_ (i := 25) (N := some 160) (v := ?_) (a' := ?_) #[true, true, true, true, true, true, true, true, true, true, true, true, true, true, true, true, true, true, true, true, true, true, true, true, true, true, false, false, false, false, false, false, false, false, false, false, false, false, false, false, false, false, false, false, false, false, false, false, false, false, false, false] rfl rfl (any_of HT_.out (by kernel_rfl)) (fun _ _ _ h => h) (Or.inl ⟨by rfl, ?_⟩) ?_ ?_
              rotate_left
              · intro w'
                go_simp
                with_reducible rfl
              rotate_left
              · simp only [Act.put, List.setIfInBounds_toArray, List.set_cons_zero, List.set_cons_succ, i64_w, i32_w]
                rfl
              refine take_ (i := 26) (N := some 161) (v := ?_) (a' := ?_) #[true, true, true, true, true, true, true, true, true, true, true, true, true, true, true, true, true, true, true, true, true, true, true, true, true, true, true, false, false, false, false, false, false, false, false, false, false, false, false, false, false, false, false, false, false, false, false, false, false, false, false, false] rfl rfl (take_ofW HT_.out HW_.out (by kernel_rfl)) (fun _ _ _ h => h) (Or.inl ⟨by rfl, ?_⟩) hHeld ?_ ?_
              rotate_left
              · intro w' hS
                have hbk := blk_below HBX.out hS
                have hx0 := blk_cell hbk 0
                have hx1 := blk_cell hbk 1
                go_simp
                with_reducible rfl
              rotate_left
              · simp only [Act.put, List.setIfInBounds_toArray, List.set_cons_zero, List.set_cons_succ, i64_w, i32_w]
                rfl
              refine pure_ (i := 27) (N := some 162) (v := ?_) (a' := ?_) #[true, true, true, true, true, true, true, true, true, true, true, true, true, true, true, true, true, true, true, true, true, true, true, true, true, true, true, true, false, false, false, false, false, false, false, false, false, false, false, false, false, false, false, false, false, false, false, false, false, false, false, false] rfl rfl (any_of HT_.out (by kernel_rfl)) (fun _ _ _ h => h) (Or.inl ⟨by rfl, ?_⟩) ?_ ?_
              rotate_left
              · intro w'
                go_simp
                with_reducible rfl
              rotate_left
              · simp only [Act.put, List.setIfInBounds_toArray, List.set_cons_zero, List.set_cons_succ, i64_w, i32_w]
                rfl
              refine pure_ (i := 28) (N := some 163) (v := ?_) (a' := ?_) #[true, true, true, true, true, true, true, true, true, true, true, true, true, true, true, true, true, true, true, true, true, true, true, true, true, true, true, true, true, false, false, false, false, false, false, false, false, false, false, false, false, false, false, false, false, false, false, false, false, false, false, false] rfl rfl (any_of HT_.out (by kernel_rfl)) (fun _ _ _ h => h) (Or.inl ⟨by rfl, ?_⟩) ?_ ?_
              rotate_left
              · intro w'
                go_simp
                with_reducible rfl
              rotate_left
              · simp only [Act.put, List.setIfInBounds_toArray, List.set_cons_zero, List.set_cons_succ, i64_w, i32_w]
                rfl
              refine pure_ (i := 29) (N := some 164) (v := ?_) (a' := ?_) #[true, true, true, true, true, true, true, true, true, true, true, true, true, true, true, true, true, true, true, true, true, true, true, true, true, true, true, true, true, true, false, false, false, false, false, false, false, false, false, false, false, false, false, false, false, false, false, false, false, false, false, false] rfl rfl (any_of HT_.out (by kernel_rfl)) (fun _ _ _ h => h) (Or.inl ⟨by rfl, ?_⟩) ?_ ?_
              rotate_left
              · intro w'
                go_simp
                with_reducible rfl
              rotate_left
              · simp only [Act.put, List.setIfInBounds_toArray, List.set_cons_zero, List.set_cons_succ, i64_w, i32_w]
                rfl
              refine take_ (i := 30) (N := some 165) (v := ?_) (a' := ?_) #[true, true, true, true, true, true, true, true, true, true, true, true, true, true, true, true, true, true, true, true, true, true, true, true, true, true, true, true, true, true, true, false, false, false, false, false, false, false, false, false, false, false, false, false, false, false, false, false, false, false, false, false] rfl rfl (take_ofW HT_.out HW_.out (by kernel_rfl)) (fun _ _ _ h => h) (Or.inl ⟨by rfl, ?_⟩) hHeld ?_ ?_
              rotate_left
              · intro w' hS
                obtain ⟨hD, eD⟩ := HDD.out
                obtain ⟨Al, cl, hl0, _⟩ := frow_cells (Kd.C_below HLR3.out hS) 0 hD
                rw [eD] at hl0
                go_simp
                with_reducible rfl
              rotate_left
              · simp only [Act.put, List.setIfInBounds_toArray, List.set_cons_zero, List.set_cons_succ, i64_w, i32_w]
                rfl
              refine pure_ (i := 31) (N := some 166) (v := ?_) (a' := ?_) #[true, true, true, true, true, true, true, true, true, true, true, true, true, true, true, true, true, true, true, true, true, true, true, true, true, true, true, true, true, true, true, true, false, false, false, false, false, false, false, false, false, false, false, false, false, false, false, false, false, false, false, false] rfl rfl (any_of HT_.out (by kernel_rfl)) (fun _ _ _ h => h) (Or.inl ⟨by rfl, ?_⟩) ?_ ?_
              rotate_left
              · intro w'
                go_simp
                with_reducible rfl
              rotate_left
              · simp only [Act.put, List.setIfInBounds_toArray, List.set_cons_zero, List.set_cons_succ, i64_w, i32_w]
                rfl
              refine pure_ (i := 32) (N := some 167) (v := ?_) (a' := ?_) #[true, true, true, true, true, true, true, true, true, true, true, true, true, true, true, true, true, true, true, true, true, true, true, true, true, true, true, true, true, true, true, true, true, false, false, false, false, false, false, false, false, false, false, false, false, false, false, false, false, false, false, false] rfl rfl (any_of HT_.out (by kernel_rfl)) (fun _ _ _ h => h) (Or.inl ⟨by rfl, ?_⟩) ?_ ?_
              rotate_left
              · intro w'
                go_simp
                with_reducible rfl
              rotate_left
              · simp only [Act.put, List.setIfInBounds_toArray, List.set_cons_zero, List.set_cons_succ, i64_w, i32_w]
                rfl
              refine pure_ (i := 33) (N := some 168) (v := ?_) (a' := ?_) #[true, true, true, true, true, true, true, true, true, true, true, true, true, true, true, true, true, true, true, true, true, true, true, true, true, true, true, true, true, true, true, true, true, true, false, false, false, false, false, false, false, false, false, false, false, false, false, false, false, false, false, false] rfl rfl (any_of HT_.out (by kernel_rfl)) (fun _ _ _ h => h) (Or.inl ⟨by rfl, ?_⟩) ?_ ?_
              rotate_left
              · intro w'
                go_simp
                with_reducible rfl
              rotate_left
              · simp only [Act.put, List.setIfInBounds_toArray, List.set_cons_zero, List.set_cons_succ, i64_w, i32_w]
                rfl
              refine pure_ (i := 34) (N := some 169) (v := ?_) (a' := ?_) #[true, true, true, true, true, true, true, true, true, true, true, true, true, true, true, true, true, true, true, true, true, true, true, true, true, true, true, true, true, true, true, true, true, true, true, false, false, false, false, false, false, false, false, false, false, false, false, false, false, false, false, false] rfl rfl (any_of HT_.out (by kernel_rfl)) (fun _ _ _ h => h) (Or.inl ⟨by rfl, ?_⟩) ?_ ?_
              rotate_left
              · intro w'
                go_simp
                with_reducible rfl
              rotate_left
              · simp only [Act.put, List.setIfInBounds_toArray, List.set_cons_zero, List.set_cons_succ, i64_w, i32_w]
                rfl
              refine pure_ (i := 35) (N := some 170) (v := ?_) (a' := ?_) #[true, true, true, true, true, true, true, true, true, true, true, true, true, true, true, true, true, true, true, true, true, true, true, true, true, true, true, true, true, true, true, true, true, true, true, true, false, false, false, false, false, false, false, false, false, false, false, false, false, false, false, false] rfl rfl (any_of HT_.out (by kernel_rfl)) (fun _ _ _ h => h) (Or.inl ⟨by rfl, ?_⟩) ?_ ?_
              rotate_left
              · intro w'
                go_simp
                with_reducible rfl
              rotate_left
              · simp only [Act.put, List.setIfInBounds_toArray, List.set_cons_zero, List.set_cons_succ, i64_w, i32_w]
                rfl
              refine pure_ (i := 36) (N := some 171) (v := ?_) (a' := ?_) #[true, true, true, true, true, true, true, true, true, true, true, true, true, true, true, true, true, true, true, true, true, true, true, true, true, true, true, true, true, true, true, true, true, true, true, true, true, false, false, false, false, false, false, false, false, false, false, false, false, false, false, false] rfl rfl (any_of HT_.out (by kernel_rfl)) (fun _ _ _ h => h) (Or.inl ⟨by rfl, ?_⟩) ?_ ?_
              rotate_left
              · intro w'
                go_simp
                with_reducible rfl
              rotate_left
              · simp only [Act.put, List.setIfInBounds_toArray, List.set_cons_zero, List.set_cons_succ, i64_w, i32_w]
                rfl
              refine pure_ (i := 37) (N := some 172) (v := ?_) (a' := ?_) #[true, true, true, true, true, true, true, true, true, true, true, true, true, true, true, true, true, true, true, true, true, true, true, true, true, true, true, true, true, true, true, true, true, true, true, true, true, true, false, false, false, false, false, false, false, false, false, false, false, false, false, false] rfl rfl (any_of HT_.out (by kernel_rfl)) (fun _ _ _ h => h) (Or.inl ⟨by rfl, ?_⟩) ?_ ?_
              rotate_left
              · intro w'
                go_simp
                with_reducible rfl
              rotate_left
              · simp only [Act.put, List.setIfInBounds_toArray, List.set_cons_zero, List.set_cons_succ, i64_w, i32_w]
                rfl
              refine take_ (i := 38) (N := some 173) (v := ?_) (a' := ?_) #[true, true, true, true, true, true, true, true, true, true, true, true, true, true, true, true, true, true, true, true, true, true, true, true, true, true, true, true, true, true, true, true, true, true, true, true, true, true, true, false, false, false, false, false, false, false, false, false, false, false, false, false] rfl rfl (take_ofW HT_.out HW_.out (by kernel_rfl)) (fun _ _ _ h => h) (Or.inl ⟨by rfl, ?_⟩) hHeld ?_ ?_
              rotate_left
              · intro w' hS
                have h_ := head_cell (Kd.C_below HEC3.out hS) k HKL.out
                rw [HEAk.out, HEQ.out] at h_
                go_simp
                with_reducible rfl
              rotate_left
              · simp only [Act.put, List.setIfInBounds_toArray, List.set_cons_zero, List.set_cons_succ, i64_w, i32_w]
                rfl
              refine pure_ (i := 39) (N := some 174) (v := ?_) (a' := ?_) #[true, true, true, true, true, true, true, true, true, true, true, true, true, true, true, true, true, true, true, true, true, true, true, true, true, true, true, true, true, true, true, true, true, true, true, true, true, true, true, true, false, false, false, false, false, false, false, false, false, false, false, false] rfl rfl (any_of HT_.out (by kernel_rfl)) (fun _ _ _ h => h) (Or.inl ⟨by rfl, ?_⟩) ?_ ?_
              rotate_left
              · intro w'
                go_simp
                with_reducible rfl
              rotate_left
              · simp only [Act.put, List.setIfInBounds_toArray, List.set_cons_zero, List.set_cons_succ, i64_w, i32_w]
                rfl
              refine pure_ (i := 40) (N := some 175) (v := ?_) (a' := ?_) #[true, true, true, true, true, true, true, true, true, true, true, true, true, true, true, true, true, true, true, true, true, true, true, true, true, true, true, true, true, true, true, true, true, true, true, true, true, true, true, true, true, false, false, false, false, false, false, false, false, false, false, false] rfl rfl (any_of HT_.out (by kernel_rfl)) (fun _ _ _ h => h) (Or.inl ⟨by rfl, ?_⟩) ?_ ?_
              rotate_left
              · intro w'
                go_simp
                with_reducible rfl
              rotate_left
              · simp only [Act.put, List.setIfInBounds_toArray, List.set_cons_zero, List.set_cons_succ, i64_w, i32_w]
                rfl
              refine pure_ (i := 41) (N := some 176) (v := ?_) (a' := ?_) #[true, true, true, true, true, true, true, true, true, true, true, true, true, true, true, true, true, true, true, true, true, true, true, true, true, true, true, true, true, true, true, true, true, true, true, true, true, true, true, true, true, true, false, false, false, false, false, false, false, false, false, false] rfl rfl (any_of HT_.out (by kernel_rfl)) (fun _ _ _ h => h) (Or.inl ⟨by rfl, ?_⟩) ?_ ?_
              rotate_left
              · intro w'
                go_simp
                with_reducible rfl
              rotate_left
              · simp only [Act.put, List.setIfInBounds_toArray, List.set_cons_zero, List.set_cons_succ, i64_w, i32_w]
                rfl
              refine take_ (i := 42) (N := some 177) (v := ?_) (a' := ?_) #[true, true, true, true, true, true, true, true, true, true, true, true, true, true, true, true, true, true, true, true, true, true, true, true, true, true, true, true, true, true, true, true, true, true, true, true, true, true, true, true, true, true, true, false, false, false, false, false, false, false, false, false] rfl rfl (take_ofW HT_.out HW_.out (by kernel_rfl)) (fun _ _ _ h => h) (Or.inl ⟨by rfl, ?_⟩) hHeld ?_ ?_
              rotate_left
              · intro w' hS
                have h_ := ((below_step HB.out hS).cell (World.block_lt_of_cell? _ _ HCY.out)).trans HCY.out
                go_simp
                with_reducible rfl
              rotate_left
              · simp only [Act.put, List.setIfInBounds_toArray, List.set_cons_zero, List.set_cons_succ, i64_w, i32_w]
                rfl
              refine pure_ (i := 43) (N := some 178) (v := ?_) (a' := ?_) #[true, true, true, true, true, true, true, true, true, true, true, true, true, true, true, true, true, true, true, true, true, true, true, true, true, true, true, true, true, true, true, true, true, true, true, true, true, true, true, true, true, true, true, true, false, false, false, false, false, false, false, false] rfl rfl (any_of HT_.out (by kernel_rfl)) (fun _ _ _ h => h) (Or.inl ⟨by rfl, ?_⟩) ?_ ?_
              rotate_left
              · intro w'
                go_simp
                with_reducible rfl
              rotate_left
              · simp only [Act.put, List.setIfInBounds_toArray, List.set_cons_zero, List.set_cons_succ, i64_w, i32_w]
                rfl
              refine one_ (i := 44) (N := some 179) #[true, true, true, true, true, true, true, true, true, true, true, true, true, true, true, true, true, true, true, true, true, true, true, true, true, true, true, true, true, true, true, true, true, true, true, true, true, true, true, true, true, true, true, true, true, false, false, false, false, false, false, false] rfl rfl (one_of HT_.out (by kernel_rfl)) (by decide) (fun K hK => ?_)
              refine goes_ Try.func15 (by kernel_rfl) rfl #[.int .i64 (y.length : Int)] (by rfl) rfl rfl (by (try simp only [List.map_toArray, List.map_cons, List.map_nil]); first | done | rfl) ?_
              with_reducible refine (frame_Size.calls _ _ _ HSZ.out).mono ?_
              rintro e w11 ⟨rfl, hb⟩
              refine ⟨_, rfl, ?_⟩
              have hS_ := below_step hHeld hb
              refine hK.out _ _ hS_ (fun hHeld => ?_)
              clear hK K
              refine norm_ (a' := ?_) ?_ ?_
              rotate_left
              · show Act.put _ (some 179) _ = _
                simp only [Act.put, List.setIfInBounds_toArray, List.set_cons_zero, List.set_cons_succ, i64_w, i32_w]
                rfl
              refine pure_ (i := 45) (N := some 180) (v := ?_) (a' := ?_) #[true, true, true, true, true, true, true, true, true, true, true, true, true, true, true, true, true, true, true, true, true, true, true, true, true, true, true, true, true, true, true, true, true, true, true, true, true, true, true, true, true, true, true, true, true, true, false, false, false, false, false, false] rfl rfl (any_of HT_.out (by kernel_rfl)) (fun _ _ _ h => h) (Or.inl ⟨by rfl, ?_⟩) ?_ ?_
              rotate_left
              · intro w'
                go_simp
                with_reducible rfl
              rotate_left
              · simp only [Act.put, List.setIfInBounds_toArray, List.set_cons_zero, List.set_cons_succ, i64_w, i32_w]
                rfl
              refine pure_ (i := 46) (N := some 181) (v := ?_) (a' := ?_) #[true, true, true, true, true, true, true, true, true, true, true, true, true, true, true, true, true, true, true, true, true, true, true, true, true, true, true, true, true, true, true, true, true, true, true, true, true, true, true, true, true, true, true, true, true, true, true, false, false, false, false, false] rfl rfl (any_of HT_.out (by kernel_rfl)) (fun _ _ _ h => h) (Or.inl ⟨by rfl, ?_⟩) ?_ ?_
              rotate_left
              · intro w'
                go_simp
                with_reducible rfl
              rotate_left
              · simp only [Act.put, List.setIfInBounds_toArray, List.set_cons_zero, List.set_cons_succ, i64_w, i32_w]
                rfl
              refine pure_ (i := 47) (N := some 182) (v := ?_) (a' := ?_) #[true, true, true, true, true, true, true, true, true, true, true, true, true, true, true, true, true, true, true, true, true, true, true, true, true, true, true, true, true, true, true, true, true, true, true, true, true, true, true, true, true, true, true, true, true, true, true, true, false, false, false, false] rfl rfl (any_of HT_.out (by kernel_rfl)) (fun _ _ _ h => h) (Or.inl ⟨by rfl, ?_⟩) ?_ ?_
              rotate_left
              · intro w'
                go_simp
                with_reducible rfl
              rotate_left
              · simp only [Act.put, List.setIfInBounds_toArray, List.set_cons_zero, List.set_cons_succ, i64_w, i32_w]
                rfl
              refine pure_ (i := 48) (N := some 183) (v := ?_) (a' := ?_) #[true, true, true, true, true, true, true, true, true, true, true, true, true, true, true, true, true, true, true, true, true, true, true, true, true, true, true, true, true, true, true, true, true, true, true, true, true, true, true, true, true, true, true, true, true, true, true, true, true, false, false, false] rfl rfl (any_of HT_.out (by kernel_rfl)) (fun _ _ _ h => h) (Or.inl ⟨by rfl, ?_⟩) ?_ ?_
              rotate_left
              · intro w'
                go_simp
                with_reducible rfl
              rotate_left
              · simp only [Act.put, List.setIfInBounds_toArray, List.set_cons_zero, List.set_cons_succ, i64_w, i32_w]
                rfl
              refine one_ (i := 49) (N := some 184) #[true, true, true, true, true, true, true, true, true, true, true, true, true, true, true, true, true, true, true, true, true, true, true, true, true, true, true, true, true, true, true, true, true, true, true, true, true, true, true, true, true, true, true, true, true, true, true, true, true, true, false, false] rfl rfl (one_of HT_.out (by kernel_rfl)) (by decide) (fun K hK => ?_)
              refine goes_ Try.func10 (by kernel_rfl) rfl #[] (by rfl) rfl rfl (by (try simp only [List.map_toArray, List.map_cons, List.map_nil]); first | done | rfl) ?_
              with_reducible refine (concordancelaw3_awake.calls _ _ _ HAW.out).mono ?_
              rintro e w12 ⟨rfl, hb⟩
              refine ⟨_, rfl, ?_⟩
              have hS_ := below_step hHeld hb
              refine hK.out _ _ hS_ (fun hHeld => ?_)
              clear hK K
              refine norm_ (a' := ?_) ?_ ?_
              rotate_left
              · show Act.put _ (some 184) _ = _
                simp only [Act.put, List.setIfInBounds_toArray, List.set_cons_zero, List.set_cons_succ, i64_w, i32_w]
                rfl
              refine pure_ (i := 50) (N := some 185) (v := ?_) (a' := ?_) #[true, true, true, true, true, true, true, true, true, true, true, true, true, true, true, true, true, true, true, true, true, true, true, true, true, true, true, true, true, true, true, true, true, true, true, true, true, true, true, true, true, true, true, true, true, true, true, true, true, true, true, false] rfl rfl (any_of HT_.out (by kernel_rfl)) (fun _ _ _ h => h) (Or.inl ⟨by rfl, ?_⟩) ?_ ?_
              rotate_left
              · intro w'
                go_simp
                with_reducible rfl
              rotate_left
              · simp only [Act.put, List.setIfInBounds_toArray, List.set_cons_zero, List.set_cons_succ, i64_w, i32_w]
                rfl
              refine pure_ (i := 51) (N := some 4) (v := ?_) (a' := ?_) #[true, true, true, true, true, true, true, true, true, true, true, true, true, true, true, true, true, true, true, true, true, true, true, true, true, true, true, true, true, true, true, true, true, true, true, true, true, true, true, true, true, true, true, true, true, true, true, true, true, true, true, true] rfl rfl (any_of HT_.out (by kernel_rfl)) (fun _ _ _ h => h) (Or.inl ⟨by rfl, ?_⟩) ?_ ?_
              rotate_left
              · intro w'
                go_simp
                with_reducible rfl
              rotate_left
              · simp only [Act.put, List.setIfInBounds_toArray, List.set_cons_zero, List.set_cons_succ, i64_w, i32_w]
                rfl
              refine done_ (done_of HT_.out (by kernel_rfl)) ?_
              go_wp2
              go_ret
              exact ⟨rfl, below_step HB.out hHeld⟩
end Go.Proofs.Ytcnapbpljghfoaa.Hand

/- A parameter of rows of bytes ([][]byte), as it comes in: it reads as a row of rows. -/
namespace Go.Proofs.Ytcnapbpljghfoaa.Hand
open Go.RowKit Go.ChangeShapes Go.WideShapes Go.ChangeAt Go.Deep Go.Proofs.YtcnapbpljghfoaaW.PrintWords Go.Proofs.YtcnapbpljghfoaaW.PrintLast Go.Proofs.YtcnapbpljghfoaaW.PrintMore
set_option linter.unusedVariables false
theorem open_rows {H : Type} {enc : TypeId × Value → H} {P : Program} {W : World} {base : Nat} {held : Bool} {t e q : TypeId} {k : IntKind} {d : DataW H} {p : List MemPlace} (ht : P.underlying t = some (.slice e)) (he : P.underlying e = some (.slice q)) (hq : P.underlying q = some (.int k)) (ce : P.cellsOf e = 1) (cq : P.cellsOf q = 1)
    {a : Option Addr} {len cap : Nat} (h : DataW.Trod enc P W base (fun _ => true) held t (.slice a len cap) d p) :
    ∃ rows : List (List Int), len = rows.length ∧ rows.length ≤ cap ∧ Kd.C (Kd.slice q (Kd.int k)) W a rows.length rows ∧ ∀ x ∈ rows, ∀ n ∈ x, (Lit.int k n).wf = true := by
  obtain ⟨fuel, hf⟩ := h
  rcases open_int_rows ht he hq ce cq hf with ⟨hcs, _⟩ | ⟨x, l, c, A, L, C, Z, hcs, _, hl, hm, _, hr⟩
  · simp [Value.cells] at hcs
    obtain ⟨rfl, rfl, rfl⟩ := hcs
    exact ⟨[], rfl, Nat.le_refl _, Kd.C_nil _ _, by simp⟩
  · simp [Value.cells] at hcs
    obtain ⟨rfl, rfl, rfl⟩ := hcs
    have hlen : ((List.range len).map fun r => (Z r).take (L r)).length = len := by simp
    refine ⟨(List.range len).map fun r => (Z r).take (L r), hlen.symm, by rw [hlen]; exact hl, ?_, ?_⟩
    · unfold maxLen at hm
      refine ⟨rfl, by rw [hlen]; omega, fun _ => ⟨x, rfl, fun j p hj => ?_⟩⟩
      obtain ⟨hjl, hp⟩ := List.getElem?_eq_some_iff.1 hj
      have hjlen : j < len := by rw [hlen] at hjl; exact hjl
      have hp' : (Z j).take (L j) = p := by rw [← hp]; simp
      subst hp'
      obtain ⟨h1, h2, h3, h4, h5, h6, h7⟩ := hr j (by omega)
      have hlL : ((Z j).take (L j)).length = L j := by rw [List.length_take]; omega
      refine ⟨[.slice (A j) (L j) (C j)], rfl, ⟨A j, C j, by rw [hlL], by rw [hlL]; exact h2, ?_⟩, fun i u hu => ?_⟩
      · refine ⟨rfl, by rw [hlL]; unfold maxLen at h3; omega, fun hp => ?_⟩
        rw [hlL] at hp
        cases hA : A j with
        | none => have := h6 hA; omega
        | some a' =>
          obtain ⟨_, h8⟩ := h7 a' hA
          refine ⟨a', rfl, fun i y hy => ⟨[.int k y], rfl, rfl, fun m u hu => ?_⟩⟩
          obtain ⟨rfl, rfl⟩ : m = 0 ∧ Value.int k y = u := by
            rcases m with _ | m
            · simpa using hu
            · simp at hu
          rw [List.getElem?_take] at hy
          split at hy
          · rename_i hi
            have h9 := h8 i (by omega)
            rw [List.getD_eq_getElem?_getD, hy] at h9
            simpa [Kd.int, Kd.scalar] using h9
          · cases hy
      · obtain ⟨rfl, rfl⟩ : i = 0 ∧ Value.slice (A j) (L j) (C j) = u := by
          rcases i with _ | i
          · simpa using hu
          · simp at hu
        simpa [Kd.slice] using h1
    · intro y hy n hn
      obtain ⟨j, hj, rfl⟩ := List.mem_map.1 hy
      have hjlen : j < len := List.mem_range.1 hj
      exact (hr j (by omega)).2.2.2.2.1 n (List.mem_of_mem_take hn)
end Go.Proofs.Ytcnapbpljghfoaa.Hand
