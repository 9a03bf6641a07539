/- Texts of this seat, one behind the other: what concordance's FrameBursts reaches. -/
import Derived.Test.YtcnapbpljghfoaaZFrameBursts1
import Derived.Deep.QuietTactic
import Derived.BigQuiet
import Derived.Test.YtcnapbpljghfoaaZFrameBursts0
import Derived.Deep.Matrix
import Derived.ProofKit
import Derived.OpenShut
/- concordancelaw3.FrameRows, walked by hand: records one behind the other are told with their places, each as it was put; from any of these places on it is the same. -/
namespace Go.Proofs.Ytcnapbpljghfoaa.Hand
open Go.RowKit Go.Proofs.YtcnapbpljghfoaaW.PrintWords Go.Proofs.YtcnapbpljghfoaaW.PrintLast Go.Proofs.YtcnapbpljghfoaaW.PrintMore
open Go.Proofs.Ytcnapbpljghfoaa.Plain Go.Proofs.Ytcnapbpljghfoaa.PCrc
attribute [local go_sem] max2_int min2_int max_two min_two
set_option linter.unusedVariables false
set_option linter.unusedSimpArgs false
/-- The cells of a record in a row of records. -/
theorem frow_cells {w : World} {g : Nat} {rs : List (Int × List Int)} (h : Kd.C kdFrame w (some ⟨g, 0, none⟩) rs.length rs) (j : Nat) (hj : j < rs.length) :
    ∃ A c, w.cell? ⟨g, j * 2, none⟩ = some (.int .i64 rs[j].1) ∧ w.cell? ⟨g, j * 2 + 1, none⟩ = some (.slice A rs[j].2.length c) ∧ rs[j].2.length ≤ c ∧ Kd.C (Kd.int .u8) w A rs[j].2.length rs[j].2 := by
  obtain ⟨ad, c, e, hcl, hK, hc⟩ := Kd.C_get h (0, []) (j : Int) (by omega) (by omega)
  injection e with e
  subst e
  rw [Int.toNat_natCast, List.getD_eq_getElem?_getD, List.getElem?_eq_getElem hj, Option.getD_some] at hK
  rw [Int.toNat_natCast] at hc
  obtain ⟨x0, x1, rfl, h0, A, c', h1, h2, h3⟩ := hK
  have h0' : x0 = [.int .i64 rs[j].1] := h0
  subst h0' h1
  have e0 := hc 0 _ rfl
  have e1 := hc 1 _ rfl
  rw [add_plain] at e0 e1
  exact ⟨A, c', e0, e1, h2, h3⟩
def rows.T19 : Bool × List (List Nat × List Nat) := (true, [([], []), ([], []), ([0, 1], [0, 1]), ([2], [2]), ([], []), ([], []), ([4, 5], [4, 5]), ([6], [6]), ([3, 7], [3, 7]), ([8], [8]), ([9], [9]), ([9], [9]), ([10, 11, 9], [9, 10, 11]), ([12, 9], [9, 12]), ([13, 9], [9, 13]), ([9], [9]), ([15, 9], [9, 15]), ([16, 9], [9, 16]), ([14, 17, 9], [9, 14, 17]), ([9, 18], [9, 18]), ([19, 9], [19]), ([20], [20]), ([20], [20]), ([21, 22, 20], [20, 21, 22]), ([23, 20], [20, 23]), ([24, 20], [20, 24]), ([25, 20], [20, 25]), ([20], [20]), ([20], [20]), ([27, 28, 20], [20, 27, 28]), ([29, 20], [20, 29]), ([30, 20], [20, 30]), ([26, 31, 20], [20, 26, 31]), ([20, 32], [20, 32])])
def rows.B19 : List Nat := [0, 0, 3, 7, 0, 0, 48, 112, 255, 511, 1023, 1023, 4095, 8191, 16383, 1023, 33791, 99327, 262143, 524287, 1048575, 2097151, 2097151, 8388607, 16777215, 33554431, 67108863, 2097151, 2097151, 404750335, 941621247, 2015363071, 4294967295, 8589934591]
theorem rows.tab19 : rtab .any (opsOf Try.f6 19) = rows.T19 := by kernel_rfl
theorem rows.bits19 : waitsOk rows.T19.2 rows.B19 = true := by kernel_rfl
def rows.T26 : Bool × List (List Nat × List Nat) := (true, [([], []), ([0], [0]), ([], []), ([2], [2]), ([], []), ([3, 4], [3, 4]), ([1, 5], [1, 5]), ([6], [6]), ([7], [7]), ([8, 7], [7, 8]), ([7], [7]), ([10, 7], [7, 10]), ([9, 11, 7], [7, 9, 11]), ([7, 12], [7, 12]), ([13, 7], [13]), ([14], [14]), ([15, 14], [14, 15]), ([16, 14], [14, 16]), ([17, 14], [14, 17]), ([14, 18], [14, 18]), ([19, 14], [19]), ([20], [20]), ([21, 20], [20, 21]), ([20, 22], [20, 22]), ([23, 20], [23]), ([24], [24]), ([25, 24], [24, 25]), ([24], [24]), ([27, 24], [24, 27]), ([28, 24], [24, 28]), ([29, 24], [24, 29]), ([26, 30, 24], [24, 26, 30]), ([24, 31], [24, 31]), ([32, 24], [32]), ([33], [33]), ([33], [33]), ([33], [33]), ([35, 36, 33], [33, 35, 36]), ([37, 33], [33, 37]), ([33], [33]), ([33], [33]), ([39, 40, 33], [33, 39, 40]), ([41, 33], [33, 41]), ([42, 33], [33, 42]), ([43, 33, 33], [33, 43]), ([38, 44, 33], [33, 38, 44]), ([34, 45, 33], [33, 34, 45]), ([33, 46], [33, 46]), ([47, 44], [47]), ([48, 48], [48]), ([48, 49], [48, 49]), ([50, 49, 0, 1, 2, 3, 4, 5, 6, 7, 8, 9, 10, 11, 12, 13, 14, 15, 16, 17, 18, 19, 20, 21, 22, 23, 24, 25, 26, 27, 28, 29, 30, 31, 32, 33, 34, 35, 36, 37, 38, 39, 40, 41, 42, 43, 44, 45, 46, 47, 48, 49, 50], [50])])
def rows.B26 : List Nat := [0, 1, 0, 4, 0, 28, 63, 127, 255, 511, 255, 1279, 4095, 8191, 16383, 32767, 65535, 131071, 262143, 524287, 1048575, 2097151, 4194303, 8388607, 16777215, 33554431, 67108863, 33554431, 167772159, 436207615, 973078527, 2147483647, 4294967295, 8589934591, 17179869183, 17179869183, 17179869183, 120259084287, 257698037759, 17179869183, 17179869183, 1666447310847, 3865470566399, 8263517077503, 17059610099711, 35167192219647, 70368744177663, 140737488355327, 281474976710655, 562949953421311, 1125899906842623, 2251799813685247]
theorem rows.tab26 : rtab .any (opsOf Try.f6 26) = rows.T26 := by kernel_rfl
theorem rows.bits26 : waitsOk rows.T26.2 rows.B26 = true := by kernel_rfl
set_option maxHeartbeats 8000000 in
set_option maxRecDepth 100000 in
theorem rows_walk (A0 : Option Addr) (c0 : Nat) (L : List (List Int)) (a1 : Int) (w : World) (hr0 : Kd.C (Kd.slice 5 (Kd.int .u8)) w A0 L.length L) (hc0 : L.length ≤ c0) (hw0 : ∀ x ∈ L, ∀ n ∈ x, (Lit.int .u8 n).wf = true) (hw1 : (Lit.int .i64 a1).wf = true) :
    Calls Try.prog 6 #[.slice A0 L.length c0, .int .i64 a1] w fun e w' => e = .returned (.bool true) ∧ Below w.heap.size w w' := by
  have HBL := Aside0.mk (show ∀ x ∈ L, isB x from fun x hx n hn => Plain.wf_u8 (hw0 x hx n hn))
  have HAW := Aside0.mk (awake3_f 0)
  have HR0 := Aside0.mk hr0
  have HLM := Aside0.mk (Kd.C_max hr0)
  have HB := Aside0.mk (Below.refl w.heap.size w)
  clear hw0 hr0
  go_enter Try.func6, Try.ntmps6
  go_wp2
  go_loopg [5, 6, 7] 11 (fun kq v5 v6 v7 w' => ∃ (i : Nat), v7 = .int .i64 (i : Int) ∧ Aside0 (i ≤ 10 ∧ i ≤ L.length ∧ 10 - i ≤ kq) ∧ Aside0 (∀ j, j < i → (rd_L1 L (j : Int)).length ≤ 300) ∧ Aside0 (Kd.R (Kd.int .u8) 5 w' w.heap.size (fun _ => True) v5 (catL (recsOf (fun j => (j : Int) * 25 + 1) L i))) ∧ Aside0 (Kd.R (Kd.int .i64) 3 w' w.heap.size (fun _ => True) v6 (endsOf (fun j => (j : Int) * 25 + 1) L i)) ∧ Aside0 (Below w.heap.size w w'))
  case atStart => exact ⟨0, rfl, ⟨by omega, by omega, by omega⟩, ⟨fun j hj => by omega⟩, ⟨Kd.R_nil _ _ _ _ _⟩, ⟨Kd.R_nil _ _ _ _ _⟩, ⟨HB.out⟩⟩
  case round =>
    clear HB
    obtain ⟨i, rfl, HI, HLE, HV, HE, HB⟩ := hrel
    have hb1 := HI.out.2.1
    by_cases k1 : i < L.length ∧ i < 10
    · obtain ⟨hlt, h6⟩ := k1
      have d1 : decide ((i : Int) < (L.length : Int)) = true := decide_eq_true (by omega)
      have d2 : decide ((i : Int) < 10) = true := decide_eq_true (by omega)
      obtain ⟨ad, A2, c2, rfl, hcell, hle2, hC2⟩ := at_L1 (Kd.C_below HR0.out HB.out) (i : Int) (by omega) (by omega)
      rw [Int.toNat_natCast] at hcell
      obtain ⟨Ab, cb, rfl⟩ := Kd.R_slice HV.out
      obtain ⟨Ae, ce, rfl⟩ := Kd.R_slice HE.out
      have hcl := catL_recs_le (K := (fun j => (j : Int) * 25 + 1)) i HLE.out
      have hcs := recsOf_succ (fun j => (j : Int) * 25 + 1) L i
      have hes := endsOf_succ (fun j => (j : Int) * 25 + 1) L i
      have hel := endsOf_length (fun j => (j : Int) * 25 + 1) L i
      have hby : isB (rd_L1 L (i : Int)) := by
        unfold rd_L1
        rw [Int.toNat_natCast, List.getD_eq_getElem?_getD, List.getElem?_eq_getElem hlt]
        exact HBL.out _ (List.getElem_mem _)
      obtain ⟨y, ey⟩ : ∃ y, rd_L1 L (i : Int) = y := ⟨_, rfl⟩
      rw [ey] at hcell hle2 hC2 hcs hby
      by_cases k2 : 300 < y.length
      · have d3 : decide (300 < (y.length : Int)) = true := decide_eq_true (by omega)
        clear hcl hcs hes hel hby ey
        go_wp2_with (first | (go_at_call 10; refine (concordancelaw3_awake.calls _ _ _ HAW.out).mono ?_; rintro e w9 ⟨rfl, hb⟩; have n1_ := Aside0.mk (below_step HB.out hb); clear HB hb; have HB := n1_; clear n1_))
        go_ret
        exact ⟨rfl, HB.out⟩
      · have d3 : decide (300 < (y.length : Int)) = false := decide_eq_false (by omega)
        have HI2 := Aside0.mk (And.intro hlt h6)
        have hput := put_f (l := catL (recsOf (fun j => (j : Int) * 25 + 1) L i)) (by omega) hby (by omega) ((i : Int) * 25 + 1) 0
        unfold putF at hput
        rw [if_neg (by omega), if_neg (by omega)] at hput
        have hcat : catL (recsOf (fun j => (j : Int) * 25 + 1) L i) ++ recL ((i : Int) * 25 + 1) y = catL (recsOf (fun j => (j : Int) * 25 + 1) L (i + 1)) := by
          rw [hcs, catL_append, catL_cons, catL_nil, List.append_nil]
        rw [hcat] at hput
        have HPUT := Aside0.mk hput
        have HY := Aside0.mk (show y.length ≤ 300 by omega)
        have HEY := Aside0.mk ey
        have HES := Aside0.mk hes
        have HEL := Aside0.mk hel
        have HC2 := Aside0.mk hC2
        have HCE := Aside0.mk (Kd.C_below HR0.out HB.out)
        clear hput hcat hcs hcl hes hel hby ey k2 hC2
        go_wp2_with (first | ((with_reducible refine gate_builtin (b := .append) (xs := #[.tmp 36, .tmp 39]) rfl ?_); at_builtin; refine Kd.R_append (Kd.int .i64) (w0 := w) w.heap.size rfl (.tmp 36) (.tmp 39) 40 3 (.int .i64 0) 8 rfl Try.underlying40 finfo_int rfl (by decide) (by omega) (.slice Ae (endsOf (fun j => (j : Int) * 25 + 1) L i).length ce) (endsOf (fun j => (j : Int) * 25 + 1) L i) ((catL (recsOf (fun j => (j : Int) * 25 + 1) L i)).length : Int) [.int .i64 ((catL (recsOf (fun j => (j : Int) * 25 + 1) L i)).length : Int)] (fun _ => True) (fun _ => False) rfl rfl rfl (fun _ h => h.elim) (fun _ _ => trivial) HE.out HB.out HB.out.size (by have := HEL.out; have := HI2.out.2; omega) ?_; intro v3 w3 ho hb hg hat; have n0_ := Aside0.mk (Kd.R_over HV.out HE.out (by decide) hg); rw [← HES.out] at ho; clear HV HE HB; have HV := n0_; have HE := Aside0.mk ho; have HB := Aside0.mk hb; obtain ⟨ad', A2', c2', hade, hcell2, hle2', hC2'⟩ := at_L1 (Kd.C_below HR0.out HB.out) (i : Int) (by omega) (by omega); injection hade with hade; subst hade; rw [Int.toNat_natCast, HEY.out] at hcell2; rw [HEY.out] at hle2' hC2'; have HC3 := Aside0.mk hC2'; clear n0_ ho hb hg hat hC2') | (go_at_call 11; refine (frame_Put.calls 1 (fun _ => True) Ab cb _ _ A2' c2' y _ _ _ ⟨Ab, cb, rfl, (Kd.R_reads' HV.out).2.1, Kd.R_F HV.out⟩ HC3.out hle2' HPUT.out).mono ?_; rintro e w2 ⟨v2, rfl, ho, hb⟩; obtain ⟨A3, c3, rfl⟩ := Kd.R_slice ho; have n0_ := Aside0.mk (Kd.R_mono (Kd.R_lower ho HB.out.size) (ok' := fun _ => True) (fun _ _ => trivial)); have n2_ := Aside0.mk (Kd.R_below HE.out hb); clear HV HE ho; have HV := n0_; have HE := n2_; clear n0_ n2_; have n1_ := Aside0.mk (below_step HB.out hb); clear HB hb; have HB := n1_; clear n1_))
        go_roundg (9 - i)
        case measure => have := HI.out; have := HI2.out; omega
        case rel =>
          refine ⟨i + 1, by go_num, ⟨by have := HI2.out; omega, by have := HI2.out; omega, by omega⟩, ⟨fun j hj => ?_⟩, ⟨HV.out⟩, ⟨HE.out⟩, ⟨HB.out⟩⟩
          rcases Nat.lt_or_ge j i with h | h
          · exact HLE.out j h
          · have : j = i := by omega
            subst this
            rw [HEY.out]
            exact HY.out
    · have hlen := catL_recs_le (K := (fun j => (j : Int) * 25 + 1)) i HLE.out
      have hi10 : i ≤ 10 := HI.out.1
      have hB' := recsOf_ok (K := (fun j => (j : Int) * 25 + 1)) (L := L) (i := i) (fun j hj => by show 1 ≤ (j : Int) * 25 + 1 ∧ (j : Int) * 25 + 1 ≤ 250; omega) HBL.out (fun j hj => by have := HLE.out j hj; omega)
      have hdec : (decide ((i : Int) < (L.length : Int)) = false ∧ ¬ i < L.length) ∨ (decide ((i : Int) < (L.length : Int)) = true ∧ i < L.length ∧ decide ((i : Int) < 10) = false ∧ ¬ i < 10) := by
        by_cases h : i < L.length
        · exact .inr ⟨decide_eq_true (by omega), h, decide_eq_false (by omega), by omega⟩
        · exact .inl ⟨decide_eq_false (by omega), h⟩
      have hfit := fit_all hB' [] (.inl rfl)
      rw [List.append_nil] at hfit
      have hft : ftold (catL (recsOf (fun j => (j : Int) * 25 + 1) L i)) 100 = placesL 0 (recsOf (fun j => (j : Int) * 25 + 1) L i) := by
        unfold ftold
        rw [hfit, List.take_of_length_le]
        rw [placesL_length, recsOf_length]
        have : (100 : Int).toNat = 100 := rfl
        omega
      obtain ⟨Ab, cb, rfl⟩ := Kd.R_slice HV.out
      have hVb := Kd.R_reads' HV.out
      have hCB := catL_isB hB'
      have hpl := placesL_length 0 (recsOf (fun j => (j : Int) * 25 + 1) L i)
      have hps := placesL_say 0 (recsOf (fun j => (j : Int) * 25 + 1) L i)
      have hpg := placesL_getD (recsOf (fun j => (j : Int) * 25 + 1) L i) 0
      rw [recsOf_length] at hpl hpg
      have hrt : ∀ j, j ≤ i → (recsOf (fun j => (j : Int) * 25 + 1) L i).take j = recsOf (fun j => (j : Int) * 25 + 1) L j := fun j hj => recsOf_take _ _ hj
      have hea : ∀ j, j < i → rd (endsOf (fun j => (j : Int) * 25 + 1) L i) (j : Int) = ((catL (recsOf (fun j => (j : Int) * 25 + 1) L j)).length : Int) := fun j hj => endsOf_at _ _ hj
      have hel := endsOf_length (fun j => (j : Int) * 25 + 1) L i
      have hrl := recsOf_length (fun j => (j : Int) * 25 + 1) L i
      have hge : ∀ (j : Nat) (h : j < (recsOf (fun j => (j : Int) * 25 + 1) L i).length), (recsOf (fun j => (j : Int) * 25 + 1) L i)[j] = ((j : Int) * 25 + 1, rd_L1 L (j : Int)) := by
        intro j h
        simp [recsOf]
      obtain ⟨B, eB⟩ : ∃ B, recsOf (fun j => (j : Int) * 25 + 1) L i = B := ⟨_, rfl⟩
      obtain ⟨E, eE⟩ : ∃ E, endsOf (fun j => (j : Int) * 25 + 1) L i = E := ⟨_, rfl⟩
      obtain ⟨T, eT⟩ : ∃ T, placesL 0 (recsOf (fun j => (j : Int) * 25 + 1) L i) = T := ⟨_, rfl⟩
      have HRT := Aside0.mk (fun j (hj : j ≤ i) => (hrt j hj).symm)
      rw [eT] at hft hpl hps hpg
      rw [eB] at hft hVb hCB hps hpg hrt hrl hge hB' hlen HRT ⊢
      rw [eE] at hea hel HE
      obtain ⟨C, eC⟩ : ∃ C, catL B = C := ⟨_, rfl⟩
      rw [eC] at hft hVb hCB hlen ⊢
      have HCE := Aside0.mk eC
      have HCL := Aside0.mk (show C.length ≤ 3120 by omega)
      have HCB := Aside0.mk hCB
      have HVC := Aside0.mk hVb.2
      have HPL := Aside0.mk hpl
      have HPS := Aside0.mk hps
      have HPG := Aside0.mk hpg
      have HEA := Aside0.mk hea
      have HEL := Aside0.mk hel
      have HRL := Aside0.mk hrl
      have HGE := Aside0.mk hge
      have HOK := Aside0.mk hB'
      have HI10 := Aside0.mk hi10
      have HIL := Aside0.mk HI.out.2.1
      have HLE2 := Aside0.mk HLE.out
      have htold := fun (w' : World) (hw : Kd.C (Kd.int .u8) w' Ab C.length C) => ftold2_calls Ab cb C 100 w' hw HVC.out.1 HCB.out (by have := HCL.out; omega)
      rw [hft, HPL.out] at htold
      have HTOLD := Aside0.mk htold
      clear hlen hVb hCB hpl hps hpg hrt hea hel hrl hge hB' hfit hft eB eT eE eC HV HLE htold hb1
      have hcm : (C.length : Int) ≤ 3120 := by have := HCL.out; omega
      by_cases hi0 : i = 0
      · subst hi0
        obtain ⟨Ae, ce, rfl⟩ := Kd.R_slice HE.out
        have hE0 : ((E.length : Int) == 0) = true := beq_iff_eq.mpr (by have := HEL.out; omega)
        have hTn : (T.map (·.1)).length = 0 := by rw [List.length_map]; exact HPL.out
        have hE1 : E.length = 0 := HEL.out
        rcases hdec with ⟨d1, g1⟩ | ⟨d1, g1, d2, g2⟩
        · go_wp2_with (first | (go_at_call 17; refine (HTOLD.out _ HVC.out.2).mono ?_; rintro e w7 ⟨v7, A7, c7, rfl, ho, _, _, _, hb⟩; obtain ⟨A8, c8, rfl⟩ := Kd.R_slice ho; clear ho; have n1_ := Aside0.mk (below_step HB.out hb); clear HB hb; have HB := n1_; clear n1_))
          go_loopg [12] 1 (fun kq v12 w' => v12 = .int .i64 0 ∧ w' = w7)
          case atStart => exact ⟨rfl, rfl⟩
          case round =>
            obtain ⟨rfl, rfl⟩ := hrel
            go_wp2_with (first | (go_at_call 10; refine (concordancelaw3_awake.calls _ _ _ HAW.out).mono ?_; rintro e w9 ⟨rfl, hb⟩; have n1_ := Aside0.mk (below_step HB.out hb); clear HB hb; have HB := n1_; clear n1_))
            go_ret
            exact ⟨rfl, HB.out⟩
        · exact absurd g2 (by omega)
      · obtain ⟨ge, ce, rfl, _, _, _, _⟩ := Kd.R_form HE.out (by rw [HEL.out]; omega)
        have HEC := Aside0.mk (Kd.R_reads' HE.out).2
        have hE0 : ((E.length : Int) == 0) = false := beq_eq_false_iff_ne.mpr (by have := HEL.out; omega)
        have hE1 : E.length ≠ 0 := by have := HEL.out; omega
        have hEm : (E.length : Int) ≤ 10 := by have := HEL.out; omega
        have hTn : (T.map (·.1)).length = E.length := by rw [List.length_map, HPL.out, HEL.out]
        have HI0 := Aside0.mk (show 0 < i by omega)
        clear HE hi0
        rcases hdec with ⟨d1, g1⟩ | ⟨d1, g1, d2, g2⟩
        all_goals
          go_wp2_with (first | ((with_reducible refine gate_callee (f := 17) rfl ?_); refine goesL_ (some 58) rfl rfl Try.func17 (by kernel_rfl) rfl #[.slice Ab C.length cb, .int .i64 100] rfl (by (try simp only [List.map_toArray, List.map_cons, List.map_nil]); first | done | rfl) ?_; refine (HTOLD.out _ HVC.out.2).mono ?_; rintro e w7 ⟨v7, A7, c7, rfl, ho, hle7, hC7, hg7, hb⟩; refine ⟨_, rfl, ?_⟩; obtain ⟨gp, cp, rfl, _, _, _, _⟩ := Kd.R_form ho (by rw [hTn]; have := HI0.out; have := HEL.out; omega); obtain ⟨gl, rfl⟩ := hg7 HI0.out; have HP := Aside0.mk (Kd.R_reads' ho).2.2; have HLR := Aside0.mk hC7; have n0_ := Aside0.mk (And.intro HVC.out.1 (Kd.C_below HVC.out.2 hb)); have n2_ := Aside0.mk (And.intro HEC.out.1 (Kd.C_below HEC.out.2 hb)); clear HVC HEC ho hC7 hle7; have HVC := n0_; have HEC := n2_; clear n0_ n2_; have n1_ := Aside0.mk (below_step HB.out hb); clear HB hb; have HB := n1_; clear n1_))
          rw [HPS.out, HRL.out] at HLR
          go_loopg [12] (i + 1) (fun kq v12 w' => ∃ j : Nat, v12 = .int .i64 (j : Int) ∧ Aside0 (j ≤ i ∧ i - j ≤ kq) ∧ Aside0 (Below w7.heap.size w7 w'))
          case atStart => exact ⟨0, rfl, ⟨by omega, by omega⟩, ⟨Below.refl _ _⟩⟩
          case round =>
            obtain ⟨j, rfl, HJ, HB7⟩ := hrel
            have hj10 : j ≤ 10 := by have := HJ.out.1; have := HI10.out; omega
            by_cases k2 : j < i
            · have hjE : j < E.length := by have := HEL.out; omega
              have d3 : decide ((j : Int) < (E.length : Int)) = true := decide_eq_true (by omega)
              have hX : (T.map (·.1)).length = i := by rw [List.length_map]; exact HPL.out
              have hcp := head_cell (Kd.C_below HP.out HB7.out) j (by rw [hX]; exact k2)
              have hce := head_cell (Kd.C_below HEC.out.2 HB7.out) j hjE
              have hval : rd (T.map (·.1)) (j : Int) = ((catL (recsOf (fun j => (j : Int) * 25 + 1) L j)).length : Int) := by
                have h1 := HPG.out j k2
                rw [HRT.out j (by omega)]
                unfold rd
                rw [Int.toNat_natCast, h1]
                omega
              rw [hval] at hcp
              rw [HEA.out j k2] at hce
              have hjB : j < B.length := by rw [HRL.out]; exact k2
              obtain ⟨Al, cl, hl0, hl1, hll, hlC⟩ := frow_cells (by rw [HRL.out]; exact Kd.C_below HLR.out HB7.out) j hjB
              rw [HGE.out j hjB] at hl0 hl1 hlC
              obtain ⟨ad, A2, c2, rfl, hcell, hle2, hC2⟩ := at_L1 (Kd.C_below HR0.out (below_step HB.out HB7.out)) (j : Int) (by omega) (by have := HIL.out; omega)
              rw [Int.toNat_natCast] at hcell
              have hjL : j < L.length := by have := HIL.out; omega
              obtain ⟨q, eq⟩ : ∃ q, (catL (recsOf (fun j => (j : Int) * 25 + 1) L j)).length = q := ⟨_, rfl⟩
              obtain ⟨y, ey⟩ : ∃ y, rd_L1 L (j : Int) = y := ⟨_, rfl⟩
              rw [eq] at hcp hce
              dsimp only at hl0 hl1 hlC
              rw [ey] at hl1 hlC hcell hC2
              have HCP := Aside0.mk hcp
              have HCE2 := Aside0.mk hce
              have HL0 := Aside0.mk hl0
              have HL1 := Aside0.mk hl1
              have HLC := Aside0.mk hlC
              have HCC := Aside0.mk hcell
              have HC2 := Aside0.mk hC2
              have HK2 := Aside0.mk k2
              clear hX hval eq ey hll hlC hle2 hC2 hjB hcp hce hl0 hl1 hcell
              have hw1 : wrap64 ((j : Int) * 25) = (j : Int) * 25 := w64 (by omega) (by omega)
              have hw2 : wrap64 ((j : Int) * 25 + 1) = (j : Int) * 25 + 1 := w64 (by omega) (by omega)
              go_wp2
              refine start_ (n := 34) (S := fun w' => Below wr.heap.size wr w') (ds := []) #[false, false, false, false, false, false, false, false, false, false, false, false, false, false, false, false, false, false, false, false, false, false, false, false, false, false, false, false, false, false, false, false, false, false] (by kernel_rfl) rfl rfl (below_drew1 (Below.refl _ _)) (fun hHeld => ?_)
              refine with_tabW rows.tab19 rows.bits19 (fun HT_ HW_ => ?_)
              refine pure_ (i := 0) (N := some 72) (v := ?_) (a' := ?_) #[true, false, false, false, false, false, false, false, false, false, false, false, false, false, false, false, false, false, false, false, false, false, false, false, false, false, false, false, false, false, false, false, false, false] rfl rfl (any_of HT_.out (by kernel_rfl)) (fun _ _ _ h => h) (Or.inl ⟨by rfl, ?_⟩) ?_ ?_
              rotate_left
              · intro w'
                go_simp
                with_reducible rfl
              rotate_left
              · simp only [Act.put, List.setIfInBounds_toArray, List.set_cons_zero, List.set_cons_succ, i64_w, i32_w]
                rfl
              refine pure_ (i := 1) (N := some 73) (v := ?_) (a' := ?_) #[true, true, false, false, false, false, false, false, false, false, false, false, false, false, false, false, false, false, false, false, false, false, false, false, false, false, false, false, false, false, false, false, false, false] rfl rfl (any_of HT_.out (by kernel_rfl)) (fun _ _ _ h => h) (Or.inl ⟨by rfl, ?_⟩) ?_ ?_
              rotate_left
              · intro w'
                go_simp
                with_reducible rfl
              rotate_left
              · simp only [Act.put, List.setIfInBounds_toArray, List.set_cons_zero, List.set_cons_succ, i64_w, i32_w]
                rfl
              refine pure_ (i := 2) (N := some 74) (v := ?_) (a' := ?_) #[true, true, true, false, false, false, false, false, false, false, false, false, false, false, false, false, false, false, false, false, false, false, false, false, false, false, false, false, false, false, false, false, false, false] rfl rfl (any_of HT_.out (by kernel_rfl)) (fun _ _ _ h => h) (Or.inl ⟨by rfl, ?_⟩) ?_ ?_
              rotate_left
              · intro w'
                go_simp
                with_reducible rfl
              rotate_left
              · simp only [Act.put, List.setIfInBounds_toArray, List.set_cons_zero, List.set_cons_succ, i64_w, i32_w]
                rfl
              refine take_ (i := 3) (N := some 75) (v := ?_) (a' := ?_) #[true, true, true, true, false, false, false, false, false, false, false, false, false, false, false, false, false, false, false, false, false, false, false, false, false, false, false, false, false, false, false, false, false, false] rfl rfl (take_ofW HT_.out HW_.out (by kernel_rfl)) (fun _ _ _ h => h) (Or.inl ⟨by rfl, ?_⟩) hHeld ?_ ?_
              rotate_left
              · intro w' hS
                have h_ := (hS.cell (World.block_lt_of_cell? _ _ HCP.out)).trans HCP.out
                go_simp
                with_reducible rfl
              rotate_left
              · simp only [Act.put, List.setIfInBounds_toArray, List.set_cons_zero, List.set_cons_succ, i64_w, i32_w]
                rfl
              refine pure_ (i := 4) (N := some 76) (v := ?_) (a' := ?_) #[true, true, true, true, true, false, false, false, false, false, false, false, false, false, false, false, false, false, false, false, false, false, false, false, false, false, false, false, false, false, false, false, false, false] rfl rfl (any_of HT_.out (by kernel_rfl)) (fun _ _ _ h => h) (Or.inl ⟨by rfl, ?_⟩) ?_ ?_
              rotate_left
              · intro w'
                go_simp
                with_reducible rfl
              rotate_left
              · simp only [Act.put, List.setIfInBounds_toArray, List.set_cons_zero, List.set_cons_succ, i64_w, i32_w]
                rfl
              refine pure_ (i := 5) (N := some 77) (v := ?_) (a' := ?_) #[true, true, true, true, true, true, false, false, false, false, false, false, false, false, false, false, false, false, false, false, false, false, false, false, false, false, false, false, false, false, false, false, false, false] rfl rfl (any_of HT_.out (by kernel_rfl)) (fun _ _ _ h => h) (Or.inl ⟨by rfl, ?_⟩) ?_ ?_
              rotate_left
              · intro w'
                go_simp
                with_reducible rfl
              rotate_left
              · simp only [Act.put, List.setIfInBounds_toArray, List.set_cons_zero, List.set_cons_succ, i64_w, i32_w]
                rfl
              refine pure_ (i := 6) (N := some 78) (v := ?_) (a' := ?_) #[true, true, true, true, true, true, true, false, false, false, false, false, false, false, false, false, false, false, false, false, false, false, false, false, false, false, false, false, false, false, false, false, false, false] rfl rfl (any_of HT_.out (by kernel_rfl)) (fun _ _ _ h => h) (Or.inl ⟨by rfl, ?_⟩) ?_ ?_
              rotate_left
              · intro w'
                go_simp
                with_reducible rfl
              rotate_left
              · simp only [Act.put, List.setIfInBounds_toArray, List.set_cons_zero, List.set_cons_succ, i64_w, i32_w]
                rfl
              refine take_ (i := 7) (N := some 79) (v := ?_) (a' := ?_) #[true, true, true, true, true, true, true, true, false, false, false, false, false, false, false, false, false, false, false, false, false, false, false, false, false, false, false, false, false, false, false, false, false, false] rfl rfl (take_ofW HT_.out HW_.out (by kernel_rfl)) (fun _ _ _ h => h) (Or.inl ⟨by rfl, ?_⟩) hHeld ?_ ?_
              rotate_left
              · intro w' hS
                have h_ := (hS.cell (World.block_lt_of_cell? _ _ HCE2.out)).trans HCE2.out
                go_simp
                with_reducible rfl
              rotate_left
              · simp only [Act.put, List.setIfInBounds_toArray, List.set_cons_zero, List.set_cons_succ, i64_w, i32_w]
                rfl
              refine pure_ (i := 8) (N := some 80) (v := ?_) (a' := ?_) #[true, true, true, true, true, true, true, true, true, false, false, false, false, false, false, false, false, false, false, false, false, false, false, false, false, false, false, false, false, false, false, false, false, false] rfl rfl (any_of HT_.out (by kernel_rfl)) (fun _ _ _ h => h) (Or.inl ⟨by rfl, ?_⟩) ?_ ?_
              rotate_left
              · intro w'
                go_simp
                with_reducible rfl
              rotate_left
              · simp only [Act.put, List.setIfInBounds_toArray, List.set_cons_zero, List.set_cons_succ, i64_w, i32_w]
                rfl
              refine pure_ (i := 9) (N := some 81) (v := ?_) (a' := ?_) #[true, true, true, true, true, true, true, true, true, true, false, false, false, false, false, false, false, false, false, false, false, false, false, false, false, false, false, false, false, false, false, false, false, false] rfl rfl (any_of HT_.out (by kernel_rfl)) (fun _ _ _ h => h) (Or.inl ⟨by rfl, ?_⟩) ?_ ?_
              rotate_left
              · intro w'
                go_simp
                with_reducible rfl
              rotate_left
              · simp only [Act.put, List.setIfInBounds_toArray, List.set_cons_zero, List.set_cons_succ, i64_w, i32_w]
                rfl
              refine pure_ (i := 10) (N := some 82) (v := ?_) (a' := ?_) #[true, true, true, true, true, true, true, true, true, true, true, false, false, false, false, false, false, false, false, false, false, false, false, false, false, false, false, false, false, false, false, false, false, false] rfl rfl (any_of HT_.out (by kernel_rfl)) (fun _ _ _ h => h) (Or.inl ⟨by rfl, ?_⟩) ?_ ?_
              rotate_left
              · intro w'
                go_simp
                with_reducible rfl
              rotate_left
              · simp only [Act.put, List.setIfInBounds_toArray, List.set_cons_zero, List.set_cons_succ, i64_w, i32_w]
                rfl
              refine pure_ (i := 11) (N := some 83) (v := ?_) (a' := ?_) #[true, true, true, true, true, true, true, true, true, true, true, true, false, false, false, false, false, false, false, false, false, false, false, false, false, false, false, false, false, false, false, false, false, false] rfl rfl (any_of HT_.out (by kernel_rfl)) (fun _ _ _ h => h) (Or.inl ⟨by rfl, ?_⟩) ?_ ?_
              rotate_left
              · intro w'
                go_simp
                with_reducible rfl
              rotate_left
              · simp only [Act.put, List.setIfInBounds_toArray, List.set_cons_zero, List.set_cons_succ, i64_w, i32_w]
                rfl
              refine pure_ (i := 12) (N := some 84) (v := ?_) (a' := ?_) #[true, true, true, true, true, true, true, true, true, true, true, true, true, false, false, false, false, false, false, false, false, false, false, false, false, false, false, false, false, false, false, false, false, false] rfl rfl (any_of HT_.out (by kernel_rfl)) (fun _ _ _ h => h) (Or.inl ⟨by rfl, ?_⟩) ?_ ?_
              rotate_left
              · intro w'
                go_simp
                with_reducible rfl
              rotate_left
              · simp only [Act.put, List.setIfInBounds_toArray, List.set_cons_zero, List.set_cons_succ, i64_w, i32_w]
                rfl
              refine pure_ (i := 13) (N := some 85) (v := ?_) (a' := ?_) #[true, true, true, true, true, true, true, true, true, true, true, true, true, true, false, false, false, false, false, false, false, false, false, false, false, false, false, false, false, false, false, false, false, false] rfl rfl (any_of HT_.out (by kernel_rfl)) (fun _ _ _ h => h) (Or.inl ⟨by rfl, ?_⟩) ?_ ?_
              rotate_left
              · intro w'
                go_simp
                with_reducible rfl
              rotate_left
              · simp only [Act.put, List.setIfInBounds_toArray, List.set_cons_zero, List.set_cons_succ, i64_w, i32_w]
                rfl
              refine take_ (i := 14) (N := some 86) (v := ?_) (a' := ?_) #[true, true, true, true, true, true, true, true, true, true, true, true, true, true, true, false, false, false, false, false, false, false, false, false, false, false, false, false, false, false, false, false, false, false] rfl rfl (take_ofW HT_.out HW_.out (by kernel_rfl)) (fun _ _ _ h => h) (Or.inl ⟨by rfl, ?_⟩) hHeld ?_ ?_
              rotate_left
              · intro w' hS
                have h_ := (hS.cell (World.block_lt_of_cell? _ _ HL0.out)).trans HL0.out
                go_simp
                with_reducible rfl
              rotate_left
              · simp only [Act.put, List.setIfInBounds_toArray, List.set_cons_zero, List.set_cons_succ, i64_w, i32_w]
                rfl
              refine pure_ (i := 15) (N := some 87) (v := ?_) (a' := ?_) #[true, true, true, true, true, true, true, true, true, true, true, true, true, true, true, true, false, false, false, false, false, false, false, false, false, false, false, false, false, false, false, false, false, false] rfl rfl (any_of HT_.out (by kernel_rfl)) (fun _ _ _ h => h) (Or.inl ⟨by rfl, ?_⟩) ?_ ?_
              rotate_left
              · intro w'
                go_simp
                with_reducible rfl
              rotate_left
              · simp only [Act.put, List.setIfInBounds_toArray, List.set_cons_zero, List.set_cons_succ, i64_w, i32_w]
                rfl
              refine pure_ (i := 16) (N := some 88) (v := ?_) (a' := ?_) #[true, true, true, true, true, true, true, true, true, true, true, true, true, true, true, true, true, false, false, false, false, false, false, false, false, false, false, false, false, false, false, false, false, false] rfl rfl (any_of HT_.out (by kernel_rfl)) (fun _ _ _ h => h) (Or.inl ⟨by rfl, ?_⟩) ?_ ?_
              rotate_left
              · intro w'
                go_simp
                with_reducible rfl
              rotate_left
              · simp only [Act.put, List.setIfInBounds_toArray, List.set_cons_zero, List.set_cons_succ, i64_w, i32_w]
                rfl
              refine pure_ (i := 17) (N := some 89) (v := ?_) (a' := ?_) #[true, true, true, true, true, true, true, true, true, true, true, true, true, true, true, true, true, true, false, false, false, false, false, false, false, false, false, false, false, false, false, false, false, false] rfl rfl (any_of HT_.out (by kernel_rfl)) (fun _ _ _ h => h) (Or.inl ⟨by rfl, ?_⟩) ?_ ?_
              rotate_left
              · intro w'
                go_simp
                with_reducible rfl
              rotate_left
              · simp only [Act.put, List.setIfInBounds_toArray, List.set_cons_zero, List.set_cons_succ, i64_w, i32_w]
                rfl
              refine pure_ (i := 18) (N := some 90) (v := ?_) (a' := ?_) #[true, true, true, true, true, true, true, true, true, true, true, true, true, true, true, true, true, true, true, false, false, false, false, false, false, false, false, false, false, false, false, false, false, false] rfl rfl (any_of HT_.out (by kernel_rfl)) (fun _ _ _ h => h) (Or.inl ⟨by rfl, ?_⟩) ?_ ?_
              rotate_left
              · intro w'
                go_simp
                with_reducible rfl
              rotate_left
              · simp only [Act.put, List.setIfInBounds_toArray, List.set_cons_zero, List.set_cons_succ, i64_w, i32_w]
                rfl
              refine pure_ (i := 19) (N := some 91) (v := ?_) (a' := ?_) #[true, true, true, true, true, true, true, true, true, true, true, true, true, true, true, true, true, true, true, true, false, false, false, false, false, false, false, false, false, false, false, false, false, false] rfl rfl (any_of HT_.out (by kernel_rfl)) (fun _ _ _ h => h) (Or.inl ⟨by rfl, ?_⟩) ?_ ?_
              rotate_left
              · intro w'
                go_simp
                with_reducible rfl
              rotate_left
              · simp only [Act.put, List.setIfInBounds_toArray, List.set_cons_zero, List.set_cons_succ, i64_w, i32_w]
                rfl
              refine pure_ (i := 20) (N := some 92) (v := ?_) (a' := ?_) #[true, true, true, true, true, true, true, true, true, true, true, true, true, true, true, true, true, true, true, true, true, false, false, false, false, false, false, false, false, false, false, false, false, false] rfl rfl (any_of HT_.out (by kernel_rfl)) (fun _ _ _ h => h) (Or.inl ⟨by rfl, ?_⟩) ?_ ?_
              rotate_left
              · intro w'
                go_simp
                with_reducible rfl
              rotate_left
              · simp only [Act.put, List.setIfInBounds_toArray, List.set_cons_zero, List.set_cons_succ, i64_w, i32_w]
                rfl
              refine pure_ (i := 21) (N := some 93) (v := ?_) (a' := ?_) #[true, true, true, true, true, true, true, true, true, true, true, true, true, true, true, true, true, true, true, true, true, true, false, false, false, false, false, false, false, false, false, false, false, false] rfl rfl (any_of HT_.out (by kernel_rfl)) (fun _ _ _ h => h) (Or.inl ⟨by rfl, ?_⟩) ?_ ?_
              rotate_left
              · intro w'
                go_simp
                with_reducible rfl
              rotate_left
              · simp only [Act.put, List.setIfInBounds_toArray, List.set_cons_zero, List.set_cons_succ, i64_w, i32_w]
                rfl
              refine pure_ (i := 22) (N := some 94) (v := ?_) (a' := ?_) #[true, true, true, true, true, true, true, true, true, true, true, true, true, true, true, true, true, true, true, true, true, true, true, false, false, false, false, false, false, false, false, false, false, false] rfl rfl (any_of HT_.out (by kernel_rfl)) (fun _ _ _ h => h) (Or.inl ⟨by rfl, ?_⟩) ?_ ?_
              rotate_left
              · intro w'
                go_simp
                with_reducible rfl
              rotate_left
              · simp only [Act.put, List.setIfInBounds_toArray, List.set_cons_zero, List.set_cons_succ, i64_w, i32_w]
                rfl
              refine pure_ (i := 23) (N := some 95) (v := ?_) (a' := ?_) #[true, true, true, true, true, true, true, true, true, true, true, true, true, true, true, true, true, true, true, true, true, true, true, true, false, false, false, false, false, false, false, false, false, false] rfl rfl (any_of HT_.out (by kernel_rfl)) (fun _ _ _ h => h) (Or.inl ⟨by rfl, ?_⟩) ?_ ?_
              rotate_left
              · intro w'
                go_simp
                with_reducible rfl
              rotate_left
              · simp only [Act.put, List.setIfInBounds_toArray, List.set_cons_zero, List.set_cons_succ, i64_w, i32_w]
                rfl
              refine pure_ (i := 24) (N := some 96) (v := ?_) (a' := ?_) #[true, true, true, true, true, true, true, true, true, true, true, true, true, true, true, true, true, true, true, true, true, true, true, true, true, false, false, false, false, false, false, false, false, false] rfl rfl (any_of HT_.out (by kernel_rfl)) (fun _ _ _ h => h) (Or.inl ⟨by rfl, ?_⟩) ?_ ?_
              rotate_left
              · intro w'
                go_simp
                with_reducible rfl
              rotate_left
              · simp only [Act.put, List.setIfInBounds_toArray, List.set_cons_zero, List.set_cons_succ, i64_w, i32_w]
                rfl
              refine take_ (i := 25) (N := some 97) (v := ?_) (a' := ?_) #[true, true, true, true, true, true, true, true, true, true, true, true, true, true, true, true, true, true, true, true, true, true, true, true, true, true, false, false, false, false, false, false, false, false] rfl rfl (take_ofW HT_.out HW_.out (by kernel_rfl)) (fun _ _ _ h => h) (Or.inl ⟨by rfl, ?_⟩) hHeld ?_ ?_
              rotate_left
              · intro w' hS
                have h_ := (hS.cell (World.block_lt_of_cell? _ _ HL1.out)).trans HL1.out
                go_simp
                with_reducible rfl
              rotate_left
              · simp only [Act.put, List.setIfInBounds_toArray, List.set_cons_zero, List.set_cons_succ, i64_w, i32_w]
                rfl
              refine take_ (i := 26) (N := some 98) (v := ?_) (a' := ?_) #[true, true, true, true, true, true, true, true, true, true, true, true, true, true, true, true, true, true, true, true, true, true, true, true, true, true, true, false, false, false, false, false, false, false] rfl rfl (take_ofW HT_.out HW_.out (by kernel_rfl)) (fun _ _ _ h => h) (Or.inl ⟨by rfl, ?_⟩) hHeld ?_ ?_
              rotate_left
              · intro w' hS
                have h_ := Kd.C_string (P := Try.prog) (A := Al) (c := cl) Try.underlying22 Try.underlying5 Try.underlying9 (Kd.C_below HLC.out hS)
                go_simp
                with_reducible rfl
              rotate_left
              · simp only [Act.put, List.setIfInBounds_toArray, List.set_cons_zero, List.set_cons_succ, i64_w, i32_w]
                rfl
              refine pure_ (i := 27) (N := some 99) (v := ?_) (a' := ?_) #[true, true, true, true, true, true, true, true, true, true, true, true, true, true, true, true, true, true, true, true, true, true, true, true, true, true, true, true, false, false, false, false, false, false] rfl rfl (any_of HT_.out (by kernel_rfl)) (fun _ _ _ h => h) (Or.inl ⟨by rfl, ?_⟩) ?_ ?_
              rotate_left
              · intro w'
                go_simp
                with_reducible rfl
              rotate_left
              · simp only [Act.put, List.setIfInBounds_toArray, List.set_cons_zero, List.set_cons_succ, i64_w, i32_w]
                rfl
              refine pure_ (i := 28) (N := some 100) (v := ?_) (a' := ?_) #[true, true, true, true, true, true, true, true, true, true, true, true, true, true, true, true, true, true, true, true, true, true, true, true, true, true, true, true, true, false, false, false, false, false] rfl rfl (any_of HT_.out (by kernel_rfl)) (fun _ _ _ h => h) (Or.inl ⟨by rfl, ?_⟩) ?_ ?_
              rotate_left
              · intro w'
                go_simp
                with_reducible rfl
              rotate_left
              · simp only [Act.put, List.setIfInBounds_toArray, List.set_cons_zero, List.set_cons_succ, i64_w, i32_w]
                rfl
              refine pure_ (i := 29) (N := some 101) (v := ?_) (a' := ?_) #[true, true, true, true, true, true, true, true, true, true, true, true, true, true, true, true, true, true, true, true, true, true, true, true, true, true, true, true, true, true, false, false, false, false] rfl rfl (any_of HT_.out (by kernel_rfl)) (fun _ _ _ h => h) (Or.inl ⟨by rfl, ?_⟩) ?_ ?_
              rotate_left
              · intro w'
                go_simp
                with_reducible rfl
              rotate_left
              · simp only [Act.put, List.setIfInBounds_toArray, List.set_cons_zero, List.set_cons_succ, i64_w, i32_w]
                rfl
              refine take_ (i := 30) (N := some 102) (v := ?_) (a' := ?_) #[true, true, true, true, true, true, true, true, true, true, true, true, true, true, true, true, true, true, true, true, true, true, true, true, true, true, true, true, true, true, true, false, false, false] rfl rfl (take_ofW HT_.out HW_.out (by kernel_rfl)) (fun _ _ _ h => h) (Or.inl ⟨by rfl, ?_⟩) hHeld ?_ ?_
              rotate_left
              · intro w' hS
                have h_ := (hS.cell (World.block_lt_of_cell? _ _ HCC.out)).trans HCC.out
                go_simp
                with_reducible rfl
              rotate_left
              · simp only [Act.put, List.setIfInBounds_toArray, List.set_cons_zero, List.set_cons_succ, i64_w, i32_w]
                rfl
              refine take_ (i := 31) (N := some 103) (v := ?_) (a' := ?_) #[true, true, true, true, true, true, true, true, true, true, true, true, true, true, true, true, true, true, true, true, true, true, true, true, true, true, true, true, true, true, true, true, false, false] rfl rfl (take_ofW HT_.out HW_.out (by kernel_rfl)) (fun _ _ _ h => h) (Or.inl ⟨by rfl, ?_⟩) hHeld ?_ ?_
              rotate_left
              · intro w' hS
                have h_ := Kd.C_string (P := Try.prog) (A := A2) (c := c2) Try.underlying22 Try.underlying5 Try.underlying9 (Kd.C_below HC2.out hS)
                go_simp
                with_reducible rfl
              rotate_left
              · simp only [Act.put, List.setIfInBounds_toArray, List.set_cons_zero, List.set_cons_succ, i64_w, i32_w]
                rfl
              refine pure_ (i := 32) (N := some 104) (v := ?_) (a' := ?_) #[true, true, true, true, true, true, true, true, true, true, true, true, true, true, true, true, true, true, true, true, true, true, true, true, true, true, true, true, true, true, true, true, true, false] rfl rfl (any_of HT_.out (by kernel_rfl)) (fun _ _ _ h => h) (Or.inl ⟨by rfl, ?_⟩) ?_ ?_
              rotate_left
              · intro w'
                go_simp
                with_reducible rfl
              rotate_left
              · simp only [Act.put, List.setIfInBounds_toArray, List.set_cons_zero, List.set_cons_succ, i64_w, i32_w]
                rfl
              refine pure_ (i := 33) (N := some 105) (v := ?_) (a' := ?_) #[true, true, true, true, true, true, true, true, true, true, true, true, true, true, true, true, true, true, true, true, true, true, true, true, true, true, true, true, true, true, true, true, true, true] rfl rfl (any_of HT_.out (by kernel_rfl)) (fun _ _ _ h => h) (Or.inl ⟨by rfl, ?_⟩) ?_ ?_
              rotate_left
              · intro w'
                go_simp
                with_reducible rfl
              rotate_left
              · simp only [Act.put, List.setIfInBounds_toArray, List.set_cons_zero, List.set_cons_succ, i64_w, i32_w]
                rfl
              refine done_ (done_of HT_.out (by kernel_rfl)) ?_
              clear hw1 hw2
              go_wp2
              go_roundg (i - 1 - j)
              case measure => have := HJ.out; have := HK2.out; omega
              case rel => exact ⟨j + 1, by go_num, ⟨by have := HK2.out; omega, by omega⟩, ⟨below_drew1 HB7.out⟩⟩
            · have hji : j = i := by have := HJ.out; omega
              subst hji
              have hEl : E.length = j := HEL.out
              have hjE : ¬ j < E.length := by omega
              have d3 : decide ((j : Int) < (E.length : Int)) = false := decide_eq_false (by omega)
              obtain ⟨k, hk, hkl⟩ : ∃ k : Nat, Int.tmod (Go.bits .and .i64 a1 255) (E.length : Int) = (k : Int) ∧ k < E.length := by
                have e := and_low a1 8 (by omega)
                rw [show ((2 ^ 8 - 1 : Nat) : Int) = 255 from rfl, show ((2 ^ 8 : Nat) : Int) = 256 from rfl] at e
                rw [e, Int.tmod_eq_emod_of_nonneg (by omega)]
                have h1 := Int.emod_nonneg (a1 % 256) (b := (E.length : Int)) (by omega)
                have h2 := Int.emod_lt_of_pos (a1 % 256) (b := (E.length : Int)) (by omega)
                exact ⟨((a1 % 256) % (E.length : Int)).toNat, by omega, by omega⟩
              have hkj : k < j := by omega
              have HKJ := Aside0.mk hkj
              have hkL : k < L.length := by have := HIL.out; omega
              have hkB : k < B.length := by rw [HRL.out]; exact hkj
              have HB9 := Aside0.mk (below_step HB.out HB7.out)
              -- the place of record k, what stands ahead of it and behind
              have hce := head_cell (Kd.C_below HEC.out.2 HB7.out) k hkl
              rw [HEA.out k hkj] at hce
              have hBk := HGE.out k hkB
              have hsp : C = catL (recsOf (fun j => (j : Int) * 25 + 1) L k) ++ recL ((k : Int) * 25 + 1) (rd_L1 L (k : Int)) ++ catL (B.drop (k + 1)) := by
                rw [← HCE.out, HRT.out k (by omega)]
                conv => lhs; rw [← List.take_append_drop k B]
                rw [catL_append, List.drop_eq_getElem_cons hkB, catL_cons, hBk, List.append_assoc]
              have hsp2 : C = catL (recsOf (fun j => (j : Int) * 25 + 1) L k) ++ catL (B.drop k) := by
                rw [← HCE.out, HRT.out k (by omega), ← catL_append, List.take_append_drop]
              have hyk := HLE2.out k hkj
              have hyB : isB (rd_L1 L (k : Int)) := by
                unfold rd_L1
                rw [Int.toNat_natCast, List.getD_eq_getElem?_getD, List.getElem?_eq_getElem hkL]
                exact HBL.out _ (List.getElem_mem _)
              have hj10' : j ≤ 10 := HI10.out
              have htk := take_rec (l := catL (recsOf (fun j => (j : Int) * 25 + 1) L k)) (r := catL (B.drop (k + 1))) (kind := (k : Int) * 25 + 1) hyB (by omega) (by omega) (by omega)
              rw [← hsp] at htk
              have hdr : C.drop (catL (recsOf (fun j => (j : Int) * 25 + 1) L k)).length = catL (B.drop k) := by rw [hsp2, List.drop_left]
              have hqC : (catL (recsOf (fun j => (j : Int) * 25 + 1) L k)).length ≤ C.length := by
                have := congrArg List.length hsp2
                rw [List.length_append] at this
                omega
              have hfit2 := fit_all (HOK.out.drop k) [] (.inl rfl)
              rw [List.append_nil] at hfit2
              have hdl : (B.drop k).length = j - k := by rw [List.length_drop, HRL.out]
              have hft2 : ftold (catL (B.drop k)) 100 = placesL 0 (B.drop k) := by
                unfold ftold
                rw [hfit2, List.take_of_length_le]
                rw [placesL_length, hdl]
                have : (100 : Int).toNat = 100 := rfl
                omega
              have hpl2 := placesL_length 0 (B.drop k)
              rw [hdl] at hpl2
              have hps2 := placesL_say 0 (B.drop k)
              have hp0 : rd ((placesL 0 (B.drop k)).map (·.1)) 0 = 0 := by
                have h1 := placesL_getD (B.drop k) 0 0 (by rw [hdl]; omega)
                unfold rd
                rw [show (0 : Int).toNat = 0 from rfl, h1]
                simp [catL]
              have hb0 : (B.drop k)[0]? = some ((k : Int) * 25 + 1, rd_L1 L (k : Int)) := by
                rw [List.getElem?_drop, Nat.add_zero, List.getElem?_eq_getElem hkB, hBk]
              have hdB : isB (catL (B.drop k)) := catL_isB (HOK.out.drop k)
              obtain ⟨q, eq⟩ : ∃ q, (catL (recsOf (fun j => (j : Int) * 25 + 1) L k)).length = q := ⟨_, rfl⟩
              obtain ⟨y, ey⟩ : ∃ y, rd_L1 L (k : Int) = y := ⟨_, rfl⟩
              obtain ⟨D, eD⟩ : ∃ D, B.drop k = D := ⟨_, rfl⟩
              obtain ⟨T2, eT2⟩ : ∃ T2, placesL 0 D = T2 := ⟨_, rfl⟩
              rw [eq] at hce htk hdr hqC
              rw [ey] at htk hyk hb0
              rw [eD] at hdr hdl hft2 hpl2 hps2 hp0 hb0 hdB
              rw [eT2] at hft2 hpl2 hps2 hp0
              obtain ⟨X, eX⟩ : ∃ X, catL D = X := ⟨_, rfl⟩
              rw [eX] at hdr hft2 hdB
              obtain ⟨i0, hi0, _, hsz0, _⟩ := info_parts hinfo_u8
              obtain ⟨A8, hsl, hsA, hsC⟩ := print_drop_of (P := Try.prog) (Value.int .u8) 0 22 5 .i64 Try.underlying22 hi0 hsz0 Ab cb C (q : Int) (by omega) (by omega) HVC.out.1
              have hRx := Kd.C_of_reads (h1 := fun _ => rfl) (hsA _ (Kd.reads_of_C (Kd.C_below HVC.out.2 HB7.out)))
              rw [Int.toNat_natCast, hdr] at hsl hRx hsC
              have HRX : Aside0 (Kd.C (Kd.int .u8) wr A8 X.length X) := ⟨hRx⟩
              have hXl : X.length ≤ 3120 := by have := HCL.out; rw [← hdr, List.length_drop]; omega
              have htold2 := fun (w' : World) (hw : Kd.C (Kd.int .u8) w' A8 X.length X) => ftold2_calls A8 (cb - q) X 100 w' hw hsC hdB (by omega)
              rw [hft2] at htold2
              have HTOLD2 := Aside0.mk htold2
              have hto : takeO C (q : Int) = some ((k : Int) * 25 + 1, y, (q : Int) + 12 + y.length, 0) := by
                unfold takeO
                rw [if_pos ⟨HCB.out, by have := HCL.out; omega⟩, htk]
              have HTO := Aside0.mk hto
              have HVC9 := Aside0.mk (And.intro HVC.out.1 (Kd.C_below HVC.out.2 HB7.out))
              have HEC9 := Aside0.mk (And.intro HEC.out.1 (Kd.C_below HEC.out.2 HB7.out))
              have HPL2 := Aside0.mk hpl2
              have HPS2 := Aside0.mk hps2
              have HP0 := Aside0.mk hp0
              have HB0' := Aside0.mk hb0
              have HY3 := Aside0.mk hyk
              have HDL := Aside0.mk hdl
              have HEY := Aside0.mk ey
              have HEQ := Aside0.mk eq
              have HQC := Aside0.mk hqC
              have hsz : frame_Size.f (y.length : Int) = some ((y.length : Int) + 12) := by
                unfold frame_Size.f mx
                rw [if_neg (by omega), w64 (by omega) (by omega), Int.add_comm]
              have HSZ := Aside0.mk hsz
              have HEAk := Aside0.mk (HEA.out k hkj)
              clear HVC HEC HB htold2 hto hpl2 hps2 hp0 hb0 hyk hdl ey eq eD eT2 eX hi0 hsz0 hsA hRx hsC hft2 hfit2 hsp hsp2 hyB htk hdr hBk hdB hsz hXl k2 hqC hEl
              have HB := HB9
              clear HB9
              have HKL := Aside0.mk hkl
              go_wp2_with (first | ((with_reducible refine gate_callee (f := 17) rfl ?_); refine goesL_ (some 122) rfl rfl Try.func17 (by kernel_rfl) rfl #[.slice A8 X.length (cb - q), .int .i64 100] rfl (by (try simp only [List.map_toArray, List.map_cons, List.map_nil]); first | done | rfl) ?_; refine (HTOLD2.out _ HRX.out).mono ?_; rintro e w8 ⟨v8, A9, c9, rfl, ho, hle9, hC9, hg9, hb⟩; refine ⟨_, rfl, ?_⟩; obtain ⟨gp2, cp2, rfl, _, _, _, _⟩ := Kd.R_form ho (by rw [List.length_map, HPL2.out]; have := HKJ.out; omega); obtain ⟨gl2, rfl⟩ := hg9 (by rw [HPL2.out]; have := HKJ.out; omega); have HP2 := Aside0.mk (Kd.R_reads' ho).2.2; have HLR2 := Aside0.mk hC9; have n0_ := Aside0.mk (And.intro HVC9.out.1 (Kd.C_below HVC9.out.2 hb)); have n2_ := Aside0.mk (And.intro HEC9.out.1 (Kd.C_below HEC9.out.2 hb)); clear HVC9 HEC9 ho hC9 hle9; have HVC9 := n0_; have HEC9 := n2_; clear n0_ n2_; have n1_ := Aside0.mk (below_step HB.out hb); clear HB hb; have HB := n1_; clear n1_; have hce9 := head_cell HEC9.out.2 k HKL.out; rw [HEAk.out, HEQ.out] at hce9) | ((with_reducible refine gate_callee (f := 13) rfl ?_); refine goesL_ (some 131) rfl rfl Try.func13 (by kernel_rfl) rfl #[.slice Ab C.length cb, .int .i64 (q : Int)] rfl (by (try simp only [List.map_toArray, List.map_cons, List.map_nil]); first | done | rfl) ?_; refine (take_calls _ _ C _ _ _ _ _ _ HVC9.out.2 HVC9.out.1 HTO.out).mono ?_; rintro e w10 ⟨v10, rfl, hv, hb⟩; refine ⟨_, rfl, ?_⟩; obtain ⟨A10, c10, rfl, hle10, hF10⟩ := hv; have HBX := Aside0.mk (blk_new w10 (.cells #[.int .i64 ((k : Int) * 25 + 1), .slice A10 y.length c10] 29)); have HP3 := Aside0.mk (Kd.C_alloc (Kd.C_below HP2.out hb) (.cells #[.int .i64 ((k : Int) * 25 + 1), .slice A10 y.length c10] 29)); have HLR3 := Aside0.mk (Kd.C_alloc (Kd.C_below HLR2.out hb) (.cells #[.int .i64 ((k : Int) * 25 + 1), .slice A10 y.length c10] 29)); have HEC3 := Aside0.mk (Kd.C_alloc (Kd.C_below HEC9.out.2 hb) (.cells #[.int .i64 ((k : Int) * 25 + 1), .slice A10 y.length c10] 29)); have n1_ := Aside0.mk (below_alloc (below_step HB.out hb) (.cells #[.int .i64 ((k : Int) * 25 + 1), .slice A10 y.length c10] 29)); clear HB HP2 HLR2 hF10 hb; have HB := n1_; clear n1_))
              have hlk : T2.length = E.length - k := by rw [HPL2.out, HEL.out]
              have hlq : (T2.length : Int) = (E.length : Int) - (k : Int) := by have := HKL.out; omega
              have hl1 : ((T2.length : Int) == wrap64 ((E.length : Int) - (k : Int))) = true := by rw [w64 (by omega) (by omega)]; exact beq_iff_eq.mpr hlq
              have hl2 : ((T2.length : Int) == (E.length : Int) - (k : Int)) = true := beq_iff_eq.mpr hlq
              have hws : wrap64 ((q : Int) + ((y.length : Int) + 12)) = (q : Int) + 12 + (y.length : Int) := by
                have := HQC.out
                have := HCL.out
                have := HY3.out
                rw [w64 (by omega) (by omega)]
                omega
              have hTp : 0 < T2.length := by have := HKL.out; omega
              have HTP := Aside0.mk hTp
              have HD0 : ∃ h : 0 < D.length, D[0] = ((k : Int) * 25 + 1, y) := List.getElem?_eq_some_iff.1 HB0'.out
              rw [HPS2.out] at HLR3
              obtain ⟨ad, Ay, cy, hA, hcy, hley, hCy⟩ := at_L1 HR0.out (k : Int) (by omega) (by have := HKJ.out; have := HIL.out; omega)
              subst hA
              rw [Int.toNat_natCast, HEY.out] at hcy
              have HCY := Aside0.mk hcy
              have HDD := Aside0.mk HD0
              clear hlk hlq hcy hley hCy HD0
              refine start_ (n := 52) (S := fun w' => Below (w10.alloc (.cells #[.int .i64 ((k : Int) * 25 + 1), .slice A10 y.length c10] 29)).heap.size (w10.alloc (.cells #[.int .i64 ((k : Int) * 25 + 1), .slice A10 y.length c10] 29)) w') (ds := []) #[false, false, false, false, false, false, false, false, false, false, false, false, false, false, false, false, false, false, false, false, false, false, false, false, false, false, false, false, false, false, false, false, false, false, false, false, false, false, false, false, false, false, false, false, false, false, false, false, false, false, false, false] (by kernel_rfl) rfl rfl (below_drew1 (Below.refl _ _)) (fun hHeld => ?_)
              refine with_tabW rows.tab26 rows.bits26 (fun HT_ HW_ => ?_)
              refine pure_ (i := 0) (N := some 135) (v := ?_) (a' := ?_) #[true, false, false, false, false, false, false, false, false, false, false, false, false, false, false, false, false, false, false, false, false, false, false, false, false, false, false, false, false, false, false, false, false, false, false, false, false, false, false, false, false, false, false, false, false, false, false, false, false, false, false, false] rfl rfl (any_of HT_.out (by kernel_rfl)) (fun _ _ _ h => h) (Or.inl ⟨by rfl, ?_⟩) ?_ ?_
              rotate_left
              · intro w'
                go_simp
                with_reducible rfl
              rotate_left
              · simp only [Act.put, List.setIfInBounds_toArray, List.set_cons_zero, List.set_cons_succ, i64_w, i32_w]
                rfl
              refine pure_ (i := 1) (N := some 136) (v := ?_) (a' := ?_) #[true, true, false, false, false, false, false, false, false, false, false, false, false, false, false, false, false, false, false, false, false, false, false, false, false, false, false, false, false, false, false, false, false, false, false, false, false, false, false, false, false, false, false, false, false, false, false, false, false, false, false, false] rfl rfl (any_of HT_.out (by kernel_rfl)) (fun _ _ _ h => h) (Or.inl ⟨by rfl, ?_⟩) ?_ ?_
              rotate_left
              · intro w'
                go_simp
                with_reducible rfl
              rotate_left
              · simp only [Act.put, List.setIfInBounds_toArray, List.set_cons_zero, List.set_cons_succ, i64_w, i32_w]
                rfl
              refine pure_ (i := 2) (N := some 137) (v := ?_) (a' := ?_) #[true, true, true, false, false, false, false, false, false, false, false, false, false, false, false, false, false, false, false, false, false, false, false, false, false, false, false, false, false, false, false, false, false, false, false, false, false, false, false, false, false, false, false, false, false, false, false, false, false, false, false, false] rfl rfl (any_of HT_.out (by kernel_rfl)) (fun _ _ _ h => h) (Or.inl ⟨by rfl, ?_⟩) ?_ ?_
              rotate_left
              · intro w'
                go_simp
                with_reducible rfl
              rotate_left
              · simp only [Act.put, List.setIfInBounds_toArray, List.set_cons_zero, List.set_cons_succ, i64_w, i32_w]
                rfl
              refine pure_ (i := 3) (N := some 138) (v := ?_) (a' := ?_) #[true, true, true, true, false, false, false, false, false, false, false, false, false, false, false, false, false, false, false, false, false, false, false, false, false, false, false, false, false, false, false, false, false, false, false, false, false, false, false, false, false, false, false, false, false, false, false, false, false, false, false, false] rfl rfl (any_of HT_.out (by kernel_rfl)) (fun _ _ _ h => h) (Or.inl ⟨by rfl, ?_⟩) ?_ ?_
              rotate_left
              · intro w'
                go_simp
                with_reducible rfl
              rotate_left
              · simp only [Act.put, List.setIfInBounds_toArray, List.set_cons_zero, List.set_cons_succ, i64_w, i32_w]
                rfl
              refine pure_ (i := 4) (N := some 139) (v := ?_) (a' := ?_) #[true, true, true, true, true, false, false, false, false, false, false, false, false, false, false, false, false, false, false, false, false, false, false, false, false, false, false, false, false, false, false, false, false, false, false, false, false, false, false, false, false, false, false, false, false, false, false, false, false, false, false, false] rfl rfl (any_of HT_.out (by kernel_rfl)) (fun _ _ _ h => h) (Or.inl ⟨by rfl, ?_⟩) ?_ ?_
              rotate_left
              · intro w'
                go_simp
                with_reducible rfl
              rotate_left
              · simp only [Act.put, List.setIfInBounds_toArray, List.set_cons_zero, List.set_cons_succ, i64_w, i32_w]
                rfl
              refine pure_ (i := 5) (N := some 140) (v := ?_) (a' := ?_) #[true, true, true, true, true, true, false, false, false, false, false, false, false, false, false, false, false, false, false, false, false, false, false, false, false, false, false, false, false, false, false, false, false, false, false, false, false, false, false, false, false, false, false, false, false, false, false, false, false, false, false, false] rfl rfl (any_of HT_.out (by kernel_rfl)) (fun _ _ _ h => h) (Or.inl ⟨by rfl, ?_⟩) ?_ ?_
              rotate_left
              · intro w'
                go_simp
                with_reducible rfl
              rotate_left
              · simp only [Act.put, List.setIfInBounds_toArray, List.set_cons_zero, List.set_cons_succ, i64_w, i32_w]
                rfl
              refine pure_ (i := 6) (N := some 141) (v := ?_) (a' := ?_) #[true, true, true, true, true, true, true, false, false, false, false, false, false, false, false, false, false, false, false, false, false, false, false, false, false, false, false, false, false, false, false, false, false, false, false, false, false, false, false, false, false, false, false, false, false, false, false, false, false, false, false, false] rfl rfl (any_of HT_.out (by kernel_rfl)) (fun _ _ _ h => h) (Or.inl ⟨by rfl, ?_⟩) ?_ ?_
              rotate_left
              · intro w'
                go_simp
                with_reducible rfl
              rotate_left
              · simp only [Act.put, List.setIfInBounds_toArray, List.set_cons_zero, List.set_cons_succ, i64_w, i32_w]
                rfl
              refine pure_ (i := 7) (N := some 142) (v := ?_) (a' := ?_) #[true, true, true, true, true, true, true, true, false, false, false, false, false, false, false, false, false, false, false, false, false, false, false, false, false, false, false, false, false, false, false, false, false, false, false, false, false, false, false, false, false, false, false, false, false, false, false, false, false, false, false, false] rfl rfl (any_of HT_.out (by kernel_rfl)) (fun _ _ _ h => h) (Or.inl ⟨by rfl, ?_⟩) ?_ ?_
              rotate_left
              · intro w'
                go_simp
                with_reducible rfl
              rotate_left
              · simp only [Act.put, List.setIfInBounds_toArray, List.set_cons_zero, List.set_cons_succ, i64_w, i32_w]
                rfl
              refine pure_ (i := 8) (N := some 143) (v := ?_) (a' := ?_) #[true, true, true, true, true, true, true, true, true, false, false, false, false, false, false, false, false, false, false, false, false, false, false, false, false, false, false, false, false, false, false, false, false, false, false, false, false, false, false, false, false, false, false, false, false, false, false, false, false, false, false, false] rfl rfl (any_of HT_.out (by kernel_rfl)) (fun _ _ _ h => h) (Or.inl ⟨by rfl, ?_⟩) ?_ ?_
              rotate_left
              · intro w'
                go_simp
                with_reducible rfl
              rotate_left
              · simp only [Act.put, List.setIfInBounds_toArray, List.set_cons_zero, List.set_cons_succ, i64_w, i32_w]
                rfl
              refine pure_ (i := 9) (N := some 144) (v := ?_) (a' := ?_) #[true, true, true, true, true, true, true, true, true, true, false, false, false, false, false, false, false, false, false, false, false, false, false, false, false, false, false, false, false, false, false, false, false, false, false, false, false, false, false, false, false, false, false, false, false, false, false, false, false, false, false, false] rfl rfl (any_of HT_.out (by kernel_rfl)) (fun _ _ _ h => h) (Or.inl ⟨by rfl, ?_⟩) ?_ ?_
              rotate_left
              · intro w'
                go_simp
                with_reducible rfl
              rotate_left
              · simp only [Act.put, List.setIfInBounds_toArray, List.set_cons_zero, List.set_cons_succ, i64_w, i32_w]
                rfl
              refine pure_ (i := 10) (N := some 145) (v := ?_) (a' := ?_) #[true, true, true, true, true, true, true, true, true, true, true, false, false, false, false, false, false, false, false, false, false, false, false, false, false, false, false, false, false, false, false, false, false, false, false, false, false, false, false, false, false, false, false, false, false, false, false, false, false, false, false, false] rfl rfl (any_of HT_.out (by kernel_rfl)) (fun _ _ _ h => h) (Or.inl ⟨by rfl, ?_⟩) ?_ ?_
              rotate_left
              · intro w'
                go_simp
                with_reducible rfl
              rotate_left
              · simp only [Act.put, List.setIfInBounds_toArray, List.set_cons_zero, List.set_cons_succ, i64_w, i32_w]
                rfl
              refine pure_ (i := 11) (N := some 146) (v := ?_) (a' := ?_) #[true, true, true, true, true, true, true, true, true, true, true, true, false, false, false, false, false, false, false, false, false, false, false, false, false, false, false, false, false, false, false, false, false, false, false, false, false, false, false, false, false, false, false, false, false, false, false, false, false, false, false, false] rfl rfl (any_of HT_.out (by kernel_rfl)) (fun _ _ _ h => h) (Or.inl ⟨by rfl, ?_⟩) ?_ ?_
              rotate_left
              · intro w'
                go_simp
                with_reducible rfl
              rotate_left
              · simp only [Act.put, List.setIfInBounds_toArray, List.set_cons_zero, List.set_cons_succ, i64_w, i32_w]
                rfl
              refine pure_ (i := 12) (N := some 147) (v := ?_) (a' := ?_) #[true, true, true, true, true, true, true, true, true, true, true, true, true, false, false, false, false, false, false, false, false, false, false, false, false, false, false, false, false, false, false, false, false, false, false, false, false, false, false, false, false, false, false, false, false, false, false, false, false, false, false, false] rfl rfl (any_of HT_.out (by kernel_rfl)) (fun _ _ _ h => h) (Or.inl ⟨by rfl, ?_⟩) ?_ ?_
              rotate_left
              · intro w'
                go_simp
                with_reducible rfl
              rotate_left
              · simp only [Act.put, List.setIfInBounds_toArray, List.set_cons_zero, List.set_cons_succ, i64_w, i32_w]
                rfl
              refine pure_ (i := 13) (N := some 148) (v := ?_) (a' := ?_) #[true, true, true, true, true, true, true, true, true, true, true, true, true, true, false, false, false, false, false, false, false, false, false, false, false, false, false, false, false, false, false, false, false, false, false, false, false, false, false, false, false, false, false, false, false, false, false, false, false, false, false, false] rfl rfl (any_of HT_.out (by kernel_rfl)) (fun _ _ _ h => h) (Or.inl ⟨by rfl, ?_⟩) ?_ ?_
              rotate_left
              · intro w'
                go_simp
                with_reducible rfl
              rotate_left
              · simp only [Act.put, List.setIfInBounds_toArray, List.set_cons_zero, List.set_cons_succ, i64_w, i32_w]
                rfl
              refine pure_ (i := 14) (N := some 149) (v := ?_) (a' := ?_) #[true, true, true, true, true, true, true, true, true, true, true, true, true, true, true, false, false, false, false, false, false, false, false, false, false, false, false, false, false, false, false, false, false, false, false, false, false, false, false, false, false, false, false, false, false, false, false, false, false, false, false, false] rfl rfl (any_of HT_.out (by kernel_rfl)) (fun _ _ _ h => h) (Or.inl ⟨by rfl, ?_⟩) ?_ ?_
              rotate_left
              · intro w'
                go_simp
                with_reducible rfl
              rotate_left
              · simp only [Act.put, List.setIfInBounds_toArray, List.set_cons_zero, List.set_cons_succ, i64_w, i32_w]
                rfl
              refine pure_ (i := 15) (N := some 150) (v := ?_) (a' := ?_) #[true, true, true, true, true, true, true, true, true, true, true, true, true, true, true, true, false, false, false, false, false, false, false, false, false, false, false, false, false, false, false, false, false, false, false, false, false, false, false, false, false, false, false, false, false, false, false, false, false, false, false, false] rfl rfl (any_of HT_.out (by kernel_rfl)) (fun _ _ _ h => h) (Or.inl ⟨by rfl, ?_⟩) ?_ ?_
              rotate_left
              · intro w'
                go_simp
                with_reducible rfl
              rotate_left
              · simp only [Act.put, List.setIfInBounds_toArray, List.set_cons_zero, List.set_cons_succ, i64_w, i32_w]
                rfl
              refine pure_ (i := 16) (N := some 151) (v := ?_) (a' := ?_) #[true, true, true, true, true, true, true, true, true, true, true, true, true, true, true, true, true, false, false, false, false, false, false, false, false, false, false, false, false, false, false, false, false, false, false, false, false, false, false, false, false, false, false, false, false, false, false, false, false, false, false, false] rfl rfl (any_of HT_.out (by kernel_rfl)) (fun _ _ _ h => h) (Or.inl ⟨by rfl, ?_⟩) ?_ ?_
              rotate_left
              · intro w'
                go_simp
                with_reducible rfl
              rotate_left
              · simp only [Act.put, List.setIfInBounds_toArray, List.set_cons_zero, List.set_cons_succ, i64_w, i32_w]
                rfl
              refine take_ (i := 17) (N := some 152) (v := ?_) (a' := ?_) #[true, true, true, true, true, true, true, true, true, true, true, true, true, true, true, true, true, true, false, false, false, false, false, false, false, false, false, false, false, false, false, false, false, false, false, false, false, false, false, false, false, false, false, false, false, false, false, false, false, false, false, false] rfl rfl (take_ofW HT_.out HW_.out (by kernel_rfl)) (fun _ _ _ h => h) (Or.inl ⟨by rfl, ?_⟩) hHeld ?_ ?_
              rotate_left
              · intro w' hS
                have h_ := head_cell (Kd.C_below HP3.out hS) 0 (by rw [List.length_map]; exact HTP.out)
                rw [show ((0 : Nat) : Int) = 0 from rfl, HP0.out] at h_
                go_simp
                with_reducible rfl
              rotate_left
              · simp only [Act.put, List.setIfInBounds_toArray, List.set_cons_zero, List.set_cons_succ, i64_w, i32_w]
                rfl
              refine pure_ (i := 18) (N := some 153) (v := ?_) (a' := ?_) #[true, true, true, true, true, true, true, true, true, true, true, true, true, true, true, true, true, true, true, false, false, false, false, false, false, false, false, false, false, false, false, false, false, false, false, false, false, false, false, false, false, false, false, false, false, false, false, false, false, false, false, false] rfl rfl (any_of HT_.out (by kernel_rfl)) (fun _ _ _ h => h) (Or.inl ⟨by rfl, ?_⟩) ?_ ?_
              rotate_left
              · intro w'
                go_simp
                with_reducible rfl
              rotate_left
              · simp only [Act.put, List.setIfInBounds_toArray, List.set_cons_zero, List.set_cons_succ, i64_w, i32_w]
                rfl
              refine pure_ (i := 19) (N := some 154) (v := ?_) (a' := ?_) #[true, true, true, true, true, true, true, true, true, true, true, true, true, true, true, true, true, true, true, true, false, false, false, false, false, false, false, false, false, false, false, false, false, false, false, false, false, false, false, false, false, false, false, false, false, false, false, false, false, false, false, false] rfl rfl (any_of HT_.out (by kernel_rfl)) (fun _ _ _ h => h) (Or.inl ⟨by rfl, ?_⟩) ?_ ?_
              rotate_left
              · intro w'
                go_simp
                with_reducible rfl
              rotate_left
              · simp only [Act.put, List.setIfInBounds_toArray, List.set_cons_zero, List.set_cons_succ, i64_w, i32_w]
                rfl
              refine pure_ (i := 20) (N := some 155) (v := ?_) (a' := ?_) #[true, true, true, true, true, true, true, true, true, true, true, true, true, true, true, true, true, true, true, true, true, false, false, false, false, false, false, false, false, false, false, false, false, false, false, false, false, false, false, false, false, false, false, false, false, false, false, false, false, false, false, false] rfl rfl (any_of HT_.out (by kernel_rfl)) (fun _ _ _ h => h) (Or.inl ⟨by rfl, ?_⟩) ?_ ?_
              rotate_left
              · intro w'
                go_simp
                with_reducible rfl
              rotate_left
              · simp only [Act.put, List.setIfInBounds_toArray, List.set_cons_zero, List.set_cons_succ, i64_w, i32_w]
                rfl
              refine pure_ (i := 21) (N := some 156) (v := ?_) (a' := ?_) #[true, true, true, true, true, true, true, true, true, true, true, true, true, true, true, true, true, true, true, true, true, true, false, false, false, false, false, false, false, false, false, false, false, false, false, false, false, false, false, false, false, false, false, false, false, false, false, false, false, false, false, false] rfl rfl (any_of HT_.out (by kernel_rfl)) (fun _ _ _ h => h) (Or.inl ⟨by rfl, ?_⟩) ?_ ?_
              rotate_left
              · intro w'
                go_simp
                with_reducible rfl
              rotate_left
              · simp only [Act.put, List.setIfInBounds_toArray, List.set_cons_zero, List.set_cons_succ, i64_w, i32_w]
                rfl
              refine pure_ (i := 22) (N := some 157) (v := ?_) (a' := ?_) #[true, true, true, true, true, true, true, true, true, true, true, true, true, true, true, true, true, true, true, true, true, true, true, false, false, false, false, false, false, false, false, false, false, false, false, false, false, false, false, false, false, false, false, false, false, false, false, false, false, false, false, false] rfl rfl (any_of HT_.out (by kernel_rfl)) (fun _ _ _ h => h) (Or.inl ⟨by rfl, ?_⟩) ?_ ?_
              rotate_left
              · intro w'
                go_simp
                with_reducible rfl
              rotate_left
              · simp only [Act.put, List.setIfInBounds_toArray, List.set_cons_zero, List.set_cons_succ, i64_w, i32_w]
                rfl
              refine pure_ (i := 23) (N := some 158) (v := ?_) (a' := ?_) #[true, true, true, true, true, true, true, true, true, true, true, true, true, true, true, true, true, true, true, true, true, true, true, true, false, false, false, false, false, false, false, false, false, false, false, false, false, false, false, false, false, false, false, false, false, false, false, false, false, false, false, false] rfl rfl (any_of HT_.out (by kernel_rfl)) (fun _ _ _ h => h) (Or.inl ⟨by rfl, ?_⟩) ?_ ?_
              rotate_left
              · intro w'
                go_simp
                with_reducible rfl
              rotate_left
              · simp only [Act.put, List.setIfInBounds_toArray, List.set_cons_zero, List.set_cons_succ, i64_w, i32_w]
                rfl
              refine pure_ (i := 24) (N := some 159) (v := ?_) (a' := ?_) #[true, true, true, true, true, true, true, true, true, true, true, true, true, true, true, true, true, true, true, true, true, true, true, true, true, false, false, false, false, false, false, false, false, false, false, false, false, false, false, false, false, false, false, false, false, false, false, false, false, false, false, false] rfl rfl (any_of HT_.out (by kernel_rfl)) (fun _ _ _ h => h) (Or.inl ⟨by rfl, ?_⟩) ?_ ?_
              rotate_left
              · intro w'
                go_simp
                with_reducible rfl
              rotate_left
              · simp only [Act.put, List.setIfInBounds_toArray, List.set_cons_zero, List.set_cons_succ, i64_w, i32_w]
                rfl
              refine pure_ (i := 25) (N := some 160) (v := ?_) (a' := ?_) #[true, true, true, true, true, true, true, true, true, true, true, true, true, true, true, true, true, true, true, true, true, true, true, true, true, true, false, false, false, false, false, false, false, false, false, false, false, false, false, false, false, false, false, false, false, false, false, false, false, false, false, false] rfl rfl (any_of HT_.out (by kernel_rfl)) (fun _ _ _ h => h) (Or.inl ⟨by rfl, ?_⟩) ?_ ?_
              rotate_left
              · intro w'
                go_simp
                with_reducible rfl
              rotate_left
              · simp only [Act.put, List.setIfInBounds_toArray, List.set_cons_zero, List.set_cons_succ, i64_w, i32_w]
                rfl
              refine take_ (i := 26) (N := some 161) (v := ?_) (a' := ?_) #[true, true, true, true, true, true, true, true, true, true, true, true, true, true, true, true, true, true, true, true, true, true, true, true, true, true, true, false, false, false, false, false, false, false, false, false, false, false, false, false, false, false, false, false, false, false, false, false, false, false, false, false] rfl rfl (take_ofW HT_.out HW_.out (by kernel_rfl)) (fun _ _ _ h => h) (Or.inl ⟨by rfl, ?_⟩) hHeld ?_ ?_
              rotate_left
              · intro w' hS
                have hbk := blk_below HBX.out hS
                have hx0 := blk_cell hbk 0
                have hx1 := blk_cell hbk 1
                go_simp
                with_reducible rfl
              rotate_left
              · simp only [Act.put, List.setIfInBounds_toArray, List.set_cons_zero, List.set_cons_succ, i64_w, i32_w]
                rfl
              refine pure_ (i := 27) (N := some 162) (v := ?_) (a' := ?_) #[true, true, true, true, true, true, true, true, true, true, true, true, true, true, true, true, true, true, true, true, true, true, true, true, true, true, true, true, false, false, false, false, false, false, false, false, false, false, false, false, false, false, false, false, false, false, false, false, false, false, false, false] rfl rfl (any_of HT_.out (by kernel_rfl)) (fun _ _ _ h => h) (Or.inl ⟨by rfl, ?_⟩) ?_ ?_
              rotate_left
              · intro w'
                go_simp
                with_reducible rfl
              rotate_left
              · simp only [Act.put, List.setIfInBounds_toArray, List.set_cons_zero, List.set_cons_succ, i64_w, i32_w]
                rfl
              refine pure_ (i := 28) (N := some 163) (v := ?_) (a' := ?_) #[true, true, true, true, true, true, true, true, true, true, true, true, true, true, true, true, true, true, true, true, true, true, true, true, true, true, true, true, true, false, false, false, false, false, false, false, false, false, false, false, false, false, false, false, false, false, false, false, false, false, false, false] rfl rfl (any_of HT_.out (by kernel_rfl)) (fun _ _ _ h => h) (Or.inl ⟨by rfl, ?_⟩) ?_ ?_
              rotate_left
              · intro w'
                go_simp
                with_reducible rfl
              rotate_left
              · simp only [Act.put, List.setIfInBounds_toArray, List.set_cons_zero, List.set_cons_succ, i64_w, i32_w]
                rfl
              refine pure_ (i := 29) (N := some 164) (v := ?_) (a' := ?_) #[true, true, true, true, true, true, true, true, true, true, true, true, true, true, true, true, true, true, true, true, true, true, true, true, true, true, true, true, true, true, false, false, false, false, false, false, false, false, false, false, false, false, false, false, false, false, false, false, false, false, false, false] rfl rfl (any_of HT_.out (by kernel_rfl)) (fun _ _ _ h => h) (Or.inl ⟨by rfl, ?_⟩) ?_ ?_
              rotate_left
              · intro w'
                go_simp
                with_reducible rfl
              rotate_left
              · simp only [Act.put, List.setIfInBounds_toArray, List.set_cons_zero, List.set_cons_succ, i64_w, i32_w]
                rfl
              refine take_ (i := 30) (N := some 165) (v := ?_) (a' := ?_) #[true, true, true, true, true, true, true, true, true, true, true, true, true, true, true, true, true, true, true, true, true, true, true, true, true, true, true, true, true, true, true, false, false, false, false, false, false, false, false, false, false, false, false, false, false, false, false, false, false, false, false, false] rfl rfl (take_ofW HT_.out HW_.out (by kernel_rfl)) (fun _ _ _ h => h) (Or.inl ⟨by rfl, ?_⟩) hHeld ?_ ?_
              rotate_left
              · intro w' hS
                obtain ⟨hD, eD⟩ := HDD.out
                obtain ⟨Al, cl, hl0, _⟩ := frow_cells (Kd.C_below HLR3.out hS) 0 hD
                rw [eD] at hl0
                go_simp
                with_reducible rfl
              rotate_left
              · simp only [Act.put, List.setIfInBounds_toArray, List.set_cons_zero, List.set_cons_succ, i64_w, i32_w]
                rfl
              refine pure_ (i := 31) (N := some 166) (v := ?_) (a' := ?_) #[true, true, true, true, true, true, true, true, true, true, true, true, true, true, true, true, true, true, true, true, true, true, true, true, true, true, true, true, true, true, true, true, false, false, false, false, false, false, false, false, false, false, false, false, false, false, false, false, false, false, false, false] rfl rfl (any_of HT_.out (by kernel_rfl)) (fun _ _ _ h => h) (Or.inl ⟨by rfl, ?_⟩) ?_ ?_
              rotate_left
              · intro w'
                go_simp
                with_reducible rfl
              rotate_left
              · simp only [Act.put, List.setIfInBounds_toArray, List.set_cons_zero, List.set_cons_succ, i64_w, i32_w]
                rfl
              refine pure_ (i := 32) (N := some 167) (v := ?_) (a' := ?_) #[true, true, true, true, true, true, true, true, true, true, true, true, true, true, true, true, true, true, true, true, true, true, true, true, true, true, true, true, true, true, true, true, true, false, false, false, false, false, false, false, false, false, false, false, false, false, false, false, false, false, false, false] rfl rfl (any_of HT_.out (by kernel_rfl)) (fun _ _ _ h => h) (Or.inl ⟨by rfl, ?_⟩) ?_ ?_
              rotate_left
              · intro w'
                go_simp
                with_reducible rfl
              rotate_left
              · simp only [Act.put, List.setIfInBounds_toArray, List.set_cons_zero, List.set_cons_succ, i64_w, i32_w]
                rfl
              refine pure_ (i := 33) (N := some 168) (v := ?_) (a' := ?_) #[true, true, true, true, true, true, true, true, true, true, true, true, true, true, true, true, true, true, true, true, true, true, true, true, true, true, true, true, true, true, true, true, true, true, false, false, false, false, false, false, false, false, false, false, false, false, false, false, false, false, false, false] rfl rfl (any_of HT_.out (by kernel_rfl)) (fun _ _ _ h => h) (Or.inl ⟨by rfl, ?_⟩) ?_ ?_
              rotate_left
              · intro w'
                go_simp
                with_reducible rfl
              rotate_left
              · simp only [Act.put, List.setIfInBounds_toArray, List.set_cons_zero, List.set_cons_succ, i64_w, i32_w]
                rfl
              refine pure_ (i := 34) (N := some 169) (v := ?_) (a' := ?_) #[true, true, true, true, true, true, true, true, true, true, true, true, true, true, true, true, true, true, true, true, true, true, true, true, true, true, true, true, true, true, true, true, true, true, true, false, false, false, false, false, false, false, false, false, false, false, false, false, false, false, false, false] rfl rfl (any_of HT_.out (by kernel_rfl)) (fun _ _ _ h => h) (Or.inl ⟨by rfl, ?_⟩) ?_ ?_
              rotate_left
              · intro w'
                go_simp
                with_reducible rfl
              rotate_left
              · simp only [Act.put, List.setIfInBounds_toArray, List.set_cons_zero, List.set_cons_succ, i64_w, i32_w]
                rfl
              refine pure_ (i := 35) (N := some 170) (v := ?_) (a' := ?_) #[true, true, true, true, true, true, true, true, true, true, true, true, true, true, true, true, true, true, true, true, true, true, true, true, true, true, true, true, true, true, true, true, true, true, true, true, false, false, false, false, false, false, false, false, false, false, false, false, false, false, false, false] rfl rfl (any_of HT_.out (by kernel_rfl)) (fun _ _ _ h => h) (Or.inl ⟨by rfl, ?_⟩) ?_ ?_
              rotate_left
              · intro w'
                go_simp
                with_reducible rfl
              rotate_left
              · simp only [Act.put, List.setIfInBounds_toArray, List.set_cons_zero, List.set_cons_succ, i64_w, i32_w]
                rfl
              refine pure_ (i := 36) (N := some 171) (v := ?_) (a' := ?_) #[true, true, true, true, true, true, true, true, true, true, true, true, true, true, true, true, true, true, true, true, true, true, true, true, true, true, true, true, true, true, true, true, true, true, true, true, true, false, false, false, false, false, false, false, false, false, false, false, false, false, false, false] rfl rfl (any_of HT_.out (by kernel_rfl)) (fun _ _ _ h => h) (Or.inl ⟨by rfl, ?_⟩) ?_ ?_
              rotate_left
              · intro w'
                go_simp
                with_reducible rfl
              rotate_left
              · simp only [Act.put, List.setIfInBounds_toArray, List.set_cons_zero, List.set_cons_succ, i64_w, i32_w]
                rfl
              refine pure_ (i := 37) (N := some 172) (v := ?_) (a' := ?_) #[true, true, true, true, true, true, true, true, true, true, true, true, true, true, true, true, true, true, true, true, true, true, true, true, true, true, true, true, true, true, true, true, true, true, true, true, true, true, false, false, false, false, false, false, false, false, false, false, false, false, false, false] rfl rfl (any_of HT_.out (by kernel_rfl)) (fun _ _ _ h => h) (Or.inl ⟨by rfl, ?_⟩) ?_ ?_
              rotate_left
              · intro w'
                go_simp
                with_reducible rfl
              rotate_left
              · simp only [Act.put, List.setIfInBounds_toArray, List.set_cons_zero, List.set_cons_succ, i64_w, i32_w]
                rfl
              refine take_ (i := 38) (N := some 173) (v := ?_) (a' := ?_) #[true, true, true, true, true, true, true, true, true, true, true, true, true, true, true, true, true, true, true, true, true, true, true, true, true, true, true, true, true, true, true, true, true, true, true, true, true, true, true, false, false, false, false, false, false, false, false, false, false, false, false, false] rfl rfl (take_ofW HT_.out HW_.out (by kernel_rfl)) (fun _ _ _ h => h) (Or.inl ⟨by rfl, ?_⟩) hHeld ?_ ?_
              rotate_left
              · intro w' hS
                have h_ := head_cell (Kd.C_below HEC3.out hS) k HKL.out
                rw [HEAk.out, HEQ.out] at h_
                go_simp
                with_reducible rfl
              rotate_left
              · simp only [Act.put, List.setIfInBounds_toArray, List.set_cons_zero, List.set_cons_succ, i64_w, i32_w]
                rfl
              refine pure_ (i := 39) (N := some 174) (v := ?_) (a' := ?_) #[true, true, true, true, true, true, true, true, true, true, true, true, true, true, true, true, true, true, true, true, true, true, true, true, true, true, true, true, true, true, true, true, true, true, true, true, true, true, true, true, false, false, false, false, false, false, false, false, false, false, false, false] rfl rfl (any_of HT_.out (by kernel_rfl)) (fun _ _ _ h => h) (Or.inl ⟨by rfl, ?_⟩) ?_ ?_
              rotate_left
              · intro w'
                go_simp
                with_reducible rfl
              rotate_left
              · simp only [Act.put, List.setIfInBounds_toArray, List.set_cons_zero, List.set_cons_succ, i64_w, i32_w]
                rfl
              refine pure_ (i := 40) (N := some 175) (v := ?_) (a' := ?_) #[true, true, true, true, true, true, true, true, true, true, true, true, true, true, true, true, true, true, true, true, true, true, true, true, true, true, true, true, true, true, true, true, true, true, true, true, true, true, true, true, true, false, false, false, false, false, false, false, false, false, false, false] rfl rfl (any_of HT_.out (by kernel_rfl)) (fun _ _ _ h => h) (Or.inl ⟨by rfl, ?_⟩) ?_ ?_
              rotate_left
              · intro w'
                go_simp
                with_reducible rfl
              rotate_left
              · simp only [Act.put, List.setIfInBounds_toArray, List.set_cons_zero, List.set_cons_succ, i64_w, i32_w]
                rfl
              refine pure_ (i := 41) (N := some 176) (v := ?_) (a' := ?_) #[true, true, true, true, true, true, true, true, true, true, true, true, true, true, true, true, true, true, true, true, true, true, true, true, true, true, true, true, true, true, true, true, true, true, true, true, true, true, true, true, true, true, false, false, false, false, false, false, false, false, false, false] rfl rfl (any_of HT_.out (by kernel_rfl)) (fun _ _ _ h => h) (Or.inl ⟨by rfl, ?_⟩) ?_ ?_
              rotate_left
              · intro w'
                go_simp
                with_reducible rfl
              rotate_left
              · simp only [Act.put, List.setIfInBounds_toArray, List.set_cons_zero, List.set_cons_succ, i64_w, i32_w]
                rfl
              refine take_ (i := 42) (N := some 177) (v := ?_) (a' := ?_) #[true, true, true, true, true, true, true, true, true, true, true, true, true, true, true, true, true, true, true, true, true, true, true, true, true, true, true, true, true, true, true, true, true, true, true, true, true, true, true, true, true, true, true, false, false, false, false, false, false, false, false, false] rfl rfl (take_ofW HT_.out HW_.out (by kernel_rfl)) (fun _ _ _ h => h) (Or.inl ⟨by rfl, ?_⟩) hHeld ?_ ?_
              rotate_left
              · intro w' hS
                have h_ := ((below_step HB.out hS).cell (World.block_lt_of_cell? _ _ HCY.out)).trans HCY.out
                go_simp
                with_reducible rfl
              rotate_left
              · simp only [Act.put, List.setIfInBounds_toArray, List.set_cons_zero, List.set_cons_succ, i64_w, i32_w]
                rfl
              refine pure_ (i := 43) (N := some 178) (v := ?_) (a' := ?_) #[true, true, true, true, true, true, true, true, true, true, true, true, true, true, true, true, true, true, true, true, true, true, true, true, true, true, true, true, true, true, true, true, true, true, true, true, true, true, true, true, true, true, true, true, false, false, false, false, false, false, false, false] rfl rfl (any_of HT_.out (by kernel_rfl)) (fun _ _ _ h => h) (Or.inl ⟨by rfl, ?_⟩) ?_ ?_
              rotate_left
              · intro w'
                go_simp
                with_reducible rfl
              rotate_left
              · simp only [Act.put, List.setIfInBounds_toArray, List.set_cons_zero, List.set_cons_succ, i64_w, i32_w]
                rfl
              refine one_ (i := 44) (N := some 179) #[true, true, true, true, true, true, true, true, true, true, true, true, true, true, true, true, true, true, true, true, true, true, true, true, true, true, true, true, true, true, true, true, true, true, true, true, true, true, true, true, true, true, true, true, true, false, false, false, false, false, false, false] rfl rfl (one_of HT_.out (by kernel_rfl)) (by decide) (fun K hK => ?_)
              refine goes_ Try.func15 (by kernel_rfl) rfl #[.int .i64 (y.length : Int)] (by rfl) rfl rfl (by (try simp only [List.map_toArray, List.map_cons, List.map_nil]); first | done | rfl) ?_
              with_reducible refine (frame_Size.calls _ _ _ HSZ.out).mono ?_
              rintro e w11 ⟨rfl, hb⟩
              refine ⟨_, rfl, ?_⟩
              have hS_ := below_step hHeld hb
              refine hK.out _ _ hS_ (fun hHeld => ?_)
              clear hK K
              refine norm_ (a' := ?_) ?_ ?_
              rotate_left
              · show Act.put _ (some 179) _ = _
                simp only [Act.put, List.setIfInBounds_toArray, List.set_cons_zero, List.set_cons_succ, i64_w, i32_w]
                rfl
              refine pure_ (i := 45) (N := some 180) (v := ?_) (a' := ?_) #[true, true, true, true, true, true, true, true, true, true, true, true, true, true, true, true, true, true, true, true, true, true, true, true, true, true, true, true, true, true, true, true, true, true, true, true, true, true, true, true, true, true, true, true, true, true, false, false, false, false, false, false] rfl rfl (any_of HT_.out (by kernel_rfl)) (fun _ _ _ h => h) (Or.inl ⟨by rfl, ?_⟩) ?_ ?_
              rotate_left
              · intro w'
                go_simp
                with_reducible rfl
              rotate_left
              · simp only [Act.put, List.setIfInBounds_toArray, List.set_cons_zero, List.set_cons_succ, i64_w, i32_w]
                rfl
              refine pure_ (i := 46) (N := some 181) (v := ?_) (a' := ?_) #[true, true, true, true, true, true, true, true, true, true, true, true, true, true, true, true, true, true, true, true, true, true, true, true, true, true, true, true, true, true, true, true, true, true, true, true, true, true, true, true, true, true, true, true, true, true, true, false, false, false, false, false] rfl rfl (any_of HT_.out (by kernel_rfl)) (fun _ _ _ h => h) (Or.inl ⟨by rfl, ?_⟩) ?_ ?_
              rotate_left
              · intro w'
                go_simp
                with_reducible rfl
              rotate_left
              · simp only [Act.put, List.setIfInBounds_toArray, List.set_cons_zero, List.set_cons_succ, i64_w, i32_w]
                rfl
              refine pure_ (i := 47) (N := some 182) (v := ?_) (a' := ?_) #[true, true, true, true, true, true, true, true, true, true, true, true, true, true, true, true, true, true, true, true, true, true, true, true, true, true, true, true, true, true, true, true, true, true, true, true, true, true, true, true, true, true, true, true, true, true, true, true, false, false, false, false] rfl rfl (any_of HT_.out (by kernel_rfl)) (fun _ _ _ h => h) (Or.inl ⟨by rfl, ?_⟩) ?_ ?_
              rotate_left
              · intro w'
                go_simp
                with_reducible rfl
              rotate_left
              · simp only [Act.put, List.setIfInBounds_toArray, List.set_cons_zero, List.set_cons_succ, i64_w, i32_w]
                rfl
              refine pure_ (i := 48) (N := some 183) (v := ?_) (a' := ?_) #[true, true, true, true, true, true, true, true, true, true, true, true, true, true, true, true, true, true, true, true, true, true, true, true, true, true, true, true, true, true, true, true, true, true, true, true, true, true, true, true, true, true, true, true, true, true, true, true, true, false, false, false] rfl rfl (any_of HT_.out (by kernel_rfl)) (fun _ _ _ h => h) (Or.inl ⟨by rfl, ?_⟩) ?_ ?_
              rotate_left
              · intro w'
                go_simp
                with_reducible rfl
              rotate_left
              · simp only [Act.put, List.setIfInBounds_toArray, List.set_cons_zero, List.set_cons_succ, i64_w, i32_w]
                rfl
              refine one_ (i := 49) (N := some 184) #[true, true, true, true, true, true, true, true, true, true, true, true, true, true, true, true, true, true, true, true, true, true, true, true, true, true, true, true, true, true, true, true, true, true, true, true, true, true, true, true, true, true, true, true, true, true, true, true, true, true, false, false] rfl rfl (one_of HT_.out (by kernel_rfl)) (by decide) (fun K hK => ?_)
              refine goes_ Try.func10 (by kernel_rfl) rfl #[] (by rfl) rfl rfl (by (try simp only [List.map_toArray, List.map_cons, List.map_nil]); first | done | rfl) ?_
              with_reducible refine (concordancelaw3_awake.calls _ _ _ HAW.out).mono ?_
              rintro e w12 ⟨rfl, hb⟩
              refine ⟨_, rfl, ?_⟩
              have hS_ := below_step hHeld hb
              refine hK.out _ _ hS_ (fun hHeld => ?_)
              clear hK K
              refine norm_ (a' := ?_) ?_ ?_
              rotate_left
              · show Act.put _ (some 184) _ = _
                simp only [Act.put, List.setIfInBounds_toArray, List.set_cons_zero, List.set_cons_succ, i64_w, i32_w]
                rfl
              refine pure_ (i := 50) (N := some 185) (v := ?_) (a' := ?_) #[true, true, true, true, true, true, true, true, true, true, true, true, true, true, true, true, true, true, true, true, true, true, true, true, true, true, true, true, true, true, true, true, true, true, true, true, true, true, true, true, true, true, true, true, true, true, true, true, true, true, true, false] rfl rfl (any_of HT_.out (by kernel_rfl)) (fun _ _ _ h => h) (Or.inl ⟨by rfl, ?_⟩) ?_ ?_
              rotate_left
              · intro w'
                go_simp
                with_reducible rfl
              rotate_left
              · simp only [Act.put, List.setIfInBounds_toArray, List.set_cons_zero, List.set_cons_succ, i64_w, i32_w]
                rfl
              refine pure_ (i := 51) (N := some 4) (v := ?_) (a' := ?_) #[true, true, true, true, true, true, true, true, true, true, true, true, true, true, true, true, true, true, true, true, true, true, true, true, true, true, true, true, true, true, true, true, true, true, true, true, true, true, true, true, true, true, true, true, true, true, true, true, true, true, true, true] rfl rfl (any_of HT_.out (by kernel_rfl)) (fun _ _ _ h => h) (Or.inl ⟨by rfl, ?_⟩) ?_ ?_
              rotate_left
              · intro w'
                go_simp
                with_reducible rfl
              rotate_left
              · simp only [Act.put, List.setIfInBounds_toArray, List.set_cons_zero, List.set_cons_succ, i64_w, i32_w]
                rfl
              refine done_ (done_of HT_.out (by kernel_rfl)) ?_
              go_wp2
              go_ret
              exact ⟨rfl, below_step HB.out hHeld⟩
end Go.Proofs.Ytcnapbpljghfoaa.Hand

/- Bits that are turned within 32 in a row within one record, in plain words: the record is refused, the ones ahead of it are told. -/
namespace Go.Proofs.Ytcnapbpljghfoaa.Plain
open Go.RowKit Go.Proofs.YtcnapbpljghfoaaW.PrintWords Go.Proofs.Ytcnapbpljghfoaa.PCrc
open Go.Proofs.Ytcnapbpljghfoaa.Hand (tailL endW endT fend ftold)
set_option linter.unusedVariables false
set_option linter.unusedSimpArgs false

theorem numL_inj : ∀ {l m : List Int}, isB l → isB m → l.length = m.length → numL l = numL m → l = m
  | [], m, _, _, h, _ => (List.length_eq_zero_iff.1 h.symm).symm
  | a :: l, [], _, _, h, _ => by simp at h
  | a :: l, b :: m, hl, hm, h, e => by
    have ha := hl a (.head _)
    have hb := hm b (.head _)
    simp only [numL] at e
    have e1 : a = b := by omega
    have e2 : numL l = numL m := by omega
    rw [e1, numL_inj (fun x hx => hl x (.tail _ hx)) (fun x hx => hm x (.tail _ hx)) (by simpa using h) e2]
theorem xor_self_iff' {x y : Nat} (h : x ^^^ y = x) : y = 0 := by
  have h9 := congrArg (fun q => x ^^^ q) h
  simpa only [← Nat.xor_assoc, Nat.xor_self, Nat.zero_xor] using h9
/-- The turned text is refused when any bit was turned. -/
theorem burst_open {s t : List Int} (hs : isB s) (ht : isB t) (hl : t.length = s.length) (h4 : 4 ≤ s.length) {K Q : Nat} (hK : K ≤ 8 * s.length) (hQ : Q < 4294967296) (hQ0 : Q ≠ 0)
    (hsum : sumN ones s = bitsN 32 ones) (hn : numL t = numL s ^^^ Q * 2 ^ K) : openL t = ([], 5) := by
  unfold openL
  rw [if_neg (by omega), if_neg]
  intro hc
  have h9 := (sealed_iff (isB_take ht _) (isB_drop ht _) (by rw [List.length_drop]; omega)).1 hc
  rw [List.take_append_drop, sumN_num t _ ht, hl, hn, ← Nat.xor_assoc, bitsN_xor, ← sumN_num s _ hs, hsum] at h9
  exact hQ0 (burst_found hQ hK (xor_self_iff' h9))

/-- The bits of a pattern that have been gone over, as far as the text reaches. -/
def low (P i R : Nat) : Nat := P % 2 ^ (min i R)
theorem low_zero (P R : Nat) : low P 0 R = 0 := by unfold low; rw [Nat.zero_min, Nat.pow_zero, Nat.mod_one]
theorem low_past (P : Nat) {i R : Nat} (h : R ≤ i) : low P (i + 1) R = low P i R := by unfold low; rw [Nat.min_eq_right (by omega), Nat.min_eq_right h]
theorem mod_next (P i : Nat) : P % 2 ^ (i + 1) = P / 2 ^ i % 2 * 2 ^ i + P % 2 ^ i := by
  rw [Nat.pow_succ, Nat.mod_mul, Nat.add_comm, Nat.mul_comm]
theorem low_none (P : Nat) {i R : Nat} (h : i < R) (hb : P / 2 ^ i % 2 = 0) : low P (i + 1) R = low P i R := by
  unfold low
  rw [Nat.min_eq_left (by omega), Nat.min_eq_left (by omega), mod_next, hb, Nat.zero_mul, Nat.zero_add]
theorem low_one (P : Nat) {i R : Nat} (h : i < R) (hb : P / 2 ^ i % 2 = 1) : low P (i + 1) R = low P i R ^^^ 2 ^ i ∧ low P (i + 1) R ≠ 0 := by
  unfold low
  rw [Nat.min_eq_left (by omega), Nat.min_eq_left (by omega), mod_next, hb, Nat.one_mul]
  have hp : 0 < 2 ^ i := Nat.pow_pos (by omega)
  have hlt : P % 2 ^ i < 2 ^ i := Nat.mod_lt _ hp
  refine ⟨?_, by omega⟩
  have h1 := Go.nat_join i (2 ^ i) (P % 2 ^ i) (Nat.mod_self _) hlt
  have h3 : 2 ^ i ||| P % 2 ^ i = 2 ^ i ^^^ P % 2 ^ i := by
    apply Nat.eq_of_testBit_eq
    intro j
    rw [Nat.testBit_or, Nat.testBit_xor, Nat.testBit_two_pow]
    by_cases hj : i = j
    · subst hj
      rw [Nat.testBit_lt_two_pow hlt]
      simp
    · simp [hj]
  rw [← h1, h3, Nat.xor_comm]
theorem low_lt {P : Nat} (h : P < 4294967296) (i R : Nat) : low P i R < 4294967296 := Nat.lt_of_le_of_lt (Nat.mod_le _ _) h
theorem low_same (P : Nat) {i R : Nat} (h : P / 2 ^ i % 2 = 0 ∨ R ≤ i) : low P (i + 1) R = low P i R := by
  rcases Nat.lt_or_ge i R with hr | hr
  · rcases h with h | h
    · exact low_none P hr h
    · omega
  · exact low_past P hr

/-- What a record has become: so many bits have been gone over. -/
def Turn (R : List Int) (Q o i : Nat) (R' : List Int) : Prop := isB R' ∧ R'.length = R.length ∧ numL R' = numL R ^^^ low Q i (8 * R.length - o) * 2 ^ o
theorem Turn.zero {R : List Int} (h : isB R) (Q o : Nat) : Turn R Q o 0 R := ⟨h, rfl, by rw [low_zero, Nat.zero_mul, Nat.xor_zero]⟩
theorem Turn.none {R R' : List Int} {Q o i : Nat} (h : Turn R Q o i R') (hb : Q / 2 ^ i % 2 = 0 ∨ 8 * R.length - o ≤ i) : Turn R Q o (i + 1) R' := by
  refine ⟨h.1, h.2.1, ?_⟩
  rw [low_same Q hb]
  exact h.2.2
theorem Turn.one {R R' : List Int} {Q o i : Nat} (h : Turn R Q o i R') (hb : Q / 2 ^ i % 2 = 1) (hi : i < 8 * R.length - o) :
    Turn R Q o (i + 1) (R'.set ((o + i) / 8) (((R'.getD ((o + i) / 8) 0).toNat ^^^ 2 ^ ((o + i) % 8) : Nat) : Int)) := by
  obtain ⟨hB, hl, hn⟩ := h
  obtain ⟨hl1, _⟩ := low_one Q hi hb
  have hj : (o + i) / 8 < R'.length := by omega
  have hb8 : (o + i) % 8 < 8 := Nat.mod_lt _ (by omega)
  have hx := hB R'[(o + i) / 8] (List.getElem_mem hj)
  have hp2 : 2 ^ ((o + i) % 8) < 2 ^ 8 := Nat.pow_lt_pow_right (by omega) hb8
  have hg : R'.getD ((o + i) / 8) 0 = R'[(o + i) / 8] := by rw [List.getD_eq_getElem?_getD, List.getElem?_eq_getElem hj]; rfl
  have hvl : (R'.getD ((o + i) / 8) 0).toNat ^^^ 2 ^ ((o + i) % 8) < 2 ^ 8 := by
    rw [hg]
    exact Nat.xor_lt_two_pow (by clear hn hp2 hl1; omega) hp2
  refine ⟨?_, by rw [List.length_set]; exact hl, ?_⟩
  · intro y hy
    rcases List.mem_or_eq_of_mem_set hy with hy | rfl
    · exact hB y hy
    · exact ⟨Int.natCast_nonneg _, Int.ofNat_lt.2 hvl⟩
  · rw [numL_turn R' _ ((o + i) % 8) _ hj hb8 hB rfl, hn, hl1, Nat.xor_assoc]
    congr 1
    have h9 := Nat.shiftLeft_xor_distrib (a := low Q i (8 * R.length - o)) (b := 2 ^ i) (i := o)
    simp only [Nat.shiftLeft_eq] at h9
    rw [h9, ← Nat.pow_add]
    congr 2
    clear h9 hvl hn hl1 hp2
    omega
/-- A record with turned bits is refused. -/
theorem burst_rec {P S R' y : List Int} {kind : Int} (hy : isB y) (h1 : 1 ≤ kind) (h2 : kind ≤ 250) (h3 : y.length ≤ 70000) (hR : isB R') (hl : R'.length = (recL kind y).length)
    {o Q : Nat} (ho : o < 8 * (recL kind y).length) (hQ : Q < 4294967296) (hQ0 : Q ≠ 0) (hn : numL R' = numL (recL kind y) ^^^ Q * 2 ^ o) : (takeF (P ++ R' ++ S) (P.length : Int)).2.2.2 = 5 := by
  obtain ⟨H, hH⟩ : ∃ H, H = headL kind y.length ++ tailL (moreN 0 (headL kind y.length)) := ⟨_, rfl⟩
  obtain ⟨B, hB⟩ : ∃ B, B = y ++ tailL (moreN 0 y) := ⟨_, rfl⟩
  have hHl : H.length = 8 := by rw [hH]; rfl
  have hBl : B.length = y.length + 4 := by rw [hB, List.length_append, tailL_length]
  have hrec : recL kind y = H ++ B := by rw [hH, hB]; rfl
  have hHB : isB H := by rw [hH]; exact sealed_isB (headL_isB _ _)
  have hBB : isB B := by rw [hB]; exact sealed_isB hy
  rw [recL_length] at hl ho
  rw [hrec] at hn
  have hH' : isB (R'.take 8) := isB_take hR 8
  have hB' : isB (R'.drop 8) := isB_drop hR 8
  have hHl' : (R'.take 8).length = 8 := by rw [List.length_take]; omega
  have hBl' : (R'.drop 8).length = y.length + 4 := by rw [List.length_drop]; omega
  have hsH : sumN ones H = bitsN 32 ones := by rw [hH]; exact (sealed_iff (headL_isB _ _) (tailL_isB _) rfl).1 rfl
  have hsB : sumN ones B = bitsN 32 ones := by rw [hB]; exact (sealed_iff hy (tailL_isB _) rfl).1 rfl
  have e1 : numL R' = numL (R'.take 8) + 2 ^ 64 * numL (R'.drop 8) := by
    have := numL_append (R'.take 8) (R'.drop 8)
    rw [List.take_append_drop, hHl'] at this
    exact this
  have e2 : numL (H ++ B) = numL H + 2 ^ 64 * numL B := by rw [numL_append, hHl]
  have l1 : numL (R'.take 8) < 2 ^ 64 := by have := numL_lt _ hH'; rw [hHl'] at this; exact this
  have l2 : numL H < 2 ^ 64 := by have := numL_lt _ hHB; rw [hHl] at this; exact this
  have nH : numL (R'.take 8) = numL H ^^^ (Q * 2 ^ o) % 2 ^ 64 := by
    have q1 : numL R' % 2 ^ 64 = numL (R'.take 8) := by rw [e1, Nat.add_mul_mod_self_left, Nat.mod_eq_of_lt l1]
    have q2 : numL (H ++ B) % 2 ^ 64 = numL H := by rw [e2, Nat.add_mul_mod_self_left, Nat.mod_eq_of_lt l2]
    rw [← q1, hn, Nat.xor_mod_two_pow, q2]
  have nB : numL (R'.drop 8) = numL B ^^^ (Q * 2 ^ o) / 2 ^ 64 := by
    have q1 : numL R' / 2 ^ 64 = numL (R'.drop 8) := by rw [e1, Nat.add_mul_div_left _ _ (by decide), Nat.div_eq_of_lt l1, Nat.zero_add]
    have q2 : numL (H ++ B) / 2 ^ 64 = numL B := by rw [e2, Nat.add_mul_div_left _ _ (by decide), Nat.div_eq_of_lt l2, Nat.zero_add]
    rw [← q1, hn, Nat.xor_div_two_pow, q2]
  clear e1 e2 l1 l2 hn
  have hdrop : (P ++ R' ++ S).drop P.length = R' ++ S := by rw [List.append_assoc, List.drop_left]
  have ht8 : (R' ++ S).take 8 = R'.take 8 := List.take_append_of_le_length (by omega)
  unfold takeF
  rw [if_neg (by rw [List.length_append, List.length_append]; omega), Int.toNat_natCast, hdrop, ht8, if_neg (by rw [List.length_append]; omega)]
  by_cases hz : (Q * 2 ^ o) % 2 ^ 64 = 0
  · rw [hz, Nat.xor_zero] at nH
    have eH := numL_inj hH' hHB (by rw [hHl', hHl]) nH
    have ho : ∃ Q2 K2, (Q * 2 ^ o) / 2 ^ 64 = Q2 * 2 ^ K2 ∧ Q2 < 4294967296 ∧ Q2 ≠ 0 ∧ K2 ≤ 8 * B.length := by
      rcases Nat.lt_or_ge o 64 with h64 | h64
      · have e : 2 ^ 64 = 2 ^ (64 - o) * 2 ^ o := by rw [← Nat.pow_add]; congr 1; omega
        refine ⟨Q / 2 ^ (64 - o), 0, ?_, Nat.lt_of_le_of_lt (Nat.div_le_self _ _) hQ, ?_, by omega⟩
        · rw [e, Nat.mul_div_mul_right _ _ (Nat.pow_pos (by decide)), Nat.pow_zero, Nat.mul_one]
        · intro hc
          have hlt : Q < 2 ^ (64 - o) := by
            rcases Nat.lt_or_ge Q (2 ^ (64 - o)) with h | h
            · exact h
            · have := Nat.div_pos h (Nat.pow_pos (by decide))
              omega
          have hp : 0 < 2 ^ o := Nat.pow_pos (by decide)
          rw [e, Nat.mul_mod_mul_right, Nat.mod_eq_of_lt hlt] at hz
          rcases Nat.mul_eq_zero.1 hz with h | h
          · exact hQ0 h
          · omega
      · refine ⟨Q, o - 64, ?_, hQ, hQ0, by omega⟩
        have e : 2 ^ o = 2 ^ (o - 64) * 2 ^ 64 := by rw [← Nat.pow_add]; congr 1; omega
        rw [e, ← Nat.mul_assoc, Nat.mul_div_cancel _ (by decide)]
    obtain ⟨Q2, K2, e, q1, q2, q3⟩ := ho
    rw [e] at nB
    have hop := burst_open hBB hB' (by rw [hBl', hBl]) (by omega) q3 q1 q2 hsB nB
    rw [eH, hH, openL_seal, if_pos rfl]
    unfold recB
    have hk : (headL kind y.length).getD 0 0 = kind := by show kind % 256 = kind; omega
    have hd : (headL kind y.length).drop 1 = fixL y.length 3 := rfl
    have ht12 : ((R' ++ S).take (12 + y.length)).drop 8 = R'.drop 8 := by
      rw [List.take_append_of_le_length (by omega), List.take_of_length_le (by omega)]
    dsimp only
    rw [hk, hd, three_fix (by omega), if_neg (by omega), if_neg (by rw [List.length_append]; omega), ht12, hop, if_neg (by decide)]
  · have h64 : o < 64 := by
      rcases Nat.lt_or_ge o 64 with h | h
      · exact h
      · exfalso
        apply hz
        have e : 2 ^ o = 2 ^ (o - 64) * 2 ^ 64 := by rw [← Nat.pow_add]; congr 1; omega
        rw [e, ← Nat.mul_assoc, Nat.mul_mod_left]
    have e : 2 ^ 64 = 2 ^ (64 - o) * 2 ^ o := by rw [← Nat.pow_add]; congr 1; omega
    rw [e, Nat.mul_mod_mul_right] at nH hz
    have hop := burst_open hHB hH' (by rw [hHl', hHl]) (by omega) (K := o) (Q := Q % 2 ^ (64 - o)) (by omega) (Nat.lt_of_le_of_lt (Nat.mod_le _ _) hQ) (fun h => hz (by rw [h, Nat.zero_mul])) hsH nH
    rw [hop, if_neg (by decide)]
/-- What is told of records of which one has turned bits. -/
theorem burst_told {bs : List (Int × List Int)} (h : OkR bs) {k : Nat} (hk : k < bs.length) {R' : List Int} {o Q : Nat} (hR : isB R') (hl : R'.length = (recL bs[k].1 bs[k].2).length)
    (ho : o < 8 * (recL bs[k].1 bs[k].2).length) (hQ : Q < 4294967296) (hQ0 : Q ≠ 0) (hn : numL R' = numL (recL bs[k].1 bs[k].2) ^^^ Q * 2 ^ o) (hlen : (catL (bs.take k)).length ≤ 1000000000) :
    fitems (catL (bs.take k) ++ R' ++ catL (bs.drop (k + 1))) = placesL 0 (bs.take k) ∧ fend (catL (bs.take k) ++ R' ++ catL (bs.drop (k + 1))) = (((catL (bs.take k)).length : Int), 5) := by
  have hx := h _ (List.getElem_mem hk)
  have ht := burst_rec (P := catL (bs.take k)) (S := catL (bs.drop (k + 1))) hx.2.2.1 hx.1 hx.2.1 hx.2.2.2 hR hl ho hQ hQ0 hn
  have hfit : fitems (catL (bs.take k) ++ R' ++ catL (bs.drop (k + 1))) = placesL 0 (bs.take k) := by
    rw [List.append_assoc] at ht ⊢
    exact fit_all (h.take k) _ (.inr (by rw [ht]; decide))
  refine ⟨hfit, ?_⟩
  unfold fend
  rw [hfit, endT_all hlen, if_neg, ht]
  rw [List.length_append, List.length_append, hl, recL_length]
  omega
theorem split_rec (bs : List (Int × List Int)) {k : Nat} (hk : k < bs.length) : catL bs = catL (bs.take k) ++ recL bs[k].1 bs[k].2 ++ catL (bs.drop (k + 1)) := by
  conv => lhs; rw [← List.take_append_drop k bs]
  rw [catL_append, List.drop_eq_getElem_cons hk, catL_cons, List.append_assoc]
/-- A byte in the middle part is set. -/
theorem set_mid (P R S : List Int) (j : Nat) (v : Int) (hj : j < R.length) : (P ++ R ++ S).set (P.length + j) v = P ++ R.set j v ++ S := by
  rw [List.append_assoc, List.set_append_right _ _ (by omega), Nat.add_sub_cancel_left, List.set_append_left _ _ hj, List.append_assoc]
theorem rd_mid (P R S : List Int) (j : Nat) (hj : j < R.length) : rd (P ++ R ++ S) ((P.length + j : Nat) : Int) = R.getD j 0 := by
  rw [rd_at _ _ (by rw [List.length_append, List.length_append]; omega), List.getElem_append_left (by rw [List.length_append]; omega), List.getElem_append_right (by omega), List.getD_eq_getElem?_getD, List.getElem?_eq_getElem hj]
  simp only [Nat.add_sub_cancel_left]
  rfl
/-- The numbers of the bits: where a record's begin and end, and where the burst begins. -/
theorem burst_nums {X R C : Nat} (o : Nat) (hX : X + R ≤ C) (hC : C ≤ 1872) (ho : o < 8 * R) : ∃ F0 F1 M S : Nat, (F0 = 8 * X ∧ F1 = 8 * (X + R) ∧ M = 8 * R ∧ S = F0 + o) ∧ ((F1 : Int) - (F0 : Int) = (M : Int)) ∧ wrap64 ((F1 : Int) - (F0 : Int)) = (M : Int) ∧ ((F0 : Int) + (o : Int) = (S : Int)) ∧
    wrap64 ((F0 : Int) + (o : Int)) = (S : Int) ∧ wrap64 (8 * (X : Int)) = (F0 : Int) ∧ wrap64 (8 * ((X + R : Nat) : Int)) = (F1 : Int) ∧ ¬ (M : Int) = 0 ∧ ((M : Int) == 0) = false ∧ F1 ≤ 14976 := by
  refine ⟨8 * X, 8 * (X + R), 8 * R, 8 * X + o, ⟨rfl, rfl, rfl, rfl⟩, by omega, ?_, by omega, ?_, ?_, ?_, by omega, beq_eq_false_iff_ne.mpr (by omega), by omega⟩
  all_goals
    rw [w64 (by omega) (by omega)]
    try omega
theorem mod_part (a : Int) (b : Nat) (hb : b < 60) {m : Nat} (hm : 0 < m) : ∃ o : Nat, Int.tmod (Go.bits .and .i64 a ((2 ^ b - 1 : Nat) : Int)) (m : Int) = (o : Int) ∧ o < m := by
  have e := and_low a b (by omega)
  have hp : (0 : Int) < ((2 ^ b : Nat) : Int) := by
    have : 0 < 2 ^ b := Nat.pow_pos (by decide)
    omega
  have h0 := Int.emod_nonneg a (b := ((2 ^ b : Nat) : Int)) (by omega)
  rw [e, Int.tmod_eq_emod_of_nonneg h0]
  have h1 := Int.emod_nonneg (a % ((2 ^ b : Nat) : Int)) (b := (m : Int)) (by omega)
  have h2 := Int.emod_lt_of_pos (a % ((2 ^ b : Nat) : Int)) (b := (m : Int)) (by omega)
  generalize a % ((2 ^ b : Nat) : Int) % (m : Int) = q at h1 h2
  exact ⟨q.toNat, by omega, by omega⟩
theorem wz1 {z : Int} (h0 : 0 ≤ z) (h1 : z < 32) : wrap64 (z + 1) = z + 1 := w64 (by omega) (by omega)
theorem wsum {S : Nat} {z p : Int} (h : (S : Int) + z = p) (hS : S ≤ 14976) (h0 : 0 ≤ z) (h1 : z < 32) : wrap64 ((S : Int) + z) = p := by rw [← h]; exact w64 (by omega) (by omega)
theorem s_le {X R F0 F1 M S o : Nat} (h : F0 = 8 * X ∧ F1 = 8 * (X + R) ∧ M = 8 * R ∧ S = F0 + o) (ho : o < 8 * R) (hF : F1 ≤ 14976) : S ≤ 14976 := by omega
theorem f1_le {X R Y C F0 F1 M S o : Nat} (h : F0 = 8 * X ∧ F1 = 8 * (X + R) ∧ M = 8 * R ∧ S = F0 + o) (hC : C = X + R + Y) : F1 ≤ 8 * C := by omega
theorem m_le {X R F0 F1 M S o : Nat} (h : F0 = 8 * X ∧ F1 = 8 * (X + R) ∧ M = 8 * R ∧ S = F0 + o) (hF : F1 ≤ 14976) : (M : Int) ≤ 14976 := by omega
/-- One bit of the pattern, as the code looks at it. -/
theorem bit_step {Q o : Nat} {z : Int} (hQ : Q < 4294967296) (h0 : 0 ≤ z) (h1 : z < 32) : Go.bits .and .u32 ((Q : Int) / 2 ^ z.toNat) 1 = ((Q / 2 ^ z.toNat % 2 : Nat) : Int) ∧ z = ((z.toNat : Nat) : Int) := by
  obtain ⟨i, rfl⟩ := Int.eq_ofNat_of_zero_le h0
  refine ⟨?_, by omega⟩
  rw [Int.toNat_natCast, show ((2 : Int) ^ i) = ((2 ^ i : Nat) : Int) from by rw [Int.natCast_pow]; rfl, ← Int.natCast_ediv,
    show (1 : Int) = ((1 : Nat) : Int) from rfl, Go.u32_and_nat _ 1 (Nat.lt_of_le_of_lt (Nat.div_le_self _ _) hQ) (by omega), Go.nat_mask1]
/-- Where a turned bit stands. -/
theorem turn_place {X R F0 F1 S o : Nat} {p z : Int} (hF : F0 = 8 * X ∧ F1 = 8 * (X + R) ∧ S = F0 + o) (hp : p = (S : Int) + z) (h0 : 0 ≤ z) (hlt : p < (F1 : Int)) :
    0 ≤ p ∧ p = ((8 * X + (o + z.toNat) : Nat) : Int) ∧ z.toNat < 8 * R - o ∧ (o + z.toNat) / 8 < R := by omega
theorem turn_past {X R F0 F1 S o : Nat} {p z : Int} (hF : F0 = 8 * X ∧ F1 = 8 * (X + R) ∧ S = F0 + o) (hp : p = (S : Int) + z) (h0 : 0 ≤ z) (hlt : (F1 : Int) ≤ p) : 8 * R - o ≤ z.toNat := by omega
theorem turn_nums {p : Int} {C F : Nat} (h0 : 0 ≤ p) (h1 : p < (F : Int)) (hF : F ≤ 8 * C) (hC : F ≤ 14976) : ∃ j m : Int, Int.tdiv p 8 = j ∧ wrap64 (Int.tdiv p 8) = j ∧ IntKind.i64.wrap (Int.tdiv p 8) = j ∧ Int.tmod p 8 = m ∧ 0 ≤ j ∧ j < (C : Int) ∧ 0 ≤ m ∧ m < 8 := by
  have e1 : Int.tdiv p 8 = p / 8 := Int.tdiv_eq_ediv_of_nonneg h0
  have e2 : Int.tmod p 8 = p % 8 := Int.tmod_eq_emod_of_nonneg h0
  refine ⟨p / 8, p % 8, e1, ?_, ?_, e2, by omega, by omega, by omega, by omega⟩
  · rw [e1]; exact w64 (by omega) (by omega)
  · rw [e1]; exact (Go.Proofs.YtcnapbpljghfoaaW.PrintLast.i64_w _).trans (w64 (by omega) (by omega))
/-- The byte that is turned, and the row behind it. -/
theorem turn_set {X R R' Y : List Int} {Q o : Nat} {C : Nat} {z p j m s8 : Int} (hT : Turn R Q o z.toNat R') (hm : 0 ≤ m) (hK : 0 ≤ p ∧ p = ((8 * X.length + (o + z.toNat) : Nat) : Int) ∧ z.toNat < 8 * R.length - o ∧ (o + z.toNat) / 8 < R.length)
    (hj : Int.tdiv p 8 = j) (hmm : Int.tmod p 8 = m) (hs : shl .u8 1 m = s8) :
    (X ++ R' ++ Y).set j.toNat (Go.bits .xor .u8 (rd (X ++ R' ++ Y) j) s8) = X ++ R'.set ((o + z.toNat) / 8) (((R'.getD ((o + z.toNat) / 8) 0).toNat ^^^ 2 ^ ((o + z.toNat) % 8) : Nat) : Int) ++ Y := by
  obtain ⟨hp0, hp, _, hlt⟩ := hK
  rw [← hT.2.1] at hlt
  have ej : j = ((X.length + (o + z.toNat) / 8 : Nat) : Int) := by rw [← hj, Int.tdiv_eq_ediv_of_nonneg hp0, hp]; omega
  have em : m = (((o + z.toNat) % 8 : Nat) : Int) := by rw [← hmm, Int.tmod_eq_emod_of_nonneg hp0, hp]; omega
  have hb8 : (o + z.toNat) % 8 < 8 := Nat.mod_lt _ (by decide)
  generalize (o + z.toNat) / 8 = a at *
  generalize (o + z.toNat) % 8 = b at *
  subst ej em
  have e8 : s8 = ((2 ^ b : Nat) : Int) := by
    have hp : 2 ^ b ≤ 2 ^ 7 := Nat.pow_le_pow_right (by omega) (by omega)
    rw [← hs]
    unfold shl
    rw [show IntKind.u8.bits = 8 from rfl, Int.toNat_natCast, Nat.min_eq_left (by omega), Int.one_mul, show ((2 : Int) ^ b) = ((2 ^ b : Nat) : Int) from by rw [Int.natCast_pow]; rfl, Go.IntKind.wrap_u8]
    generalize 2 ^ b = q at hp ⊢
    omega
  have hp2 : 2 ^ b < 2 ^ 8 := Nat.pow_lt_pow_right (by omega) hb8
  have hx := hT.1 _ (List.getElem_mem hlt)
  have hg : R'.getD a 0 = R'[a] := by rw [List.getD_eq_getElem?_getD, List.getElem?_eq_getElem hlt]; rfl
  rw [Int.toNat_natCast, set_mid _ _ _ _ _ hlt, rd_mid _ _ _ _ hlt, e8, hg, Go.u8_xor _ _ hx.1 hx.2 (Int.natCast_nonneg _) (Int.ofNat_lt.2 hp2), Int.toNat_natCast]
end Go.Proofs.Ytcnapbpljghfoaa.Plain

/- concordancelaw3.FrameBursts, walked by hand: bits that are turned within 32 in a row within one record are found; the records ahead of it are told as they were. -/
namespace Go.Proofs.Ytcnapbpljghfoaa.Hand
open Go.RowKit Go.Proofs.YtcnapbpljghfoaaW.PrintWords Go.Proofs.YtcnapbpljghfoaaW.PrintLast Go.Proofs.YtcnapbpljghfoaaW.PrintMore
open Go.Proofs.Ytcnapbpljghfoaa.Plain Go.Proofs.Ytcnapbpljghfoaa.PCrc
attribute [local go_sem] max2_int min2_int max_two min_two
set_option linter.unusedVariables false
set_option linter.unusedSimpArgs false
def bursts.T17 : Bool × List (List Nat × List Nat) := (true, [([], []), ([], []), ([0, 1], [0, 1]), ([2], [2]), ([3], [3]), ([], []), ([], []), ([6], [6]), ([5, 7], [5, 7]), ([8], [8]), ([9], [9]), ([4, 0, 1, 2, 3, 4], [4]), ([10, 11, 0, 1, 2, 3, 4, 5, 6, 7, 8, 9, 10, 11], [10])])
def bursts.B17 : List Nat := [0, 0, 3, 7, 15, 0, 0, 64, 224, 480, 992, 31, 4095]
theorem bursts.tab17 : rtab .any (opsOf Try.f8 17) = bursts.T17 := by kernel_rfl
theorem bursts.bits17 : waitsOk bursts.T17.2 bursts.B17 = true := by kernel_rfl
def bursts.T24 : Bool × List (List Nat × List Nat) := (true, [([], []), ([], []), ([], []), ([1, 2], [1, 2]), ([3], [3]), ([0, 4], [0, 4]), ([5], [5]), ([], []), ([], []), ([7, 8], [7, 8]), ([9], [9]), ([10], [10]), ([6, 11], [6, 11]), ([0, 4, 0, 1, 2, 3, 4, 5, 6, 7, 8, 9, 10, 11, 12], [0, 4]), ([13, 12, 0, 1, 2, 3, 4, 5, 6, 7, 8, 9, 10, 11, 12], [12, 13])])
def bursts.B24 : List Nat := [0, 0, 0, 6, 14, 31, 63, 0, 0, 384, 896, 1920, 4095, 8191, 16383]
theorem bursts.tab24 : rtab .any (opsOf Try.f8 24) = bursts.T24 := by kernel_rfl
theorem bursts.bits24 : waitsOk bursts.T24.2 bursts.B24 = true := by kernel_rfl
def bursts.T35 : Bool × List (List Nat × List Nat) := (true, [([], []), ([], []), ([0, 1], [0, 1]), ([2], [2]), ([], []), ([], []), ([4, 5], [4, 5]), ([6], [6]), ([3, 7], [3, 7]), ([8], [8]), ([9], [9]), ([9], [9]), ([10, 11, 9], [9, 10, 11]), ([12, 9], [9, 12]), ([13, 9], [9, 13]), ([9], [9]), ([15, 9], [9, 15]), ([14, 16, 9], [9, 14, 16]), ([9, 17], [9, 17]), ([18, 9], [18]), ([19], [19]), ([19], [19]), ([20, 21, 19], [19, 20, 21]), ([22, 19], [19, 22]), ([23, 19], [19, 23]), ([24, 19], [19, 24]), ([19], [19]), ([19], [19]), ([26, 27, 19], [19, 26, 27]), ([28, 19], [19, 28]), ([29, 19], [19, 29]), ([25, 30, 19], [19, 25, 30]), ([19, 31], [19, 31])])
def bursts.B35 : List Nat := [0, 0, 3, 7, 0, 0, 48, 112, 255, 511, 1023, 1023, 4095, 8191, 16383, 1023, 33791, 131071, 262143, 524287, 1048575, 1048575, 4194303, 8388607, 16777215, 33554431, 1048575, 1048575, 202375167, 470810623, 1007681535, 2147483647, 4294967295]
theorem bursts.tab35 : rtab .any (opsOf Try.f8 35) = bursts.T35 := by kernel_rfl
theorem bursts.bits35 : waitsOk bursts.T35.2 bursts.B35 = true := by kernel_rfl
set_option maxHeartbeats 8000000 in
set_option maxRecDepth 100000 in
theorem bursts_walk (A0 : Option Addr) (c0 : Nat) (L : List (List Int)) (a1 a2 a3 : Int) (w : World) (hr0 : Kd.C (Kd.slice 5 (Kd.int .u8)) w A0 L.length L) (hc0 : L.length ≤ c0) (hw0 : ∀ x ∈ L, ∀ n ∈ x, (Lit.int .u8 n).wf = true) (hw1 : (Lit.int .i64 a1).wf = true) (hw2 : (Lit.int .i64 a2).wf = true) (hw3 : (Lit.int .u32 a3).wf = true) :
    Calls Try.prog 8 #[.slice A0 L.length c0, .int .i64 a1, .int .i64 a2, .int .u32 a3] w fun e w' => e = .returned (.bool true) ∧ Below w.heap.size w w' := by
  have HBL := Aside0.mk (show ∀ x ∈ L, isB x from fun x hx n hn => Plain.wf_u8 (hw0 x hx n hn))
  have HAW := Aside0.mk (awake3_f 0)
  have HR0 := Aside0.mk hr0
  have HLM := Aside0.mk (Kd.C_max hr0)
  have HB := Aside0.mk (Below.refl w.heap.size w)
  obtain ⟨QQ, rfl⟩ := Int.eq_ofNat_of_zero_le (wf_u32 hw3).1
  have HQ := Aside0.mk (show QQ < 4294967296 by have := (wf_u32 hw3).2; omega)
  clear hw0 hr0 hw3
  go_enter Try.func8, Try.ntmps8
  go_wp2_with (first | ((with_reducible refine gate_dst (N := 26) rfl ?_); refine Kd.R_lit (Kd.int .i64) _ 3 ?hg (N := 26) ?hd (xs := ([0] : List Int)) (inner := [.int .i64 0]) (ok := fun _ => True) (okp := fun _ => True) ?hr ?hp (fun _ hk => hk) trivial (Below.refl w.heap.size _) (Nat.le_refl _) (by simp) ?_; (case hd => rfl); (case hg => rfl); (case hr => first | (go_simp; done) | (go_simp; rfl)); (case hp => exact (Reps.one (show Kd.M (Kd.int .i64) _ _ _ (0 : Int) [.int .i64 0] from rfl) (Reps.none _ _))); intro ve w1 ho hb hg_ hnew_; clear hg_ hnew_; have HE := Aside0.mk ho; clear HB; have HB := Aside0.mk hb; clear ho hb))
  go_loopg [9, 10, 11] 7 (fun kq v9 v10 v11 w' => ∃ (i : Nat), v11 = .int .i64 (i : Int) ∧ Aside0 (i ≤ 6 ∧ i ≤ L.length ∧ 6 - i ≤ kq) ∧ Aside0 (∀ j, j < i → (rd_L1 L (j : Int)).length ≤ 300) ∧ Aside0 (Kd.R (Kd.int .u8) 5 w' w.heap.size (fun _ => True) v9 (catL (recsOf (fun j => (j : Int) + 1) L i))) ∧ Aside0 (Kd.R (Kd.int .i64) 3 w' w.heap.size (fun _ => True) v10 (endsOf (fun j => (j : Int) + 1) L (i + 1))) ∧ Aside0 (Below w.heap.size w w'))
  case atStart => exact ⟨0, rfl, ⟨by omega, by omega, by omega⟩, ⟨fun j hj => by omega⟩, ⟨Kd.R_nil _ _ _ _ _⟩, ⟨HE.out⟩, ⟨HB.out⟩⟩
  case round =>
    clear HE HB
    obtain ⟨i, rfl, HI, HLE, HV, HE, HB⟩ := hrel
    have hb1 := HI.out.2.1
    by_cases k1 : i < L.length ∧ i < 6
    · obtain ⟨hlt, h6⟩ := k1
      have d1 : decide ((i : Int) < (L.length : Int)) = true := decide_eq_true (by omega)
      have d2 : decide ((i : Int) < 6) = true := decide_eq_true (by omega)
      obtain ⟨ad, A2, c2, rfl, hcell, hle2, hC2⟩ := at_L1 (Kd.C_below HR0.out HB.out) (i : Int) (by omega) (by omega)
      rw [Int.toNat_natCast] at hcell
      obtain ⟨Ab, cb, rfl⟩ := Kd.R_slice HV.out
      obtain ⟨Ae, ce, rfl⟩ := Kd.R_slice HE.out
      have hcl := catL_recs_le (K := (fun j => (j : Int) + 1)) i HLE.out
      have hcs := recsOf_succ (fun j => (j : Int) + 1) L i
      have hes := endsOf_succ (fun j => (j : Int) + 1) L (i + 1)
      have hel := endsOf_length (fun j => (j : Int) + 1) L (i + 1)
      have hby : isB (rd_L1 L (i : Int)) := by
        unfold rd_L1
        rw [Int.toNat_natCast, List.getD_eq_getElem?_getD, List.getElem?_eq_getElem hlt]
        exact HBL.out _ (List.getElem_mem _)
      obtain ⟨y, ey⟩ : ∃ y, rd_L1 L (i : Int) = y := ⟨_, rfl⟩
      rw [ey] at hcell hle2 hC2 hcs hby
      by_cases k2 : 300 < y.length
      · have d3 : decide (300 < (y.length : Int)) = true := decide_eq_true (by omega)
        clear hcl hcs hes hel hby ey
        go_wp2_with (first | (go_at_call 10; refine (concordancelaw3_awake.calls _ _ _ HAW.out).mono ?_; rintro e w9 ⟨rfl, hb⟩; have n1_ := Aside0.mk (below_step HB.out hb); clear HB hb; have HB := n1_; clear n1_))
        go_ret
        exact ⟨rfl, HB.out⟩
      · have d3 : decide (300 < (y.length : Int)) = false := decide_eq_false (by omega)
        have HI2 := Aside0.mk (And.intro hlt h6)
        have hput := put_f (l := catL (recsOf (fun j => (j : Int) + 1) L i)) (by omega) hby (by omega) ((i : Int) + 1) 0
        unfold putF at hput
        rw [if_neg (by omega), if_neg (by omega)] at hput
        have hcat : catL (recsOf (fun j => (j : Int) + 1) L i) ++ recL ((i : Int) + 1) y = catL (recsOf (fun j => (j : Int) + 1) L (i + 1)) := by
          rw [hcs, catL_append, catL_cons, catL_nil, List.append_nil]
        rw [hcat] at hput
        have hcln : (catL (recsOf (fun j => (j : Int) + 1) L (i + 1))).length = (catL (recsOf (fun j => (j : Int) + 1) L i)).length + (y.length + 12) := by rw [← hcat, List.length_append, recL_length]
        have hs1 : ((catL (recsOf (fun j => (j : Int) + 1) L (i + 1))).length : Int) = ((catL (recsOf (fun j => (j : Int) + 1) L i)).length : Int) + 12 + (y.length : Int) := by omega
        have hn1 : (((catL (recsOf (fun j => (j : Int) + 1) L (i + 1))).length : Int) != ((catL (recsOf (fun j => (j : Int) + 1) L i)).length : Int) + 12 + (y.length : Int)) = false := bne_eq_false_iff_eq.mpr hs1
        have hn2 : (((catL (recsOf (fun j => (j : Int) + 1) L (i + 1))).length : Int) != wrap64 (((catL (recsOf (fun j => (j : Int) + 1) L i)).length : Int) + 12 + (y.length : Int))) = false := by rw [w64 (by omega) (by omega)]; exact hn1
        have hn3 : (((catL (recsOf (fun j => (j : Int) + 1) L (i + 1))).length : Int) != wrap64 (wrap64 (((catL (recsOf (fun j => (j : Int) + 1) L i)).length : Int) + 12) + (y.length : Int))) = false := by rw [w64 (x := ((catL (recsOf (fun j => (j : Int) + 1) L i)).length : Int) + 12) (by omega) (by omega)]; exact hn2
        have hy3 : y.length ≤ 300 := by omega
        have hC3 : (catL (recsOf (fun j => (j : Int) + 1) L i)).length ≤ 1872 := by omega
        have HPUT := Aside0.mk hput
        have HY := Aside0.mk hy3
        have HEY := Aside0.mk ey
        have HES := Aside0.mk hes
        have HEL := Aside0.mk hel
        have HC2 := Aside0.mk hC2
        clear hput hcat hcs hcl hes hel hby ey k2 hC2 hs1 hcln hy3
        go_wp2_with (first | (go_at_call 11; refine (frame_Put.calls 1 (fun _ => True) Ab cb _ _ A2 c2 y _ _ _ ⟨Ab, cb, rfl, (Kd.R_reads' HV.out).2.1, Kd.R_F HV.out⟩ HC2.out hle2 HPUT.out).mono ?_; rintro e w2 ⟨v2, rfl, ho, hb⟩; obtain ⟨A3, c3, rfl⟩ := Kd.R_slice ho; have n0_ := Aside0.mk (Kd.R_mono (Kd.R_lower ho HB.out.size) (ok' := fun _ => True) (fun _ _ => trivial)); have n2_ := Aside0.mk (Kd.R_below HE.out hb); clear HV HE ho; have HV := n0_; have HE := n2_; clear n0_ n2_; have n1_ := Aside0.mk (below_step HB.out hb); clear HB hb; have HB := n1_; clear n1_; obtain ⟨ad', A2', c2', hade, hcell2, hle2', hC2'⟩ := at_L1 (Kd.C_below HR0.out HB.out) (i : Int) (by omega) (by omega); injection hade with hade; subst hade; rw [Int.toNat_natCast, HEY.out] at hcell2; clear hC2' hle2') | ((with_reducible refine gate_builtin (b := .append) (xs := #[.tmp 72, .tmp 75]) rfl ?_); at_builtin; refine Kd.R_append (Kd.int .i64) (w0 := w) w.heap.size rfl (.tmp 72) (.tmp 75) 40 3 (.int .i64 0) 8 rfl Try.underlying40 finfo_int rfl (by decide) (by omega) (.slice Ae (endsOf (fun j => (j : Int) + 1) L (i + 1)).length ce) (endsOf (fun j => (j : Int) + 1) L (i + 1)) ((catL (recsOf (fun j => (j : Int) + 1) L (i + 1))).length : Int) [.int .i64 ((catL (recsOf (fun j => (j : Int) + 1) L (i + 1))).length : Int)] (fun _ => True) (fun _ => False) rfl rfl rfl (fun _ h => h.elim) (fun _ _ => trivial) HE.out HB.out HB.out.size (by have := HEL.out; have := HI2.out.2; omega) ?_; intro v3 w3 ho hb hg hat; have n0_ := Aside0.mk (Kd.R_over HV.out HE.out (by decide) hg); rw [← HES.out] at ho; clear HV HE HB; have HV := n0_; have HE := Aside0.mk ho; have HB := Aside0.mk hb; clear n0_ ho hb hg hat))
        go_roundg (5 - i)
        case measure => have := HI.out; have := HI2.out; omega
        case rel =>
          refine ⟨i + 1, by go_num, ⟨by have := HI2.out; omega, by have := HI2.out; omega, by omega⟩, ⟨fun j hj => ?_⟩, ⟨HV.out⟩, ⟨HE.out⟩, ⟨HB.out⟩⟩
          rcases Nat.lt_or_ge j i with h | h
          · exact HLE.out j h
          · have : j = i := by omega
            subst this
            rw [HEY.out]
            exact HY.out
    · have hlen := catL_recs_le (K := (fun j => (j : Int) + 1)) i HLE.out
      have hi6 : i ≤ 6 := HI.out.1
      have hB' := recsOf_ok (K := (fun j => (j : Int) + 1)) (L := L) (i := i) (fun j hj => by show 1 ≤ (j : Int) + 1 ∧ (j : Int) + 1 ≤ 250; omega) HBL.out (fun j hj => by have := HLE.out j hj; omega)
      have hdec : (decide ((i : Int) < (L.length : Int)) = false ∧ ¬ i < L.length) ∨ (decide ((i : Int) < (L.length : Int)) = true ∧ i < L.length ∧ decide ((i : Int) < 6) = false ∧ ¬ i < 6) := by
        by_cases h : i < L.length
        · exact .inr ⟨decide_eq_true (by omega), h, decide_eq_false (by omega), by omega⟩
        · exact .inl ⟨decide_eq_false (by omega), h⟩
      obtain ⟨ge, ce, rfl, _, _, _, _⟩ := Kd.R_form HE.out (by rw [endsOf_length]; omega)
      obtain ⟨Ab, cb, rfl⟩ := Kd.R_slice HV.out
      have hrt : ∀ j, j ≤ i → (recsOf (fun j => (j : Int) + 1) L i).take j = recsOf (fun j => (j : Int) + 1) L j := fun j hj => recsOf_take _ _ hj
      have hea : ∀ j, j < i + 1 → rd (endsOf (fun j => (j : Int) + 1) L (i + 1)) (j : Int) = ((catL (recsOf (fun j => (j : Int) + 1) L j)).length : Int) := fun j hj => endsOf_at _ _ hj
      have hel := endsOf_length (fun j => (j : Int) + 1) L (i + 1)
      have hrl := recsOf_length (fun j => (j : Int) + 1) L i
      have hge : ∀ (j : Nat) (h : j < (recsOf (fun j => (j : Int) + 1) L i).length), (recsOf (fun j => (j : Int) + 1) L i)[j] = ((j : Int) + 1, rd_L1 L (j : Int)) := by
        intro j h
        simp [recsOf]
      obtain ⟨B, eB⟩ : ∃ B, recsOf (fun j => (j : Int) + 1) L i = B := ⟨_, rfl⟩
      obtain ⟨E, eE⟩ : ∃ E, endsOf (fun j => (j : Int) + 1) L (i + 1) = E := ⟨_, rfl⟩
      have HRT := Aside0.mk (fun j (hj : j ≤ i) => (hrt j hj).symm)
      rw [eB] at hrt hrl hge hB' hlen HRT HV ⊢
      rw [eE] at hea hel HE ⊢
      obtain ⟨C, eC⟩ : ∃ C, catL B = C := ⟨_, rfl⟩
      rw [eC] at hlen HV ⊢
      have HCE := Aside0.mk eC
      have HCL := Aside0.mk (show C.length ≤ 1872 by omega)
      have HEA := Aside0.mk hea
      have HEL := Aside0.mk hel
      have HRL := Aside0.mk hrl
      have HGE := Aside0.mk hge
      have HOK := Aside0.mk hB'
      have HI6 := Aside0.mk hi6
      have HIL := Aside0.mk HI.out.2.1
      have HLE2 := Aside0.mk HLE.out
      have HEF := Aside0.mk (Kd.R_reads' HE.out).2.1
      have hnn : ((E.length : Int) - 1) = (i : Int) := by omega
      have hnw : wrap64 ((E.length : Int) - 1) = (i : Int) := by rw [w64 (by omega) (by omega)]; exact hnn
      have hEm : (E.length : Int) ≤ 7 := by omega
      have hcm : (C.length : Int) ≤ 1872 := by omega
      clear hlen hrt hea hel hrl hge hB' eB eE eC HLE hb1 k1 HI
      by_cases hi0 : i = 0
      · subst hi0
        have z1 : (((0 : Nat) : Int) == 0) = true := rfl
        rcases hdec with ⟨d1, g1⟩ | ⟨d1, g1, d2, g2⟩
        · go_wp2_with (first | (go_at_call 10; refine (concordancelaw3_awake.calls _ _ _ HAW.out).mono ?_; rintro e w9 ⟨rfl, hb⟩; have n1_ := Aside0.mk (below_step HB.out hb); clear HB hb; have HB := n1_; clear n1_))
          go_ret
          exact ⟨rfl, HB.out⟩
        · exact absurd g2 (by omega)
      · have hi0b : ((i : Int) == 0) = false := beq_eq_false_iff_ne.mpr (by omega)
        have hi0i : ¬ (i : Int) = 0 := by omega
        obtain ⟨k, hk, hki⟩ := mod_part a1 8 (by omega) (m := i) (by omega)
        rw [show ((2 ^ 8 - 1 : Nat) : Int) = 255 from rfl] at hk
        have hkB : k < B.length := by have := HRL.out; omega
        have hkL : k < L.length := by have := HIL.out; omega
        have hBk := HGE.out k hkB
        have hsp := split_rec B hkB
        rw [HCE.out, hBk] at hsp
        have hyk := HLE2.out k hki
        obtain ⟨y, ey⟩ : ∃ y, rd_L1 L (k : Int) = y := ⟨_, rfl⟩
        rw [ey] at hsp hyk hBk
        obtain ⟨X, eX⟩ : ∃ X, catL (B.take k) = X := ⟨_, rfl⟩
        obtain ⟨Y, eY⟩ : ∃ Y, catL (B.drop (k + 1)) = Y := ⟨_, rfl⟩
        obtain ⟨R, eR⟩ : ∃ R, recL ((k : Int) + 1) y = R := ⟨_, rfl⟩
        dsimp only at hsp
        rw [eX, eY, eR] at hsp
        have hRl : R.length = y.length + 12 := by rw [← eR, recL_length]
        have hyB : isB y := by
          rw [← ey]
          unfold rd_L1
          rw [Int.toNat_natCast, List.getD_eq_getElem?_getD, List.getElem?_eq_getElem hkL]
          exact HBL.out _ (List.getElem_mem _)
        have hRB : isB R := by rw [← eR]; exact recL_isB hyB
        have hCl : C.length = X.length + R.length + Y.length := by rw [hsp, List.length_append, List.length_append]
        have he0 : rd E (k : Int) = (X.length : Int) := by rw [HEA.out k (by omega), HRT.out k (by omega), eX]
        have he1 : rd E ((k : Int) + 1) = ((X.length + R.length : Nat) : Int) := by
          have h1 := HEA.out (k + 1) (by omega)
          rw [show ((k + 1 : Nat) : Int) = (k : Int) + 1 from by omega] at h1
          rw [h1, HRT.out (k + 1) (by omega), List.take_succ_eq_append_getElem hkB, catL_append, eX, hBk, List.length_append, catL_cons, catL_nil, List.append_nil]
          dsimp only
          rw [eR]
        have hkE : k < E.length := by omega
        have hkE1 : k + 1 < E.length := by omega
        have d5 : decide ((k : Int) < (E.length : Int)) = true := decide_eq_true (by omega)
        have d6 : decide ((k : Int) + 1 < (E.length : Int)) = true := decide_eq_true (by omega)
        have hw5 := Aside0.mk (show wrap64 ((k : Int) + 1) = (k : Int) + 1 from w64 (by omega) (by omega))
        have HWB := Aside0.mk (Kd.R_form HV.out (by rw [hCl, hRl]; omega))
        obtain ⟨o, ho, hoR⟩ := mod_part a2 16 (by omega) (m := 8 * R.length) (by rw [hRl]; omega)
        rw [show ((2 ^ 16 - 1 : Nat) : Int) = 65535 from rfl] at ho
        obtain ⟨F0, F1, M, S, HFs, m1, m2, m3, m4, hx0, hx1, hM0, hM0b, hF1⟩ := burst_nums (X := X.length) (R := R.length) (C := C.length) o (by rw [hCl]; exact Nat.le_add_right _ _) HCL.out hoR
        rw [← HFs.2.2.1] at ho
        have HX0 := Aside0.mk hx0
        have HX1 := Aside0.mk hx1
        have HE0 := Aside0.mk he0
        have HE1 := Aside0.mk he1
        have HKE := Aside0.mk (And.intro hkE hkE1)
        have HSP := Aside0.mk hsp
        have HF := Aside0.mk (And.intro HFs (And.intro hoR (And.intro hRl hCl)))
        have HRB := Aside0.mk hRB
        have HYB := Aside0.mk hyB
        have HXY := Aside0.mk (And.intro eX (And.intro eY (And.intro eR (And.intro ey (And.intro (show B[k]? = some ((k : Int) + 1, y) from by rw [List.getElem?_eq_getElem hkB, hBk]) hkL)))))
        have HKI := Aside0.mk hki
        have HYK := Aside0.mk hyk
        have HI0 := Aside0.mk hi0
        have HF1 := Aside0.mk hF1
        replace hw5 := hw5.out
        clear he0 he1 hsp HFs hoR hRl hCl hRB hyB eX eY eR ey hBk hki hyk hkL hkB hi0 hkE hkE1 hx0 hx1 hF1
        obtain ⟨gb, cb', eb, gb1, gb2, gb3⟩ := HWB.out
        injection eb with eb1 eb2 eb3
        subst eb1 eb3
        clear eb2
        have GB1 := Aside0.mk gb1
        clear HWB gb1 gb2 gb3
        have HM := Aside0.mk (And.intro m1 (And.intro m2 (And.intro m3 m4)))
        have HW5 := Aside0.mk hw5
        clear m1 m2 m3 m4 hw5
        have hc0 := head_cell (Kd.R_reads' HE.out).2.2 k HKE.out.1
        rw [HE0.out] at hc0
        have hc1 := head_cell (Kd.R_reads' HE.out).2.2 (k + 1) HKE.out.2
        rw [show ((k + 1 : Nat) : Int) = (k : Int) + 1 from rfl, HE1.out] at hc1
        obtain ⟨G1, eG1⟩ : ∃ G1 : Nat, X.length + R.length = G1 := ⟨_, rfl⟩
        rw [eG1] at hc1 HX1
        have HC0 := Aside0.mk hc0
        have HC1 := Aside0.mk hc1
        have HG1 := Aside0.mk eG1
        clear hc0 hc1 eG1
        rcases hdec with ⟨d1, g1⟩ | ⟨d1, g1, d2, g2⟩
        all_goals
          go_wp2
          have g5 := HKE.out.1
          have g6 := HKE.out.2
          have q6a : (0 ≤ (k : Int) + 1) = True := eq_true (by omega)
          have q6b : ((k : Int) + 1 < (E.length : Int)) = True := eq_true (by omega)
          have hx0 := HX0.out
          have hx1 := HX1.out
          have hw5 := HW5.out
          refine start_ (n := 13) (S := fun w' => Below wr.heap.size wr w') (ds := []) #[false, false, false, false, false, false, false, false, false, false, false, false, false] (by kernel_rfl) rfl rfl (below_drew1 (Below.refl _ _)) (fun hHeld => ?_)
          refine with_tabW bursts.tab17 bursts.bits17 (fun HT_ HW_ => ?_)
          refine pure_ (i := 0) (N := some 87) (v := ?_) (a' := ?_) #[true, false, false, false, false, false, false, false, false, false, false, false, false] rfl rfl (any_of HT_.out (by kernel_rfl)) (fun _ _ _ h => h) (Or.inl ⟨by rfl, ?_⟩) ?_ ?_
          rotate_left
          · intro w'
            go_simp
            with_reducible rfl
          rotate_left
          · simp only [Act.put, List.setIfInBounds_toArray, List.set_cons_zero, List.set_cons_succ, i64_w, i32_w]
            rfl
          refine pure_ (i := 1) (N := some 88) (v := ?_) (a' := ?_) #[true, true, false, false, false, false, false, false, false, false, false, false, false] rfl rfl (any_of HT_.out (by kernel_rfl)) (fun _ _ _ h => h) (Or.inl ⟨by rfl, ?_⟩) ?_ ?_
          rotate_left
          · intro w'
            go_simp
            with_reducible rfl
          rotate_left
          · simp only [Act.put, List.setIfInBounds_toArray, List.set_cons_zero, List.set_cons_succ, i64_w, i32_w]
            rfl
          refine pure_ (i := 2) (N := some 89) (v := ?_) (a' := ?_) #[true, true, true, false, false, false, false, false, false, false, false, false, false] rfl rfl (any_of HT_.out (by kernel_rfl)) (fun _ _ _ h => h) (Or.inl ⟨by rfl, ?_⟩) ?_ ?_
          rotate_left
          · intro w'
            go_simp
            with_reducible rfl
          rotate_left
          · simp only [Act.put, List.setIfInBounds_toArray, List.set_cons_zero, List.set_cons_succ, i64_w, i32_w]
            rfl
          refine take_ (i := 3) (N := some 90) (v := ?_) (a' := ?_) #[true, true, true, true, false, false, false, false, false, false, false, false, false] rfl rfl (take_ofW HT_.out HW_.out (by kernel_rfl)) (fun _ _ _ h => h) (Or.inl ⟨by rfl, ?_⟩) hHeld ?_ ?_
          rotate_left
          · intro w' hS
            have h_ := (hS.cell (World.block_lt_of_cell? _ _ HC0.out)).trans HC0.out
            go_simp
            with_reducible rfl
          rotate_left
          · simp only [Act.put, List.setIfInBounds_toArray, List.set_cons_zero, List.set_cons_succ, i64_w, i32_w]
            rfl
          refine pure_ (i := 4) (N := some 91) (v := ?_) (a' := ?_) #[true, true, true, true, true, false, false, false, false, false, false, false, false] rfl rfl (any_of HT_.out (by kernel_rfl)) (fun _ _ _ h => h) (Or.inl ⟨by rfl, ?_⟩) ?_ ?_
          rotate_left
          · intro w'
            go_simp
            with_reducible rfl
          rotate_left
          · simp only [Act.put, List.setIfInBounds_toArray, List.set_cons_zero, List.set_cons_succ, i64_w, i32_w]
            rfl
          refine pure_ (i := 5) (N := some 92) (v := ?_) (a' := ?_) #[true, true, true, true, true, true, false, false, false, false, false, false, false] rfl rfl (any_of HT_.out (by kernel_rfl)) (fun _ _ _ h => h) (Or.inl ⟨by rfl, ?_⟩) ?_ ?_
          rotate_left
          · intro w'
            go_simp
            with_reducible rfl
          rotate_left
          · simp only [Act.put, List.setIfInBounds_toArray, List.set_cons_zero, List.set_cons_succ, i64_w, i32_w]
            rfl
          refine pure_ (i := 6) (N := some 93) (v := ?_) (a' := ?_) #[true, true, true, true, true, true, true, false, false, false, false, false, false] rfl rfl (any_of HT_.out (by kernel_rfl)) (fun _ _ _ h => h) (Or.inl ⟨by rfl, ?_⟩) ?_ ?_
          rotate_left
          · intro w'
            go_simp
            with_reducible rfl
          rotate_left
          · simp only [Act.put, List.setIfInBounds_toArray, List.set_cons_zero, List.set_cons_succ, i64_w, i32_w]
            rfl
          refine pure_ (i := 7) (N := some 94) (v := ?_) (a' := ?_) #[true, true, true, true, true, true, true, true, false, false, false, false, false] rfl rfl (any_of HT_.out (by kernel_rfl)) (fun _ _ _ h => h) (Or.inl ⟨by rfl, ?_⟩) ?_ ?_
          rotate_left
          · intro w'
            go_simp
            with_reducible rfl
          rotate_left
          · simp only [Act.put, List.setIfInBounds_toArray, List.set_cons_zero, List.set_cons_succ, i64_w, i32_w]
            rfl
          refine pure_ (i := 8) (N := some 95) (v := ?_) (a' := ?_) #[true, true, true, true, true, true, true, true, true, false, false, false, false] rfl rfl (any_of HT_.out (by kernel_rfl)) (fun _ _ _ h => h) (Or.inl ⟨by rfl, ?_⟩) ?_ ?_
          rotate_left
          · intro w'
            go_simp
            with_reducible rfl
          rotate_left
          · simp only [Act.put, List.setIfInBounds_toArray, List.set_cons_zero, List.set_cons_succ, i64_w, i32_w]
            rfl
          refine take_ (i := 9) (N := some 96) (v := ?_) (a' := ?_) #[true, true, true, true, true, true, true, true, true, true, false, false, false] rfl rfl (take_ofW HT_.out HW_.out (by kernel_rfl)) (fun _ _ _ h => h) (Or.inl ⟨by rfl, ?_⟩) hHeld ?_ ?_
          rotate_left
          · intro w' hS
            have h_ := (hS.cell (World.block_lt_of_cell? _ _ HC1.out)).trans HC1.out
            go_simp
            with_reducible rfl
          rotate_left
          · simp only [Act.put, List.setIfInBounds_toArray, List.set_cons_zero, List.set_cons_succ, i64_w, i32_w]
            rfl
          refine pure_ (i := 10) (N := some 97) (v := ?_) (a' := ?_) #[true, true, true, true, true, true, true, true, true, true, true, false, false] rfl rfl (any_of HT_.out (by kernel_rfl)) (fun _ _ _ h => h) (Or.inl ⟨by rfl, ?_⟩) ?_ ?_
          rotate_left
          · intro w'
            go_simp
            with_reducible rfl
          rotate_left
          · simp only [Act.put, List.setIfInBounds_toArray, List.set_cons_zero, List.set_cons_succ, i64_w, i32_w]
            rfl
          refine pure_ (i := 11) (N := some 16) (v := ?_) (a' := ?_) #[true, true, true, true, true, true, true, true, true, true, true, true, false] rfl rfl (any_of HT_.out (by kernel_rfl)) (fun _ _ _ h => h) (Or.inl ⟨by rfl, ?_⟩) ?_ ?_
          rotate_left
          · intro w'
            go_simp
            with_reducible rfl
          rotate_left
          · simp only [Act.put, List.setIfInBounds_toArray, List.set_cons_zero, List.set_cons_succ, i64_w, i32_w]
            rfl
          refine pure_ (i := 12) (N := some 17) (v := ?_) (a' := ?_) #[true, true, true, true, true, true, true, true, true, true, true, true, true] rfl rfl (any_of HT_.out (by kernel_rfl)) (fun _ _ _ h => h) (Or.inl ⟨by rfl, ?_⟩) ?_ ?_
          rotate_left
          · intro w'
            go_simp
            with_reducible rfl
          rotate_left
          · simp only [Act.put, List.setIfInBounds_toArray, List.set_cons_zero, List.set_cons_succ, i64_w, i32_w]
            rfl
          refine done_ (done_of HT_.out (by kernel_rfl)) ?_
          clear hx0 hx1 hw5 g5 g6 q6a q6b
          have m1 := HM.out.1
          have m3 := HM.out.2.2.1
          have m7 : (F1 : Int) ≤ 14976 := Int.ofNat_le.2 HF1.out
          have m8 : (S : Int) ≤ 14976 := Int.ofNat_le.2 (s_le HF.out.1 HF.out.2.1 HF1.out)
          have m9 : (M : Int) ≤ 14976 := m_le HF.out.1 HF1.out
          have HV0 := Aside0.mk (Kd.R_drew HV.out)
          have HE2 := Aside0.mk (Kd.R_drew HE.out)
          have HB2 := Aside0.mk (below_drew1 HB.out)
          go_wp2
          go_loopg [19, 20] 33 (fun kq v19 v20 w' => ∃ (z : Int) (R' : List Int) (tb : Bool), v19 = .bool tb ∧ v20 = .int .i64 z ∧ Aside0 (0 ≤ z ∧ z ≤ 32 ∧ (32 - z).toNat ≤ kq) ∧ Aside0 (tb = decide (low QQ z.toNat (8 * R.length - o) ≠ 0)) ∧ Aside0 (Turn R QQ o z.toNat R') ∧ Aside0 (Kd.R (Kd.int .u8) 5 w' w.heap.size (fun _ => True) (.slice (some ⟨gb, 0, none⟩) C.length cb) (X ++ R' ++ Y)) ∧ Aside0 (Kd.R (Kd.int .i64) 3 w' w.heap.size (fun _ => True) (.slice (some ⟨ge, 0, none⟩) E.length ce) E) ∧ Aside0 (Below w.heap.size w w'))
          case atStart =>
            exact ⟨0, R, false, rfl, rfl, ⟨Int.le_refl 0, by decide, by decide⟩, ⟨by rw [show (0 : Int).toNat = 0 from rfl, low_zero]; rfl⟩, ⟨Turn.zero HRB.out QQ o⟩, ⟨by rw [← HSP.out]; exact HV0.out⟩, ⟨HE2.out⟩, ⟨HB2.out⟩⟩
          case round =>
            clear HV0 HE2 HB2 HV HE HB m1 m3 m9 GB1
            obtain ⟨z, R', tb, rfl, rfl, HZ, HTB, HT, HV, HE, HB⟩ := hrel
            obtain ⟨T, eT⟩ : ∃ T, X ++ R' ++ Y = T := ⟨_, rfl⟩
            rw [eT] at HV
            have HET := Aside0.mk eT
            clear eT
            by_cases kz : z < 32
            · have hz0 : 0 ≤ z := HZ.out.1
              have dz : decide (z < 32) = true := decide_eq_true kz
              have c15b0 := eq_true hz0
              have c15b1 : decide (0 ≤ z) = true := decide_eq_true hz0
              have HZ1 := Aside0.mk (wz1 hz0 kz)
              have HN := Aside0.mk (bit_step (Q := QQ) (o := o) (z := z) HQ.out HZ.out.1 kz)
              have hbit := HN.out.1
              by_cases kb : QQ / 2 ^ z.toNat % 2 = 1
              · rw [kb] at hbit
                have hb1 : Go.bits .and .u32 ((QQ : Int) / 2 ^ z.toNat) 1 = 1 := hbit
                have HKB := Aside0.mk kb
                clear hbit kb
                obtain ⟨p, hp2⟩ : ∃ p : Int, (S : Int) + z = p := ⟨_, rfl⟩
                have HPS := Aside0.mk hp2
                have HPW := Aside0.mk (wsum hp2 (s_le HF.out.1 HF.out.2.1 HF1.out) HZ.out.1 kz)
                by_cases kp : p < (F1 : Int)
                · have dp : decide (p < (F1 : Int)) = true := decide_eq_true kp
                  have HK := Aside0.mk (turn_place (X := X.length) (R := R.length) (p := p) (o := o) (z := z) (F0 := F0) (F1 := F1) (S := S) ⟨HF.out.1.1, HF.out.1.2.1, HF.out.1.2.2.2⟩ HPS.out.symm HZ.out.1 kp)
                  obtain ⟨j, m, j1, j2, j3, j4, j5, j6, j7, j8⟩ := turn_nums (p := p) (C := C.length) (F := F1) HK.out.1 kp (f1_le HF.out.1 HF.out.2.2.2) HF1.out
                  obtain ⟨s8, hs8⟩ : ∃ j_ : Int, shl .u8 1 m = j_ := ⟨_, rfl⟩
                  have hs8_ : (IntKind.u8.wrap (1 * 2 ^ min m.toNat 8)) = s8 := hs8
                  have hs8z : m ≤ 8 → (IntKind.u8.wrap (1 * 2 ^ m.toNat)) = s8 := shl_small hs8
                  have hs8u : (IntKind.u8.wrap (2 ^ min m.toNat 8)) = s8 := by have h_ := hs8_; rw [Int.one_mul] at h_; exact h_
                  have hs8v : m ≤ 8 → (IntKind.u8.wrap (2 ^ m.toNat)) = s8 := fun hle_ => by have h_ := hs8z hle_; rw [Int.one_mul] at h_; exact h_
                  have j7' := eq_true j7
                  have j7d : decide (0 ≤ m) = true := decide_eq_true j7
                  have cj0 := eq_true j5
                  have cj0d : decide (0 ≤ j) = true := decide_eq_true j5
                  have cj1d : decide (j < (C.length : Int)) = true := decide_eq_true j6
                  have HJ := Aside0.mk (And.intro j1 (And.intro j4 (And.intro j5 (And.intro j6 (And.intro j7 j8)))))
                  have HS8 := Aside0.mk hs8
                  have hz3 := HZ1.out
                  clear j1 j5 j6 j7 j8
                  go_wp2
                  have HV1 := Aside0.mk (Kd.R_drew HV.out)
                  have HE1' := Aside0.mk (Kd.R_drew HE.out)
                  have HB1 := Aside0.mk (below_drew1 HB.out)
                  clear HV HE HB
                  have q5 : 0 ≤ j := HJ.out.2.2.1
                  have q6 : j < (C.length : Int) := HJ.out.2.2.2.1
                  have GG := Aside0.mk (And.intro (Kd.R_base HV1.out gb rfl) (Kd.R_typed HV1.out gb rfl))
                  obtain ⟨hx1_, hf1_⟩ := Kd.R_celln 0 HV1.out j q5 q6
                  have q5' := eq_true q5
                  have q6' := eq_true q6
                  have hp3 := HPW.out
                  have hp4 := hp3
                  rw [hp2] at hp4
                  have HP2 := Aside0.mk (Kd.R_putn HV1.out j (Go.bits .xor .u8 (rd T j) s8))
                  have HE3 := Aside0.mk (show ∀ v : Value, Kd.R (Kd.int .i64) 3 (wr.drew.setCell ⟨gb, j.toNat, none⟩ v) w.heap.size (fun _ => True) (.slice (some ⟨ge, 0, none⟩) E.length ce) E from fun v => by obtain ⟨cells, hc⟩ := GG.out.2; exact Kd.R_set HE1'.out hc (by decide) _ _)
                  refine start_ (n := 15) (S := fun w' => w'.cell? ⟨gb, j.toNat, none⟩ = some (.int .u8 (rd T j))) (ds := [14]) #[false, false, false, false, false, false, false, false, false, false, false, false, false, false, false] (by kernel_rfl) rfl rfl hx1_ (fun hHeld => ?_)
                  refine with_tabW bursts.tab24 bursts.bits24 (fun HT_ HW_ => ?_)
                  generalize wr.drew = w26 at HV1 HE1' HB1 GG HP2 HE3 hf1_ hx1_ hHeld ⊢
                  refine pure_ (i := 0) (N := some 122) (v := ?_) (a' := ?_) #[true, false, false, false, false, false, false, false, false, false, false, false, false, false, false] rfl rfl (any_of HT_.out (by kernel_rfl)) (fun _ _ _ h => h) (Or.inl ⟨by rfl, ?_⟩) ?_ ?_
                  rotate_left
                  · intro w'
                    go_simp
                    with_reducible rfl
                  rotate_left
                  · simp only [Act.put, List.setIfInBounds_toArray, List.set_cons_zero, List.set_cons_succ, i64_w, i32_w]
                    rfl
                  refine pure_ (i := 1) (N := some 123) (v := ?_) (a' := ?_) #[true, true, false, false, false, false, false, false, false, false, false, false, false, false, false] rfl rfl (any_of HT_.out (by kernel_rfl)) (fun _ _ _ h => h) (Or.inl ⟨by rfl, ?_⟩) ?_ ?_
                  rotate_left
                  · intro w'
                    go_simp
                    with_reducible rfl
                  rotate_left
                  · simp only [Act.put, List.setIfInBounds_toArray, List.set_cons_zero, List.set_cons_succ, i64_w, i32_w]
                    rfl
                  refine pure_ (i := 2) (N := some 124) (v := ?_) (a' := ?_) #[true, true, true, false, false, false, false, false, false, false, false, false, false, false, false] rfl rfl (any_of HT_.out (by kernel_rfl)) (fun _ _ _ h => h) (Or.inl ⟨by rfl, ?_⟩) ?_ ?_
                  rotate_left
                  · intro w'
                    go_simp
                    with_reducible rfl
                  rotate_left
                  · simp only [Act.put, List.setIfInBounds_toArray, List.set_cons_zero, List.set_cons_succ, i64_w, i32_w]
                    rfl
                  refine pure_ (i := 3) (N := some 125) (v := ?_) (a' := ?_) #[true, true, true, true, false, false, false, false, false, false, false, false, false, false, false] rfl rfl (any_of HT_.out (by kernel_rfl)) (fun _ _ _ h => h) (Or.inl ⟨by rfl, ?_⟩) ?_ ?_
                  rotate_left
                  · intro w'
                    go_simp
                    with_reducible rfl
                  rotate_left
                  · simp only [Act.put, List.setIfInBounds_toArray, List.set_cons_zero, List.set_cons_succ, i64_w, i32_w]
                    rfl
                  refine pure_ (i := 4) (N := some 126) (v := ?_) (a' := ?_) #[true, true, true, true, true, false, false, false, false, false, false, false, false, false, false] rfl rfl (any_of HT_.out (by kernel_rfl)) (fun _ _ _ h => h) (Or.inl ⟨by rfl, ?_⟩) ?_ ?_
                  rotate_left
                  · intro w'
                    go_simp
                    with_reducible rfl
                  rotate_left
                  · simp only [Act.put, List.setIfInBounds_toArray, List.set_cons_zero, List.set_cons_succ, i64_w, i32_w]
                    rfl
                  refine pure_ (i := 5) (N := some 127) (v := ?_) (a' := ?_) #[true, true, true, true, true, true, false, false, false, false, false, false, false, false, false] rfl rfl (any_of HT_.out (by kernel_rfl)) (fun _ _ _ h => h) (Or.inl ⟨by rfl, ?_⟩) ?_ ?_
                  rotate_left
                  · intro w'
                    go_simp
                    with_reducible rfl
                  rotate_left
                  · simp only [Act.put, List.setIfInBounds_toArray, List.set_cons_zero, List.set_cons_succ, i64_w, i32_w]
                    rfl
                  refine take_ (i := 6) (N := some 128) (v := ?_) (a' := ?_) #[true, true, true, true, true, true, true, false, false, false, false, false, false, false, false] rfl rfl (take_ofW HT_.out HW_.out (by kernel_rfl)) (fun _ _ _ h => h) (Or.inl ⟨by rfl, ?_⟩) hHeld ?_ ?_
                  rotate_left
                  · intro w' s0
                    go_simp
                    with_reducible rfl
                  rotate_left
                  · simp only [Act.put, List.setIfInBounds_toArray, List.set_cons_zero, List.set_cons_succ, i64_w, i32_w]
                    rfl
                  refine pure_ (i := 7) (N := some 129) (v := ?_) (a' := ?_) #[true, true, true, true, true, true, true, true, false, false, false, false, false, false, false] rfl rfl (any_of HT_.out (by kernel_rfl)) (fun _ _ _ h => h) (Or.inl ⟨by rfl, ?_⟩) ?_ ?_
                  rotate_left
                  · intro w'
                    go_simp
                    with_reducible rfl
                  rotate_left
                  · simp only [Act.put, List.setIfInBounds_toArray, List.set_cons_zero, List.set_cons_succ, i64_w, i32_w]
                    rfl
                  refine pure_ (i := 8) (N := some 130) (v := ?_) (a' := ?_) #[true, true, true, true, true, true, true, true, true, false, false, false, false, false, false] rfl rfl (any_of HT_.out (by kernel_rfl)) (fun _ _ _ h => h) (Or.inl ⟨by rfl, ?_⟩) ?_ ?_
                  rotate_left
                  · intro w'
                    go_simp
                    with_reducible rfl
                  rotate_left
                  · simp only [Act.put, List.setIfInBounds_toArray, List.set_cons_zero, List.set_cons_succ, i64_w, i32_w]
                    rfl
                  refine pure_ (i := 9) (N := some 131) (v := ?_) (a' := ?_) #[true, true, true, true, true, true, true, true, true, true, false, false, false, false, false] rfl rfl (any_of HT_.out (by kernel_rfl)) (fun _ _ _ h => h) (Or.inl ⟨by rfl, ?_⟩) ?_ ?_
                  rotate_left
                  · intro w'
                    go_simp
                    with_reducible rfl
                  rotate_left
                  · simp only [Act.put, List.setIfInBounds_toArray, List.set_cons_zero, List.set_cons_succ, i64_w, i32_w]
                    rfl
                  refine pure_ (i := 10) (N := some 132) (v := ?_) (a' := ?_) #[true, true, true, true, true, true, true, true, true, true, true, false, false, false, false] rfl rfl (any_of HT_.out (by kernel_rfl)) (fun _ _ _ h => h) (Or.inl ⟨by rfl, ?_⟩) ?_ ?_
                  rotate_left
                  · intro w'
                    go_simp
                    with_reducible rfl
                  rotate_left
                  · simp only [Act.put, List.setIfInBounds_toArray, List.set_cons_zero, List.set_cons_succ, i64_w, i32_w]
                    rfl
                  refine pure_ (i := 11) (N := some 133) (v := ?_) (a' := ?_) #[true, true, true, true, true, true, true, true, true, true, true, true, false, false, false] rfl rfl (any_of HT_.out (by kernel_rfl)) (fun _ _ _ h => h) (Or.inl ⟨by rfl, ?_⟩) ?_ ?_
                  rotate_left
                  · intro w'
                    go_simp
                    with_reducible rfl
                  rotate_left
                  · simp only [Act.put, List.setIfInBounds_toArray, List.set_cons_zero, List.set_cons_succ, i64_w, i32_w]
                    rfl
                  refine pure_ (i := 12) (N := some 134) (v := ?_) (a' := ?_) #[true, true, true, true, true, true, true, true, true, true, true, true, true, false, false] rfl rfl (any_of HT_.out (by kernel_rfl)) (fun _ _ _ h => h) (Or.inl ⟨by rfl, ?_⟩) ?_ ?_
                  rotate_left
                  · intro w'
                    go_simp
                    with_reducible rfl
                  rotate_left
                  · simp only [Act.put, List.setIfInBounds_toArray, List.set_cons_zero, List.set_cons_succ, i64_w, i32_w]
                    rfl
                  refine pure_ (i := 13) (N := some 135) (v := ?_) (a' := ?_) #[true, true, true, true, true, true, true, true, true, true, true, true, true, true, false] rfl rfl (any_of HT_.out (by kernel_rfl)) (fun _ _ _ h => h) (Or.inl ⟨by rfl, ?_⟩) ?_ ?_
                  rotate_left
                  · intro w'
                    go_simp
                    with_reducible rfl
                  rotate_left
                  · simp only [Act.put, List.setIfInBounds_toArray, List.set_cons_zero, List.set_cons_succ, i64_w, i32_w]
                    rfl
                  refine last_ (i := 14) (N := none) #[true, true, true, true, true, true, true, true, true, true, true, true, true, true, true] rfl rfl (one_of HT_.out (by kernel_rfl)) (by decide) (fun K hK => ?_)
                  refine skip_ (w1 := ?_) (by rfl) rfl ?_ ?_
                  rotate_left
                  · go_simp
                    rfl
                  refine hK.out _ _ ?_
                  clear hK K
                  refine done_ (done_of HT_.out (by kernel_rfl)) ?_
                  clear hp3 hp4
                  go_wp2
                  have hx9 : z.toNat + 1 = (z + 1).toNat := by clear hz3; omega
                  have HB9 := Aside0.mk (below_set (j := j.toNat) (v := .int .u8 (Go.bits .xor .u8 (rd T j) s8)) HB1.out GG.out.1)
                  go_roundg (31 - z).toNat
                  case measure => clear hz3; have := HZ.out; omega
                  case rel =>
                    refine ⟨z + 1, R'.set ((o + z.toNat) / 8) (((R'.getD ((o + z.toNat) / 8) 0).toNat ^^^ 2 ^ ((o + z.toNat) % 8) : Nat) : Int), true, rfl, by first | rfl | (rw [hz3]) | go_num, ⟨by clear hz3; omega, by clear hz3; omega, by clear hz3; omega⟩, ⟨?_⟩, ⟨?_⟩, ⟨?_⟩, ⟨HE3.out _⟩, ⟨HB9.out⟩⟩
                    · rw [← hx9]
                      exact (decide_eq_true (low_one QQ (by have := HK.out.2.2.1; omega) HKB.out).2).symm
                    · rw [← hx9]
                      exact HT.out.one HKB.out (by have := HK.out.2.2.1; omega)
                    · have h := HP2.out
                      have e := turn_set (Y := Y) HT.out (C := C.length) HJ.out.2.2.2.2.1 HK.out HJ.out.1 HJ.out.2.1 HS8.out
                      rw [HET.out] at e
                      rw [e] at h
                      exact h
                · have dp : decide (p < (F1 : Int)) = false := decide_eq_false kp
                  have HKP := Aside0.mk (Int.not_lt.1 kp)
                  have hz3 := HZ1.out
                  go_wp2
                  have hx9 : z.toNat + 1 = (z + 1).toNat := by clear hz3; omega
                  have HO := Aside0.mk (turn_past (X := X.length) (R := R.length) (p := p) (o := o) (z := z) (F0 := F0) (F1 := F1) (S := S) ⟨HF.out.1.1, HF.out.1.2.1, HF.out.1.2.2.2⟩ HPS.out.symm HZ.out.1 HKP.out)
                  go_roundg (31 - z).toNat
                  case measure => clear hz3; have := HZ.out; omega
                  case rel => exact ⟨z + 1, R', tb, rfl, by first | rfl | (rw [hz3]) | go_num, ⟨by clear hz3; omega, by clear hz3; omega, by clear hz3; omega⟩, ⟨by rw [← hx9, low_same QQ (.inr HO.out)]; exact HTB.out⟩, ⟨by rw [← hx9]; exact HT.out.none (.inr HO.out)⟩, ⟨by rw [HET.out]; exact HV.out⟩, ⟨HE.out⟩, ⟨HB.out⟩⟩
              · have kb0 : QQ / 2 ^ z.toNat % 2 = 0 := by have := Nat.mod_lt (QQ / 2 ^ z.toNat) (show 0 < 2 from by decide); omega
                rw [kb0] at hbit
                have hb0 : Go.bits .and .u32 ((QQ : Int) / 2 ^ z.toNat) 1 = 0 := hbit
                have HKB := Aside0.mk kb0
                clear kb0
                clear hbit kb
                have hz3 := HZ1.out
                go_wp2
                have hx9 : z.toNat + 1 = (z + 1).toNat := by clear hz3; omega
                go_roundg (31 - z).toNat
                case measure => clear hz3; have := HZ.out; omega
                case rel => exact ⟨z + 1, R', tb, rfl, by first | rfl | (rw [hz3]) | go_num, ⟨by clear hz3; omega, by clear hz3; omega, by clear hz3; omega⟩, ⟨by rw [← hx9, low_same QQ (.inl HKB.out)]; exact HTB.out⟩, ⟨by rw [← hx9]; exact HT.out.none (.inl HKB.out)⟩, ⟨by rw [HET.out]; exact HV.out⟩, ⟨HE.out⟩, ⟨HB.out⟩⟩
            · have hz32 : z = 32 := by have := HZ.out.2.1; omega
              subst hz32
              have hTl : C.length = T.length := (Kd.R_reads' HV.out).1
              have hTc : T.length ≤ cb := by have := (Kd.R_reads' HV.out).2.1; omega
              have hTm : T.length ≤ 1000000 := by have := HCL.out; omega
              have hTB : isB T := by
                rw [← HET.out, ← HXY.out.1, ← HXY.out.2.1]
                exact isB_append (isB_append (catL_isB (HOK.out.take k)) HT.out.1) (catL_isB (HOK.out.drop (k + 1)))
              have htold := fun (w' : World) (hw : Kd.C (Kd.int .u8) w' (some ⟨gb, 0, none⟩) T.length T) => ftold2_calls (some ⟨gb, 0, none⟩) cb T 100 w' hw hTc hTB hTm
              have hend := fun (w' : World) (hw : Kd.C (Kd.int .u8) w' (some ⟨gb, 0, none⟩) T.length T) => fend_calls (some ⟨gb, 0, none⟩) cb T w' hw hTc hTB hTm
              have hnum := HT.out.2.2
              rw [show (32 : Int).toNat = 32 from rfl] at hnum
              have htb0 := HTB.out
              rw [show (32 : Int).toNat = 32 from rfl] at htb0
              rw [hTl] at HV ⊢
              by_cases hlz : low QQ 32 (8 * R.length - o) = 0
              · rw [hlz] at htb0 hnum
                have htb : tb = false := htb0
                subst htb
                rw [Nat.zero_mul, Nat.xor_zero] at hnum
                have eR' := numL_inj HT.out.1 HRB.out HT.out.2.1 hnum
                have eTC : T = C := by rw [← HET.out, eR', ← HSP.out]
                have hfit := fit_all HOK.out [] (.inl rfl)
                rw [List.append_nil, HCE.out, ← eTC] at hfit
                have hft : ftold T 100 = placesL 0 B := by
                  unfold ftold
                  rw [hfit, List.take_of_length_le]
                  rw [placesL_length, HRL.out]
                  have : (100 : Int).toNat = 100 := rfl
                  omega
                have hln : ((placesL 0 B).map (·.1)).length = i := by rw [List.length_map, placesL_length, HRL.out]
                rw [hft] at htold
                obtain ⟨T2, eT2⟩ : ∃ T2, placesL 0 B = T2 := ⟨_, rfl⟩
                rw [eT2] at htold hln
                have hln3 : T2.length = i := by rw [List.length_map] at hln; exact hln
                have HTOLD := Aside0.mk htold
                have HVC := Aside0.mk (Kd.R_reads' HV.out).2.2
                clear htold hend hnum htb0 eR' eTC hfit hft hln eT2 hTl hTc hTm hTB HV HE hlz
                go_wp2_with (first | (go_at_call 17; refine (HTOLD.out _ HVC.out).mono ?_; rintro e w7 ⟨v7, A7, c7, rfl, ho, _, _, _, hb⟩; obtain ⟨A8, c8, rfl⟩ := Kd.R_slice ho; clear ho; have n1_ := Aside0.mk (below_step HB.out hb); clear HB hb; have HB := n1_; clear n1_) | (go_at_call 10; refine (concordancelaw3_awake.calls _ _ _ HAW.out).mono ?_; rintro e w9 ⟨rfl, hb⟩; have n1_ := Aside0.mk (below_step HB.out hb); clear HB hb; have HB := n1_; clear n1_))
                go_ret
                exact ⟨rfl, HB.out⟩
              · have htb : tb = true := by rw [htb0]; exact decide_eq_true hlz
                subst htb
                have hki := HKI.out
                have hkB : k < B.length := by rw [HRL.out]; exact hki
                have hBk : B[k] = ((k : Int) + 1, y) := (List.getElem?_eq_some_iff.1 HXY.out.2.2.2.2.1).2
                have hrB : recL B[k].1 B[k].2 = R := by rw [hBk]; exact HXY.out.2.2.1
                have hXl : X.length ≤ 1872 := by have := HF.out.2.2.2; have := HCL.out; omega
                obtain ⟨hfit, hfend⟩ := burst_told HOK.out hkB HT.out.1 (by rw [hrB]; exact HT.out.2.1) (by rw [hrB]; exact HF.out.2.1) (low_lt HQ.out _ _) hlz (by rw [hrB]; exact hnum) (by rw [HXY.out.1]; omega)
                rw [HXY.out.1, HXY.out.2.1, HET.out] at hfit hfend
                have hBt : (B.take k).length = k := by rw [List.length_take]; omega
                have hft : ftold T 100 = placesL 0 (B.take k) := by
                  unfold ftold
                  rw [hfit, List.take_of_length_le]
                  rw [placesL_length, hBt]
                  have : (100 : Int).toNat = 100 := rfl
                  omega
                have hln : (placesL 0 (B.take k)).length = k := by rw [placesL_length, hBt]
                have hps := placesL_say 0 (B.take k)
                have hpg := placesL_getD (B.take k) 0
                rw [hBt] at hpg
                rw [hft] at htold
                rw [hfend] at hend
                obtain ⟨T2, eT2⟩ : ∃ T2, placesL 0 (B.take k) = T2 := ⟨_, rfl⟩
                rw [eT2] at htold hln hps hpg
                have HTOLD := Aside0.mk htold
                have HEND := Aside0.mk hend
                have HLN := Aside0.mk hln
                have HPS := Aside0.mk hps
                have HPG := Aside0.mk hpg
                have HBT := Aside0.mk hBt
                have hn1 : ((T2.length : Int) != (k : Int)) = false := bne_eq_false_iff_eq.mpr (by rw [hln])
                have hn2 : (((T2.map (·.1)).length : Int) != (k : Int)) = false := bne_eq_false_iff_eq.mpr (by rw [List.length_map, hln])
                clear htold hend hnum htb0 hfit hfend hft hln hps hpg eT2 hTl hTc hTm hTB hlz hrB hBk hkB hBt
                by_cases hk0 : k = 0
                · subst hk0
                  have hln3 : T2.length = 0 := HLN.out
                  go_wp2_with (first | (go_at_call 17; refine (HTOLD.out _ (Kd.R_reads' HV.out).2.2).mono ?_; rintro e w7 ⟨v7, A7, c7, rfl, ho, _, _, _, hb⟩; obtain ⟨A8, c8, rfl⟩ := Kd.R_slice ho; clear ho; have n0_ := Aside0.mk (Kd.R_below HV.out hb); have n2_ := Aside0.mk (Kd.R_below HE.out hb); clear HV HE; have HV := n0_; have HE := n2_; clear n0_ n2_; have n1_ := Aside0.mk (below_step HB.out hb); clear HB hb; have HB := n1_; clear n1_) | (go_at_call 18; refine (HEND.out _ (Kd.R_reads' HV.out).2.2).mono ?_; rintro e w8 ⟨rfl, hb⟩; have n0_ := Aside0.mk (Kd.R_below HV.out hb); have n2_ := Aside0.mk (Kd.R_below HE.out hb); clear HV HE; have HV := n0_; have HE := n2_; clear n0_ n2_; have n1_ := Aside0.mk (below_step HB.out hb); clear HB hb; have HB := n1_; clear n1_; have hce := head_cell (Kd.R_reads' HE.out).2.2 0 HKE.out.1; rw [HE0.out] at hce; have hke := HKE.out.1) | (go_at_call 10; refine (concordancelaw3_awake.calls _ _ _ HAW.out).mono ?_; rintro e w9 ⟨rfl, hb⟩; have n1_ := Aside0.mk (below_step HB.out hb); clear HB hb; have HB := n1_; clear n1_))
                  go_loopg [25] 1 (fun kq v25 w' => v25 = .int .i64 0 ∧ w' = w8)
                  case atStart => exact ⟨rfl, rfl⟩
                  case round =>
                    obtain ⟨rfl, rfl⟩ := hrel
                    go_wp2_with (first | (go_at_call 10; refine (concordancelaw3_awake.calls _ _ _ HAW.out).mono ?_; rintro e w9 ⟨rfl, hb⟩; have n1_ := Aside0.mk (below_step HB.out hb); clear HB hb; have HB := n1_; clear n1_))
                    go_ret
                    exact ⟨rfl, HB.out⟩
                · have HK0 := Aside0.mk (show 0 < k by omega)
                  have hln3 : T2.length = k := HLN.out
                  have hTl0 : (T2.map (·.1)).length = k := by rw [List.length_map, hln3]
                  have HTL0 := Aside0.mk hTl0
                  have hk6 : k ≤ 6 := by have := HKI.out; omega
                  clear hk0 hln3 hTl0
                  go_wp2_with (first | ((with_reducible refine gate_callee (f := 17) rfl ?_); refine goesL_ (some 138) rfl rfl Try.func17 (by kernel_rfl) rfl #[.slice (some ⟨gb, 0, none⟩) T.length cb, .int .i64 100] rfl (by (try simp only [List.map_toArray, List.map_cons, List.map_nil]); first | done | rfl) ?_; refine (HTOLD.out _ (Kd.R_reads' HV.out).2.2).mono ?_; rintro e w7 ⟨v7, A7, c7, rfl, ho, hle7, hC7, hg7, hb⟩; refine ⟨_, rfl, ?_⟩; obtain ⟨gp, cp, rfl, _, _, _, _⟩ := Kd.R_form ho (by rw [HTL0.out]; exact HK0.out); obtain ⟨gl, rfl⟩ := hg7 (by rw [HLN.out]; exact HK0.out); have HP := Aside0.mk (Kd.R_reads' ho).2.2; have HLR := Aside0.mk hC7; have n0_ := Aside0.mk (Kd.R_below HV.out hb); have n2_ := Aside0.mk (Kd.R_below HE.out hb); clear HV HE ho hC7 hle7 hg7; have HV := n0_; have HE := n2_; clear n0_ n2_; have n1_ := Aside0.mk (below_step HB.out hb); clear HB hb; have HB := n1_; clear n1_) | (go_at_call 18; refine (HEND.out _ (Kd.R_reads' HV.out).2.2).mono ?_; rintro e w8 ⟨rfl, hb⟩; have n0_ := Aside0.mk (Kd.C_below HP.out hb); have n2_ := Aside0.mk (Kd.R_below HE.out hb); have n3_ := Aside0.mk (Kd.C_below HLR.out hb); clear HV HE HP HLR; have HP := n0_; have HE := n2_; have HLR := n3_; clear n0_ n2_ n3_; have n1_ := Aside0.mk (below_step HB.out hb); clear HB hb; have HB := n1_; clear n1_; have hce := head_cell (Kd.R_reads' HE.out).2.2 k HKE.out.1; rw [HE0.out] at hce; have hke := HKE.out.1))
                  clear hce hke
                  rw [HPS.out, HBT.out] at HLR
                  go_loopg [25] (k + 1) (fun kq v25 w' => ∃ j : Nat, v25 = .int .i64 (j : Int) ∧ Aside0 (j ≤ k ∧ k - j ≤ kq) ∧ Aside0 (Below w8.heap.size w8 w'))
                  case atStart => exact ⟨0, rfl, ⟨by omega, by omega⟩, ⟨Below.refl _ _⟩⟩
                  case round =>
                    obtain ⟨j, rfl, HJ, HB7⟩ := hrel
                    have hj10 : j ≤ 6 := by have := HJ.out.1; omega
                    by_cases k2 : j < k
                    · have hjE : j < E.length := by have := HKE.out.1; omega
                      have d3 : decide ((j : Int) < (E.length : Int)) = true := decide_eq_true (by omega)
                      have d4 : decide ((j : Int) < (k : Int)) = true := decide_eq_true (by omega)
                      have hcp := head_cell (Kd.C_below HP.out HB7.out) j (by rw [HTL0.out]; exact k2)
                      have hce := head_cell (Kd.C_below (Kd.R_reads' HE.out).2.2 HB7.out) j hjE
                      have hjB : j < (B.take k).length := by rw [HBT.out]; exact k2
                      have hki2 : k < i := HKI.out
                      have hval : rd (T2.map (·.1)) (j : Int) = ((catL (recsOf (fun j => (j : Int) + 1) L j)).length : Int) := by
                        have h1 := HPG.out j k2
                        rw [HRT.out j (by omega)]
                        unfold rd
                        rw [Int.toNat_natCast, h1, List.take_take, Nat.min_eq_left (by omega)]
                        omega
                      rw [hval] at hcp
                      rw [HEA.out j (by omega)] at hce
                      obtain ⟨Al, cl, hl0, hl1, hll, hlC⟩ := frow_cells (by rw [HBT.out]; exact Kd.C_below HLR.out HB7.out) j hjB
                      rw [List.getElem_take, HGE.out j (by rw [HRL.out]; omega)] at hl0 hl1 hlC
                      obtain ⟨ad, A2, c2, rfl, hcell, hle2, hC2⟩ := at_L1 (Kd.C_below HR0.out (below_step HB.out HB7.out)) (j : Int) (by omega) (by have := HIL.out; omega)
                      rw [Int.toNat_natCast] at hcell
                      have hjL : j < L.length := by have := HIL.out; omega
                      have hjT : j < T2.length := by rw [HLN.out]; exact k2
                      obtain ⟨q, eq⟩ : ∃ q, (catL (recsOf (fun j => (j : Int) + 1) L j)).length = q := ⟨_, rfl⟩
                      obtain ⟨y2, ey⟩ : ∃ y2, rd_L1 L (j : Int) = y2 := ⟨_, rfl⟩
                      rw [eq] at hcp hce
                      dsimp only at hl0 hl1 hlC
                      rw [ey] at hl1 hlC hcell hC2
                      have HCP := Aside0.mk hcp
                      have HCE2 := Aside0.mk hce
                      have HL0 := Aside0.mk hl0
                      have HL1 := Aside0.mk hl1
                      have HLC := Aside0.mk hlC
                      have HCC := Aside0.mk hcell
                      have HC2 := Aside0.mk hC2
                      have HK2 := Aside0.mk k2
                      clear hval eq ey hll hlC hle2 hC2 hjB hcp hce hl0 hl1 hcell hki2
                      have hw2 : wrap64 ((j : Int) + 1) = (j : Int) + 1 := w64 (by omega) (by omega)
                      go_wp2
                      refine start_ (n := 33) (S := fun w' => Below wr.heap.size wr w') (ds := []) #[false, false, false, false, false, false, false, false, false, false, false, false, false, false, false, false, false, false, false, false, false, false, false, false, false, false, false, false, false, false, false, false, false] (by kernel_rfl) rfl rfl (below_drew1 (Below.refl _ _)) (fun hHeld => ?_)
                      refine with_tabW bursts.tab35 bursts.bits35 (fun HT_ HW_ => ?_)
                      refine pure_ (i := 0) (N := some 176) (v := ?_) (a' := ?_) #[true, false, false, false, false, false, false, false, false, false, false, false, false, false, false, false, false, false, false, false, false, false, false, false, false, false, false, false, false, false, false, false, false] rfl rfl (any_of HT_.out (by kernel_rfl)) (fun _ _ _ h => h) (Or.inl ⟨by rfl, ?_⟩) ?_ ?_
                      rotate_left
                      · intro w'
                        go_simp
                        with_reducible rfl
                      rotate_left
                      · simp only [Act.put, List.setIfInBounds_toArray, List.set_cons_zero, List.set_cons_succ, i64_w, i32_w]
                        rfl
                      refine pure_ (i := 1) (N := some 177) (v := ?_) (a' := ?_) #[true, true, false, false, false, false, false, false, false, false, false, false, false, false, false, false, false, false, false, false, false, false, false, false, false, false, false, false, false, false, false, false, false] rfl rfl (any_of HT_.out (by kernel_rfl)) (fun _ _ _ h => h) (Or.inl ⟨by rfl, ?_⟩) ?_ ?_
                      rotate_left
                      · intro w'
                        go_simp
                        with_reducible rfl
                      rotate_left
                      · simp only [Act.put, List.setIfInBounds_toArray, List.set_cons_zero, List.set_cons_succ, i64_w, i32_w]
                        rfl
                      refine pure_ (i := 2) (N := some 178) (v := ?_) (a' := ?_) #[true, true, true, false, false, false, false, false, false, false, false, false, false, false, false, false, false, false, false, false, false, false, false, false, false, false, false, false, false, false, false, false, false] rfl rfl (any_of HT_.out (by kernel_rfl)) (fun _ _ _ h => h) (Or.inl ⟨by rfl, ?_⟩) ?_ ?_
                      rotate_left
                      · intro w'
                        go_simp
                        with_reducible rfl
                      rotate_left
                      · simp only [Act.put, List.setIfInBounds_toArray, List.set_cons_zero, List.set_cons_succ, i64_w, i32_w]
                        rfl
                      refine take_ (i := 3) (N := some 179) (v := ?_) (a' := ?_) #[true, true, true, true, false, false, false, false, false, false, false, false, false, false, false, false, false, false, false, false, false, false, false, false, false, false, false, false, false, false, false, false, false] rfl rfl (take_ofW HT_.out HW_.out (by kernel_rfl)) (fun _ _ _ h => h) (Or.inl ⟨by rfl, ?_⟩) hHeld ?_ ?_
                      rotate_left
                      · intro w' hS
                        have h_ := (hS.cell (World.block_lt_of_cell? _ _ HCP.out)).trans HCP.out
                        go_simp
                        with_reducible rfl
                      rotate_left
                      · simp only [Act.put, List.setIfInBounds_toArray, List.set_cons_zero, List.set_cons_succ, i64_w, i32_w]
                        rfl
                      refine pure_ (i := 4) (N := some 180) (v := ?_) (a' := ?_) #[true, true, true, true, true, false, false, false, false, false, false, false, false, false, false, false, false, false, false, false, false, false, false, false, false, false, false, false, false, false, false, false, false] rfl rfl (any_of HT_.out (by kernel_rfl)) (fun _ _ _ h => h) (Or.inl ⟨by rfl, ?_⟩) ?_ ?_
                      rotate_left
                      · intro w'
                        go_simp
                        with_reducible rfl
                      rotate_left
                      · simp only [Act.put, List.setIfInBounds_toArray, List.set_cons_zero, List.set_cons_succ, i64_w, i32_w]
                        rfl
                      refine pure_ (i := 5) (N := some 181) (v := ?_) (a' := ?_) #[true, true, true, true, true, true, false, false, false, false, false, false, false, false, false, false, false, false, false, false, false, false, false, false, false, false, false, false, false, false, false, false, false] rfl rfl (any_of HT_.out (by kernel_rfl)) (fun _ _ _ h => h) (Or.inl ⟨by rfl, ?_⟩) ?_ ?_
                      rotate_left
                      · intro w'
                        go_simp
                        with_reducible rfl
                      rotate_left
                      · simp only [Act.put, List.setIfInBounds_toArray, List.set_cons_zero, List.set_cons_succ, i64_w, i32_w]
                        rfl
                      refine pure_ (i := 6) (N := some 182) (v := ?_) (a' := ?_) #[true, true, true, true, true, true, true, false, false, false, false, false, false, false, false, false, false, false, false, false, false, false, false, false, false, false, false, false, false, false, false, false, false] rfl rfl (any_of HT_.out (by kernel_rfl)) (fun _ _ _ h => h) (Or.inl ⟨by rfl, ?_⟩) ?_ ?_
                      rotate_left
                      · intro w'
                        go_simp
                        with_reducible rfl
                      rotate_left
                      · simp only [Act.put, List.setIfInBounds_toArray, List.set_cons_zero, List.set_cons_succ, i64_w, i32_w]
                        rfl
                      refine take_ (i := 7) (N := some 183) (v := ?_) (a' := ?_) #[true, true, true, true, true, true, true, true, false, false, false, false, false, false, false, false, false, false, false, false, false, false, false, false, false, false, false, false, false, false, false, false, false] rfl rfl (take_ofW HT_.out HW_.out (by kernel_rfl)) (fun _ _ _ h => h) (Or.inl ⟨by rfl, ?_⟩) hHeld ?_ ?_
                      rotate_left
                      · intro w' hS
                        have h_ := (hS.cell (World.block_lt_of_cell? _ _ HCE2.out)).trans HCE2.out
                        go_simp
                        with_reducible rfl
                      rotate_left
                      · simp only [Act.put, List.setIfInBounds_toArray, List.set_cons_zero, List.set_cons_succ, i64_w, i32_w]
                        rfl
                      refine pure_ (i := 8) (N := some 184) (v := ?_) (a' := ?_) #[true, true, true, true, true, true, true, true, true, false, false, false, false, false, false, false, false, false, false, false, false, false, false, false, false, false, false, false, false, false, false, false, false] rfl rfl (any_of HT_.out (by kernel_rfl)) (fun _ _ _ h => h) (Or.inl ⟨by rfl, ?_⟩) ?_ ?_
                      rotate_left
                      · intro w'
                        go_simp
                        with_reducible rfl
                      rotate_left
                      · simp only [Act.put, List.setIfInBounds_toArray, List.set_cons_zero, List.set_cons_succ, i64_w, i32_w]
                        rfl
                      refine pure_ (i := 9) (N := some 185) (v := ?_) (a' := ?_) #[true, true, true, true, true, true, true, true, true, true, false, false, false, false, false, false, false, false, false, false, false, false, false, false, false, false, false, false, false, false, false, false, false] rfl rfl (any_of HT_.out (by kernel_rfl)) (fun _ _ _ h => h) (Or.inl ⟨by rfl, ?_⟩) ?_ ?_
                      rotate_left
                      · intro w'
                        go_simp
                        with_reducible rfl
                      rotate_left
                      · simp only [Act.put, List.setIfInBounds_toArray, List.set_cons_zero, List.set_cons_succ, i64_w, i32_w]
                        rfl
                      refine pure_ (i := 10) (N := some 186) (v := ?_) (a' := ?_) #[true, true, true, true, true, true, true, true, true, true, true, false, false, false, false, false, false, false, false, false, false, false, false, false, false, false, false, false, false, false, false, false, false] rfl rfl (any_of HT_.out (by kernel_rfl)) (fun _ _ _ h => h) (Or.inl ⟨by rfl, ?_⟩) ?_ ?_
                      rotate_left
                      · intro w'
                        go_simp
                        with_reducible rfl
                      rotate_left
                      · simp only [Act.put, List.setIfInBounds_toArray, List.set_cons_zero, List.set_cons_succ, i64_w, i32_w]
                        rfl
                      refine pure_ (i := 11) (N := some 187) (v := ?_) (a' := ?_) #[true, true, true, true, true, true, true, true, true, true, true, true, false, false, false, false, false, false, false, false, false, false, false, false, false, false, false, false, false, false, false, false, false] rfl rfl (any_of HT_.out (by kernel_rfl)) (fun _ _ _ h => h) (Or.inl ⟨by rfl, ?_⟩) ?_ ?_
                      rotate_left
                      · intro w'
                        go_simp
                        with_reducible rfl
                      rotate_left
                      · simp only [Act.put, List.setIfInBounds_toArray, List.set_cons_zero, List.set_cons_succ, i64_w, i32_w]
                        rfl
                      refine pure_ (i := 12) (N := some 188) (v := ?_) (a' := ?_) #[true, true, true, true, true, true, true, true, true, true, true, true, true, false, false, false, false, false, false, false, false, false, false, false, false, false, false, false, false, false, false, false, false] rfl rfl (any_of HT_.out (by kernel_rfl)) (fun _ _ _ h => h) (Or.inl ⟨by rfl, ?_⟩) ?_ ?_
                      rotate_left
                      · intro w'
                        go_simp
                        with_reducible rfl
                      rotate_left
                      · simp only [Act.put, List.setIfInBounds_toArray, List.set_cons_zero, List.set_cons_succ, i64_w, i32_w]
                        rfl
                      refine pure_ (i := 13) (N := some 189) (v := ?_) (a' := ?_) #[true, true, true, true, true, true, true, true, true, true, true, true, true, true, false, false, false, false, false, false, false, false, false, false, false, false, false, false, false, false, false, false, false] rfl rfl (any_of HT_.out (by kernel_rfl)) (fun _ _ _ h => h) (Or.inl ⟨by rfl, ?_⟩) ?_ ?_
                      rotate_left
                      · intro w'
                        go_simp
                        with_reducible rfl
                      rotate_left
                      · simp only [Act.put, List.setIfInBounds_toArray, List.set_cons_zero, List.set_cons_succ, i64_w, i32_w]
                        rfl
                      refine take_ (i := 14) (N := some 190) (v := ?_) (a' := ?_) #[true, true, true, true, true, true, true, true, true, true, true, true, true, true, true, false, false, false, false, false, false, false, false, false, false, false, false, false, false, false, false, false, false] rfl rfl (take_ofW HT_.out HW_.out (by kernel_rfl)) (fun _ _ _ h => h) (Or.inl ⟨by rfl, ?_⟩) hHeld ?_ ?_
                      rotate_left
                      · intro w' hS
                        have h_ := (hS.cell (World.block_lt_of_cell? _ _ HL0.out)).trans HL0.out
                        go_simp
                        with_reducible rfl
                      rotate_left
                      · simp only [Act.put, List.setIfInBounds_toArray, List.set_cons_zero, List.set_cons_succ, i64_w, i32_w]
                        rfl
                      refine pure_ (i := 15) (N := some 191) (v := ?_) (a' := ?_) #[true, true, true, true, true, true, true, true, true, true, true, true, true, true, true, true, false, false, false, false, false, false, false, false, false, false, false, false, false, false, false, false, false] rfl rfl (any_of HT_.out (by kernel_rfl)) (fun _ _ _ h => h) (Or.inl ⟨by rfl, ?_⟩) ?_ ?_
                      rotate_left
                      · intro w'
                        go_simp
                        with_reducible rfl
                      rotate_left
                      · simp only [Act.put, List.setIfInBounds_toArray, List.set_cons_zero, List.set_cons_succ, i64_w, i32_w]
                        rfl
                      refine pure_ (i := 16) (N := some 192) (v := ?_) (a' := ?_) #[true, true, true, true, true, true, true, true, true, true, true, true, true, true, true, true, true, false, false, false, false, false, false, false, false, false, false, false, false, false, false, false, false] rfl rfl (any_of HT_.out (by kernel_rfl)) (fun _ _ _ h => h) (Or.inl ⟨by rfl, ?_⟩) ?_ ?_
                      rotate_left
                      · intro w'
                        go_simp
                        with_reducible rfl
                      rotate_left
                      · simp only [Act.put, List.setIfInBounds_toArray, List.set_cons_zero, List.set_cons_succ, i64_w, i32_w]
                        rfl
                      refine pure_ (i := 17) (N := some 193) (v := ?_) (a' := ?_) #[true, true, true, true, true, true, true, true, true, true, true, true, true, true, true, true, true, true, false, false, false, false, false, false, false, false, false, false, false, false, false, false, false] rfl rfl (any_of HT_.out (by kernel_rfl)) (fun _ _ _ h => h) (Or.inl ⟨by rfl, ?_⟩) ?_ ?_
                      rotate_left
                      · intro w'
                        go_simp
                        with_reducible rfl
                      rotate_left
                      · simp only [Act.put, List.setIfInBounds_toArray, List.set_cons_zero, List.set_cons_succ, i64_w, i32_w]
                        rfl
                      refine pure_ (i := 18) (N := some 194) (v := ?_) (a' := ?_) #[true, true, true, true, true, true, true, true, true, true, true, true, true, true, true, true, true, true, true, false, false, false, false, false, false, false, false, false, false, false, false, false, false] rfl rfl (any_of HT_.out (by kernel_rfl)) (fun _ _ _ h => h) (Or.inl ⟨by rfl, ?_⟩) ?_ ?_
                      rotate_left
                      · intro w'
                        go_simp
                        with_reducible rfl
                      rotate_left
                      · simp only [Act.put, List.setIfInBounds_toArray, List.set_cons_zero, List.set_cons_succ, i64_w, i32_w]
                        rfl
                      refine pure_ (i := 19) (N := some 195) (v := ?_) (a' := ?_) #[true, true, true, true, true, true, true, true, true, true, true, true, true, true, true, true, true, true, true, true, false, false, false, false, false, false, false, false, false, false, false, false, false] rfl rfl (any_of HT_.out (by kernel_rfl)) (fun _ _ _ h => h) (Or.inl ⟨by rfl, ?_⟩) ?_ ?_
                      rotate_left
                      · intro w'
                        go_simp
                        with_reducible rfl
                      rotate_left
                      · simp only [Act.put, List.setIfInBounds_toArray, List.set_cons_zero, List.set_cons_succ, i64_w, i32_w]
                        rfl
                      refine pure_ (i := 20) (N := some 196) (v := ?_) (a' := ?_) #[true, true, true, true, true, true, true, true, true, true, true, true, true, true, true, true, true, true, true, true, true, false, false, false, false, false, false, false, false, false, false, false, false] rfl rfl (any_of HT_.out (by kernel_rfl)) (fun _ _ _ h => h) (Or.inl ⟨by rfl, ?_⟩) ?_ ?_
                      rotate_left
                      · intro w'
                        go_simp
                        with_reducible rfl
                      rotate_left
                      · simp only [Act.put, List.setIfInBounds_toArray, List.set_cons_zero, List.set_cons_succ, i64_w, i32_w]
                        rfl
                      refine pure_ (i := 21) (N := some 197) (v := ?_) (a' := ?_) #[true, true, true, true, true, true, true, true, true, true, true, true, true, true, true, true, true, true, true, true, true, true, false, false, false, false, false, false, false, false, false, false, false] rfl rfl (any_of HT_.out (by kernel_rfl)) (fun _ _ _ h => h) (Or.inl ⟨by rfl, ?_⟩) ?_ ?_
                      rotate_left
                      · intro w'
                        go_simp
                        with_reducible rfl
                      rotate_left
                      · simp only [Act.put, List.setIfInBounds_toArray, List.set_cons_zero, List.set_cons_succ, i64_w, i32_w]
                        rfl
                      refine pure_ (i := 22) (N := some 198) (v := ?_) (a' := ?_) #[true, true, true, true, true, true, true, true, true, true, true, true, true, true, true, true, true, true, true, true, true, true, true, false, false, false, false, false, false, false, false, false, false] rfl rfl (any_of HT_.out (by kernel_rfl)) (fun _ _ _ h => h) (Or.inl ⟨by rfl, ?_⟩) ?_ ?_
                      rotate_left
                      · intro w'
                        go_simp
                        with_reducible rfl
                      rotate_left
                      · simp only [Act.put, List.setIfInBounds_toArray, List.set_cons_zero, List.set_cons_succ, i64_w, i32_w]
                        rfl
                      refine pure_ (i := 23) (N := some 199) (v := ?_) (a' := ?_) #[true, true, true, true, true, true, true, true, true, true, true, true, true, true, true, true, true, true, true, true, true, true, true, true, false, false, false, false, false, false, false, false, false] rfl rfl (any_of HT_.out (by kernel_rfl)) (fun _ _ _ h => h) (Or.inl ⟨by rfl, ?_⟩) ?_ ?_
                      rotate_left
                      · intro w'
                        go_simp
                        with_reducible rfl
                      rotate_left
                      · simp only [Act.put, List.setIfInBounds_toArray, List.set_cons_zero, List.set_cons_succ, i64_w, i32_w]
                        rfl
                      refine take_ (i := 24) (N := some 200) (v := ?_) (a' := ?_) #[true, true, true, true, true, true, true, true, true, true, true, true, true, true, true, true, true, true, true, true, true, true, true, true, true, false, false, false, false, false, false, false, false] rfl rfl (take_ofW HT_.out HW_.out (by kernel_rfl)) (fun _ _ _ h => h) (Or.inl ⟨by rfl, ?_⟩) hHeld ?_ ?_
                      rotate_left
                      · intro w' hS
                        have h_ := (hS.cell (World.block_lt_of_cell? _ _ HL1.out)).trans HL1.out
                        go_simp
                        with_reducible rfl
                      rotate_left
                      · simp only [Act.put, List.setIfInBounds_toArray, List.set_cons_zero, List.set_cons_succ, i64_w, i32_w]
                        rfl
                      refine take_ (i := 25) (N := some 201) (v := ?_) (a' := ?_) #[true, true, true, true, true, true, true, true, true, true, true, true, true, true, true, true, true, true, true, true, true, true, true, true, true, true, false, false, false, false, false, false, false] rfl rfl (take_ofW HT_.out HW_.out (by kernel_rfl)) (fun _ _ _ h => h) (Or.inl ⟨by rfl, ?_⟩) hHeld ?_ ?_
                      rotate_left
                      · intro w' hS
                        have h_ := Kd.C_string (P := Try.prog) (A := Al) (c := cl) Try.underlying22 Try.underlying5 Try.underlying9 (Kd.C_below HLC.out hS)
                        go_simp
                        with_reducible rfl
                      rotate_left
                      · simp only [Act.put, List.setIfInBounds_toArray, List.set_cons_zero, List.set_cons_succ, i64_w, i32_w]
                        rfl
                      refine pure_ (i := 26) (N := some 202) (v := ?_) (a' := ?_) #[true, true, true, true, true, true, true, true, true, true, true, true, true, true, true, true, true, true, true, true, true, true, true, true, true, true, true, false, false, false, false, false, false] rfl rfl (any_of HT_.out (by kernel_rfl)) (fun _ _ _ h => h) (Or.inl ⟨by rfl, ?_⟩) ?_ ?_
                      rotate_left
                      · intro w'
                        go_simp
                        with_reducible rfl
                      rotate_left
                      · simp only [Act.put, List.setIfInBounds_toArray, List.set_cons_zero, List.set_cons_succ, i64_w, i32_w]
                        rfl
                      refine pure_ (i := 27) (N := some 203) (v := ?_) (a' := ?_) #[true, true, true, true, true, true, true, true, true, true, true, true, true, true, true, true, true, true, true, true, true, true, true, true, true, true, true, true, false, false, false, false, false] rfl rfl (any_of HT_.out (by kernel_rfl)) (fun _ _ _ h => h) (Or.inl ⟨by rfl, ?_⟩) ?_ ?_
                      rotate_left
                      · intro w'
                        go_simp
                        with_reducible rfl
                      rotate_left
                      · simp only [Act.put, List.setIfInBounds_toArray, List.set_cons_zero, List.set_cons_succ, i64_w, i32_w]
                        rfl
                      refine pure_ (i := 28) (N := some 204) (v := ?_) (a' := ?_) #[true, true, true, true, true, true, true, true, true, true, true, true, true, true, true, true, true, true, true, true, true, true, true, true, true, true, true, true, true, false, false, false, false] rfl rfl (any_of HT_.out (by kernel_rfl)) (fun _ _ _ h => h) (Or.inl ⟨by rfl, ?_⟩) ?_ ?_
                      rotate_left
                      · intro w'
                        go_simp
                        with_reducible rfl
                      rotate_left
                      · simp only [Act.put, List.setIfInBounds_toArray, List.set_cons_zero, List.set_cons_succ, i64_w, i32_w]
                        rfl
                      refine take_ (i := 29) (N := some 205) (v := ?_) (a' := ?_) #[true, true, true, true, true, true, true, true, true, true, true, true, true, true, true, true, true, true, true, true, true, true, true, true, true, true, true, true, true, true, false, false, false] rfl rfl (take_ofW HT_.out HW_.out (by kernel_rfl)) (fun _ _ _ h => h) (Or.inl ⟨by rfl, ?_⟩) hHeld ?_ ?_
                      rotate_left
                      · intro w' hS
                        have h_ := (hS.cell (World.block_lt_of_cell? _ _ HCC.out)).trans HCC.out
                        go_simp
                        with_reducible rfl
                      rotate_left
                      · simp only [Act.put, List.setIfInBounds_toArray, List.set_cons_zero, List.set_cons_succ, i64_w, i32_w]
                        rfl
                      refine take_ (i := 30) (N := some 206) (v := ?_) (a' := ?_) #[true, true, true, true, true, true, true, true, true, true, true, true, true, true, true, true, true, true, true, true, true, true, true, true, true, true, true, true, true, true, true, false, false] rfl rfl (take_ofW HT_.out HW_.out (by kernel_rfl)) (fun _ _ _ h => h) (Or.inl ⟨by rfl, ?_⟩) hHeld ?_ ?_
                      rotate_left
                      · intro w' hS
                        have h_ := Kd.C_string (P := Try.prog) (A := A2) (c := c2) Try.underlying22 Try.underlying5 Try.underlying9 (Kd.C_below HC2.out hS)
                        go_simp
                        with_reducible rfl
                      rotate_left
                      · simp only [Act.put, List.setIfInBounds_toArray, List.set_cons_zero, List.set_cons_succ, i64_w, i32_w]
                        rfl
                      refine pure_ (i := 31) (N := some 207) (v := ?_) (a' := ?_) #[true, true, true, true, true, true, true, true, true, true, true, true, true, true, true, true, true, true, true, true, true, true, true, true, true, true, true, true, true, true, true, true, false] rfl rfl (any_of HT_.out (by kernel_rfl)) (fun _ _ _ h => h) (Or.inl ⟨by rfl, ?_⟩) ?_ ?_
                      rotate_left
                      · intro w'
                        go_simp
                        with_reducible rfl
                      rotate_left
                      · simp only [Act.put, List.setIfInBounds_toArray, List.set_cons_zero, List.set_cons_succ, i64_w, i32_w]
                        rfl
                      refine pure_ (i := 32) (N := some 208) (v := ?_) (a' := ?_) #[true, true, true, true, true, true, true, true, true, true, true, true, true, true, true, true, true, true, true, true, true, true, true, true, true, true, true, true, true, true, true, true, true] rfl rfl (any_of HT_.out (by kernel_rfl)) (fun _ _ _ h => h) (Or.inl ⟨by rfl, ?_⟩) ?_ ?_
                      rotate_left
                      · intro w'
                        go_simp
                        with_reducible rfl
                      rotate_left
                      · simp only [Act.put, List.setIfInBounds_toArray, List.set_cons_zero, List.set_cons_succ, i64_w, i32_w]
                        rfl
                      refine done_ (done_of HT_.out (by kernel_rfl)) ?_
                      clear hw2
                      go_wp2
                      go_roundg (k - 1 - j)
                      case measure => have := HJ.out; have := HK2.out; omega
                      case rel => exact ⟨j + 1, by go_num, ⟨by have := HK2.out; omega, by omega⟩, ⟨below_drew1 HB7.out⟩⟩
                    · have d4 : decide ((j : Int) < (k : Int)) = false := decide_eq_false (by omega)
                      have HB9 := Aside0.mk (below_step HB.out HB7.out)
                      clear HB
                      have HB := HB9
                      clear HB9
                      go_wp2_with (first | (go_at_call 10; refine (concordancelaw3_awake.calls _ _ _ HAW.out).mono ?_; rintro e w9 ⟨rfl, hb⟩; have n1_ := Aside0.mk (below_step HB.out hb); clear HB hb; have HB := n1_; clear n1_))
                      go_ret
                      exact ⟨rfl, HB.out⟩
end Go.Proofs.Ytcnapbpljghfoaa.Hand

/- A parameter of rows of bytes ([][]byte), as it comes in: it reads as a row of rows. -/
namespace Go.Proofs.Ytcnapbpljghfoaa.Hand
open Go.RowKit Go.ChangeShapes Go.WideShapes Go.ChangeAt Go.Deep Go.Proofs.YtcnapbpljghfoaaW.PrintWords Go.Proofs.YtcnapbpljghfoaaW.PrintLast Go.Proofs.YtcnapbpljghfoaaW.PrintMore
set_option linter.unusedVariables false
theorem open_rows {H : Type} {enc : TypeId × Value → H} {P : Program} {W : World} {base : Nat} {held : Bool} {t e q : TypeId} {k : IntKind} {d : DataW H} {p : List MemPlace} (ht : P.underlying t = some (.slice e)) (he : P.underlying e = some (.slice q)) (hq : P.underlying q = some (.int k)) (ce : P.cellsOf e = 1) (cq : P.cellsOf q = 1)
    {a : Option Addr} {len cap : Nat} (h : DataW.Trod enc P W base (fun _ => true) held t (.slice a len cap) d p) :
    ∃ rows : List (List Int), len = rows.length ∧ rows.length ≤ cap ∧ Kd.C (Kd.slice q (Kd.int k)) W a rows.length rows ∧ ∀ x ∈ rows, ∀ n ∈ x, (Lit.int k n).wf = true := by
  obtain ⟨fuel, hf⟩ := h
  rcases open_int_rows ht he hq ce cq hf with ⟨hcs, _⟩ | ⟨x, l, c, A, L, C, Z, hcs, _, hl, hm, _, hr⟩
  · simp [Value.cells] at hcs
    obtain ⟨rfl, rfl, rfl⟩ := hcs
    exact ⟨[], rfl, Nat.le_refl _, Kd.C_nil _ _, by simp⟩
  · simp [Value.cells] at hcs
    obtain ⟨rfl, rfl, rfl⟩ := hcs
    have hlen : ((List.range len).map fun r => (Z r).take (L r)).length = len := by simp
    refine ⟨(List.range len).map fun r => (Z r).take (L r), hlen.symm, by rw [hlen]; exact hl, ?_, ?_⟩
    · unfold maxLen at hm
      refine ⟨rfl, by rw [hlen]; omega, fun _ => ⟨x, rfl, fun j p hj => ?_⟩⟩
      obtain ⟨hjl, hp⟩ := List.getElem?_eq_some_iff.1 hj
      have hjlen : j < len := by rw [hlen] at hjl; exact hjl
      have hp' : (Z j).take (L j) = p := by rw [← hp]; simp
      subst hp'
      obtain ⟨h1, h2, h3, h4, h5, h6, h7⟩ := hr j (by omega)
      have hlL : ((Z j).take (L j)).length = L j := by rw [List.length_take]; omega
      refine ⟨[.slice (A j) (L j) (C j)], rfl, ⟨A j, C j, by rw [hlL], by rw [hlL]; exact h2, ?_⟩, fun i u hu => ?_⟩
      · refine ⟨rfl, by rw [hlL]; unfold maxLen at h3; omega, fun hp => ?_⟩
        rw [hlL] at hp
        cases hA : A j with
        | none => have := h6 hA; omega
        | some a' =>
          obtain ⟨_, h8⟩ := h7 a' hA
          refine ⟨a', rfl, fun i y hy => ⟨[.int k y], rfl, rfl, fun m u hu => ?_⟩⟩
          obtain ⟨rfl, rfl⟩ : m = 0 ∧ Value.int k y = u := by
            rcases m with _ | m
            · simpa using hu
            · simp at hu
          rw [List.getElem?_take] at hy
          split at hy
          · rename_i hi
            have h9 := h8 i (by omega)
            rw [List.getD_eq_getElem?_getD, hy] at h9
            simpa [Kd.int, Kd.scalar] using h9
          · cases hy
      · obtain ⟨rfl, rfl⟩ : i = 0 ∧ Value.slice (A j) (L j) (C j) = u := by
          rcases i with _ | i
          · simpa using hu
          · simp at hu
        simpa [Kd.slice] using h1
    · intro y hy n hn
      obtain ⟨j, hj, rfl⟩ := List.mem_map.1 hy
      have hjlen : j < len := List.mem_range.1 hj
      exact (hr j (by omega)).2.2.2.2.1 n (List.mem_of_mem_take hn)
end Go.Proofs.Ytcnapbpljghfoaa.Hand
