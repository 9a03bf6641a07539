/- Texts of this seat, one behind the other: what concordance's PackedShorts reaches. -/
import Derived.Test.YtolncaccemfbdaaZPackedShorts0
import Derived.RangeFuncBox
import Derived.RangeFuncLeaves
import Derived.RangeFuncNested
import Derived.Shelf.Abstract
import Derived.OwnWalkIn
import Derived.TacticsInMore
import Derived.LoopNIn
import Derived.LoopIn
import Derived.Maps.AppendAt
import Derived.Outline
import Derived.Laws.ResultCell
import Derived.Deep.QuietTactic
import Derived.BigQuiet
/- Packed numbers of the type uint16 as bytes: what Bytes tells. -/
namespace Go.Proofs.Ytolncaccemfbdaa.V16
open Go.RowKit Go.Proofs.YtolncaccemfbdaaW.PrintWords Go.Proofs.YtolncaccemfbdaaW.PrintLast Go.Proofs.YtolncaccemfbdaaW.PrintMore
open Go.Proofs.Ytolncaccemfbdaa.Plain Go.Proofs.Ytolncaccemfbdaa.PPk Go.Proofs.Ytolncaccemfbdaa.Hand
attribute [local go_sem] max2_int min2_int max_two min_two
set_option linter.unusedVariables false
set_option linter.unusedSimpArgs false
def by.T1 : Bool × List (List Nat × List Nat) := (true, [([], []), ([0], [0]), ([1], [1]), ([2], [2]), ([3], [3]), ([4], [4]), ([5], [5]), ([], []), ([7], [7]), ([8], [8]), ([9], [9]), ([10], [10]), ([11], [11]), ([6, 12, 6], [6, 12]), ([13, 13, 0, 1, 2, 3, 4, 5, 6, 7, 8, 9, 10, 11, 12, 13], [13])])
def by.B1 : List Nat := [0, 1, 3, 7, 15, 31, 63, 0, 128, 384, 896, 1920, 3968, 8191, 16383]
theorem by.tab1 : rtab .any (opsOf Try.f19 1) = by.T1 := by kernel_rfl
theorem by.bits1 : waitsOk by.T1.2 by.B1 = true := by kernel_rfl
def by.T2 : Bool × List (List Nat × List Nat) := (true, [([], []), ([0], [0]), ([1], [1]), ([2], [2]), ([3], [3]), ([], []), ([5], [5]), ([6], [6]), ([7], [7]), ([4, 8], [4, 8]), ([9], [9]), ([10], [10]), ([11], [11]), ([12, 12], [12]), ([13, 0, 1, 2, 3, 4, 5, 6, 7, 8, 9, 10, 11, 12, 13], [13])])
def by.B2 : List Nat := [0, 1, 3, 7, 15, 0, 32, 96, 224, 511, 1023, 2047, 4095, 8191, 16383]
theorem by.tab2 : rtab .any (opsOf Try.f19 2) = by.T2 := by kernel_rfl
theorem by.bits2 : waitsOk by.T2.2 by.B2 = true := by kernel_rfl
def by.T10 : Bool × List (List Nat × List Nat) := (true, [([], []), ([], []), ([1], [1]), ([0, 2], [0, 2]), ([3], [3]), ([], []), ([5], [5]), ([], []), ([6, 7], [6, 7]), ([8], [8]), ([9], [9]), ([], []), ([11], [11]), ([10, 12], [10, 12]), ([4, 13], [4, 13]), ([0, 2, 0, 1, 2, 3, 4, 5, 6, 7, 8, 9, 10, 11, 12, 13, 14], [0, 2]), ([15, 14, 0, 1, 2, 3, 4, 5, 6, 7, 8, 9, 10, 11, 12, 13, 14], [14, 15])])
def by.B10 : List Nat := [0, 0, 2, 7, 15, 0, 32, 0, 224, 480, 992, 0, 2048, 8160, 16383, 32767, 65535]
theorem by.tab10 : rtab .any (opsOf Try.f19 10) = by.T10 := by kernel_rfl
theorem by.bits10 : waitsOk by.T10.2 by.B10 = true := by kernel_rfl
set_option maxHeartbeats 8000000 in
set_option maxRecDepth 100000 in
theorem bytes_calls (g q : Nat) (l : List Int) (w : World) (h : VecAt .u16 86 w g (q : Int) l) (hq : q ≤ 64) (hn : l.length ≤ 100000) (hb : ∀ x ∈ l, 0 ≤ x ∧ x < 65536) :
    Calls Try.prog 19 #[.pointer (some ⟨g, 0, none⟩)] w fun e w' => ∃ v0_ : Value, e = .returned v0_ ∧ Kd.R (Kd.int .u8) 5 w' w.heap.size (fun _ => True) v0_ (vbytes q l) ∧ Below w.heap.size w w' := by
  obtain ⟨A, c, hblk, hle, hC⟩ := h
  have hx0 := blk_cell hblk 0
  have hx1 := blk_cell hblk 1
  have hx0' : w.cell? ⟨g, 0, none⟩ = some (.int .i64 (q : Int)) := hx0
  have hx1' : w.cell? ⟨g, 1, none⟩ = some (.slice A l.length c) := hx1
  have HX0 := Aside0.mk hx0'
  have HX1 := Aside0.mk hx1'
  have HC := Aside0.mk hC
  have HN := Aside0.mk hn
  have HQ := Aside0.mk hq
  have HBB := Aside0.mk hb
  have hen := encN_len64 (n := l.length) (by omega)
  have hep := encN_pos l.length
  have hput : putF [] (l.length : Int) = some (encN l.length) := by
    unfold putF
    rw [if_pos ⟨by simp, by omega, by omega⟩, List.nil_append, Int.toNat_natCast]
  have HPUT := Aside0.mk hput
  have hu1 : IntKind.u64.wrap (l.length : Int) = (l.length : Int) := by rw [wrap_u64]; omega
  have hu2 : IntKind.u8.wrap (q : Int) = (q : Int) := by rw [Go.IntKind.wrap_u8]; omega
  have hu3 : (q : Int) % 256 = (q : Int) := by omega
  have hu4 : (l.length : Int) % 18446744073709551616 = (l.length : Int) := by omega
  obtain ⟨H, eH⟩ : ∃ H, encN l.length = H := ⟨_, rfl⟩
  rw [eH] at hen hep HPUT
  have HHE := Aside0.mk eH
  have HHL := Aside0.mk (And.intro hen hep)
  obtain ⟨H2, eH2⟩ : ∃ H2, H ++ [(q : Int)] = H2 := ⟨_, rfl⟩
  have HH2 := Aside0.mk eH2
  have HH2L := Aside0.mk (show H2.length ≤ 11 by rw [← eH2, List.length_append]; simp only [List.length_singleton]; omega)
  clear eH2
  clear hx0 hx1 hx0' hx1' hblk hC hb hn hq hen hep hput eH
  go_enter Try.func19, Try.ntmps19
  go_wp2
  refine start_ (n := 15) (S := fun w' => Below w.heap.size w w') (ds := []) #[false, false, false, false, false, false, false, false, false, false, false, false, false, false, false] (by kernel_rfl) rfl rfl (below_drew1 (Below.refl _ _)) (fun hHeld => ?_)
  refine with_tabW by.tab1 by.bits1 (fun HT_ HW_ => ?_)
  refine pure_ (i := 0) (N := some 9) (v := ?_) (a' := ?_) #[true, false, false, false, false, false, false, false, false, false, false, false, false, false, false] rfl rfl (any_of HT_.out (by kernel_rfl)) (fun _ _ _ h => h) (Or.inl ⟨by rfl, ?_⟩) ?_ ?_
  rotate_left
  · intro w'
    go_simp
    with_reducible rfl
  rotate_left
  · simp only [Act.put, List.setIfInBounds_toArray, List.set_cons_zero, List.set_cons_succ, i64_w, i32_w]
    rfl
  refine pure_ (i := 1) (N := some 10) (v := ?_) (a' := ?_) #[true, true, false, false, false, false, false, false, false, false, false, false, false, false, false] rfl rfl (any_of HT_.out (by kernel_rfl)) (fun _ _ _ h => h) (Or.inl ⟨by rfl, ?_⟩) ?_ ?_
  rotate_left
  · intro w'
    go_simp
    with_reducible rfl
  rotate_left
  · simp only [Act.put, List.setIfInBounds_toArray, List.set_cons_zero, List.set_cons_succ, i64_w, i32_w]
    rfl
  refine pure_ (i := 2) (N := some 11) (v := ?_) (a' := ?_) #[true, true, true, false, false, false, false, false, false, false, false, false, false, false, false] rfl rfl (any_of HT_.out (by kernel_rfl)) (fun _ _ _ h => h) (Or.inl ⟨by rfl, ?_⟩) ?_ ?_
  rotate_left
  · intro w'
    go_simp
    with_reducible rfl
  rotate_left
  · simp only [Act.put, List.setIfInBounds_toArray, List.set_cons_zero, List.set_cons_succ, i64_w, i32_w]
    rfl
  refine take_ (i := 3) (N := some 12) (v := ?_) (a' := ?_) #[true, true, true, true, false, false, false, false, false, false, false, false, false, false, false] rfl rfl (take_ofW HT_.out HW_.out (by kernel_rfl)) (fun _ _ _ h => h) (Or.inl ⟨by rfl, ?_⟩) hHeld ?_ ?_
  rotate_left
  · intro w' hS
    have h_ := (hS.cell (World.block_lt_of_cell? _ _ HX1.out)).trans HX1.out
    go_simp
    with_reducible rfl
  rotate_left
  · simp only [Act.put, List.setIfInBounds_toArray, List.set_cons_zero, List.set_cons_succ, i64_w, i32_w]
    rfl
  refine pure_ (i := 4) (N := some 13) (v := ?_) (a' := ?_) #[true, true, true, true, true, false, false, false, false, false, false, false, false, false, false] rfl rfl (any_of HT_.out (by kernel_rfl)) (fun _ _ _ h => h) (Or.inl ⟨by rfl, ?_⟩) ?_ ?_
  rotate_left
  · intro w'
    go_simp
    with_reducible rfl
  rotate_left
  · simp only [Act.put, List.setIfInBounds_toArray, List.set_cons_zero, List.set_cons_succ, i64_w, i32_w]
    rfl
  refine pure_ (i := 5) (N := some 14) (v := ?_) (a' := ?_) #[true, true, true, true, true, true, false, false, false, false, false, false, false, false, false] rfl rfl (any_of HT_.out (by kernel_rfl)) (fun _ _ _ h => h) (Or.inl ⟨by rfl, ?_⟩) ?_ ?_
  rotate_left
  · intro w'
    go_simp
    with_reducible rfl
  rotate_left
  · simp only [Act.put, List.setIfInBounds_toArray, List.set_cons_zero, List.set_cons_succ, i64_w, i32_w]
    rfl
  refine pure_ (i := 7) (N := some 16) (v := ?_) (a' := ?_) #[true, true, true, true, true, true, false, true, false, false, false, false, false, false, false] rfl rfl (any_of HT_.out (by kernel_rfl)) (fun _ _ _ h => h) (Or.inl ⟨by rfl, ?_⟩) ?_ ?_
  rotate_left
  · intro w'
    go_simp
    with_reducible rfl
  rotate_left
  · simp only [Act.put, List.setIfInBounds_toArray, List.set_cons_zero, List.set_cons_succ, i64_w, i32_w]
    rfl
  refine pure_ (i := 8) (N := some 17) (v := ?_) (a' := ?_) #[true, true, true, true, true, true, false, true, true, false, false, false, false, false, false] rfl rfl (any_of HT_.out (by kernel_rfl)) (fun _ _ _ h => h) (Or.inl ⟨by rfl, ?_⟩) ?_ ?_
  rotate_left
  · intro w'
    go_simp
    with_reducible rfl
  rotate_left
  · simp only [Act.put, List.setIfInBounds_toArray, List.set_cons_zero, List.set_cons_succ, i64_w, i32_w]
    rfl
  refine pure_ (i := 9) (N := some 18) (v := ?_) (a' := ?_) #[true, true, true, true, true, true, false, true, true, true, false, false, false, false, false] rfl rfl (any_of HT_.out (by kernel_rfl)) (fun _ _ _ h => h) (Or.inl ⟨by rfl, ?_⟩) ?_ ?_
  rotate_left
  · intro w'
    go_simp
    with_reducible rfl
  rotate_left
  · simp only [Act.put, List.setIfInBounds_toArray, List.set_cons_zero, List.set_cons_succ, i64_w, i32_w]
    rfl
  refine take_ (i := 10) (N := some 19) (v := ?_) (a' := ?_) #[true, true, true, true, true, true, false, true, true, true, true, false, false, false, false] rfl rfl (take_ofW HT_.out HW_.out (by kernel_rfl)) (fun _ _ _ h => h) (Or.inl ⟨by rfl, ?_⟩) hHeld ?_ ?_
  rotate_left
  · intro w' hS
    have h_ := (hS.cell (World.block_lt_of_cell? _ _ HX0.out)).trans HX0.out
    go_simp
    with_reducible rfl
  rotate_left
  · simp only [Act.put, List.setIfInBounds_toArray, List.set_cons_zero, List.set_cons_succ, i64_w, i32_w]
    rfl
  refine pure_ (i := 11) (N := some 20) (v := ?_) (a' := ?_) #[true, true, true, true, true, true, false, true, true, true, true, true, false, false, false] rfl rfl (any_of HT_.out (by kernel_rfl)) (fun _ _ _ h => h) (Or.inl ⟨by rfl, ?_⟩) ?_ ?_
  rotate_left
  · intro w'
    go_simp
    with_reducible rfl
  rotate_left
  · simp only [Act.put, List.setIfInBounds_toArray, List.set_cons_zero, List.set_cons_succ, i64_w, i32_w]
    rfl
  refine join_ (σ := Addr × Addr) 2 #[true, true, true, true, true, true, true, true, true, true, true, true, true, false, false] (fun s_ => [(15, .slice (some s_.1) H.length H.length), (21, .slice (some s_.2) 1 1)]) (fun s_ w' => (Kd.C (Kd.int .u8) w' (some s_.1) H.length H ∧ w'.cell? s_.2 = some (.int .u8 (q : Int))) ∧ Below w.heap.size w w') ?_ ?_
  rotate_left
  · intro hCont
    refine two_ (i := 6) (j := 12) (Ni := some 15) (Nj := some 21) #[true, true, true, true, true, true, true, true, true, true, true, true, false, false, false] #[true, true, true, true, true, true, false, true, true, true, true, true, true, false, false] rfl rfl rfl rfl (two_of HT_.out (by kernel_rfl)) (by decide) (by decide) (fun K hK => ?_) (fun K hK => ?_)
    · skip
      refine goes_ Try.func51 (by kernel_rfl) rfl #[.slice none 0 0, .int .u64 (l.length : Int)] (by rfl) rfl rfl (by (try simp only [List.map_toArray, List.map_cons, List.map_nil]); first | done | rfl) ?_
      refine (put_clipped none 0 [] _ _ _ (Kd.C_nil _ _) HPUT.out).mono ?_
      rintro e w1 ⟨v1, rfl, ⟨A1_, c1_, rfl, hcl_⟩, hb⟩
      obtain ⟨g1_, c2_, e1_, _, _, _, _⟩ := Kd.R_form hcl_ HHL.out.2
      injection e1_ with e1_ _ _
      subst e1_
      have hC1_ := (Kd.R_reads' hcl_).2.2
      have hc2_ := True.intro
      refine ⟨_, rfl, ?_⟩
      have hS_ := below_step hHeld hb
      (try have hd_ := (hb.cell (World.block_lt_of_cell? _ _ hd0_)).trans hd0_)
      refine hK.out _ _ hS_ (fun hHeld => ?_)
      clear hK K
      refine norm_ (a' := ?_) ?_ ?_
      rotate_left
      · show Act.put _ (some 15) _ = _
        simp only [Act.put, List.setIfInBounds_toArray, List.set_cons_zero, List.set_cons_succ, i64_w, i32_w]
        rfl
      refine one_ (i := 12) (N := some 21) #[true, true, true, true, true, true, true, true, true, true, true, true, true, false, false] rfl rfl (one_of HT_.out (by kernel_rfl)) (by decide) (fun K hK => ?_)
      refine value_ (w1 := ?_) (v := ?_) (by rfl) rfl ?_ ?_
      rotate_left 2
      · go_simp
        constructor
        · rfl
        · rfl
      have hS_ := below_alloc hHeld (.cells #[.int .u8 (q : Int)] 5)
      have hd0_ := new_cell hHeld (.int .u8 (q : Int)) 5
      (try have hC2_ := Kd.C_alloc hC1_ (.cells #[.int .u8 (q : Int)] 5))
      refine hK.out _ _ hS_ (fun hHeld => ?_)
      clear hK K
      refine norm_ (a' := ?_) ?_ ?_
      rotate_left
      · show Act.put _ (some 21) _ = _
        simp only [Act.put, List.setIfInBounds_toArray, List.set_cons_zero, List.set_cons_succ, i64_w, i32_w]
        rfl
      exact norm_ (by simp only [putAll, Act.put, List.setIfInBounds_toArray, List.set_cons_zero, List.set_cons_succ] <;> rfl) (hCont (_, _) _ ⟨⟨hC2_, hd0_⟩, hHeld⟩)
    · skip
      refine value_ (w1 := ?_) (v := ?_) (by rfl) rfl ?_ ?_
      rotate_left 2
      · go_simp
        constructor
        · rfl
        · rfl
      have hS_ := below_alloc hHeld (.cells #[.int .u8 (q : Int)] 5)
      have hd0_ := new_cell hHeld (.int .u8 (q : Int)) 5
      (try have hC2_ := Kd.C_alloc hC1_ (.cells #[.int .u8 (q : Int)] 5))
      refine hK.out _ _ hS_ (fun hHeld => ?_)
      clear hK K
      refine norm_ (a' := ?_) ?_ ?_
      rotate_left
      · show Act.put _ (some 21) _ = _
        simp only [Act.put, List.setIfInBounds_toArray, List.set_cons_zero, List.set_cons_succ, i64_w, i32_w]
        rfl
      refine one_ (i := 6) (N := some 15) #[true, true, true, true, true, true, true, true, true, true, true, true, true, false, false] rfl rfl (one_of HT_.out (by kernel_rfl)) (by decide) (fun K hK => ?_)
      refine goes_ Try.func51 (by kernel_rfl) rfl #[.slice none 0 0, .int .u64 (l.length : Int)] (by rfl) rfl rfl (by (try simp only [List.map_toArray, List.map_cons, List.map_nil]); first | done | rfl) ?_
      refine (put_clipped none 0 [] _ _ _ (Kd.C_nil _ _) HPUT.out).mono ?_
      rintro e w1 ⟨v1, rfl, ⟨A1_, c1_, rfl, hcl_⟩, hb⟩
      obtain ⟨g1_, c2_, e1_, _, _, _, _⟩ := Kd.R_form hcl_ HHL.out.2
      injection e1_ with e1_ _ _
      subst e1_
      have hC1_ := (Kd.R_reads' hcl_).2.2
      have hc2_ := True.intro
      refine ⟨_, rfl, ?_⟩
      have hS_ := below_step hHeld hb
      (try have hd_ := (hb.cell (World.block_lt_of_cell? _ _ hd0_)).trans hd0_)
      refine hK.out _ _ hS_ (fun hHeld => ?_)
      clear hK K
      refine norm_ (a' := ?_) ?_ ?_
      rotate_left
      · show Act.put _ (some 15) _ = _
        simp only [Act.put, List.setIfInBounds_toArray, List.set_cons_zero, List.set_cons_succ, i64_w, i32_w]
        rfl
      exact norm_ (by simp only [putAll, Act.put, List.setIfInBounds_toArray, List.set_cons_zero, List.set_cons_succ] <;> rfl) (hCont (_, _) _ ⟨⟨hC1_, hd_⟩, hHeld⟩)
  rintro ⟨D1, D2⟩ w2 ⟨⟨hD1, hD2⟩, hHeld⟩
  refine norm_ (a' := ?_) ?_ ?_
  rotate_left
  · simp only [putAll, Act.put, List.setIfInBounds_toArray, List.set_cons_zero, List.set_cons_succ, i64_w, i32_w]
    rfl
  refine one_ (i := 13) (N := some 22) #[true, true, true, true, true, true, true, true, true, true, true, true, true, true, false] rfl rfl (one_of HT_.out (by kernel_rfl)) (by decide) (fun K hK => ?_)
  refine append_full_ (zs := H2) HH2.out (s := .tmp 15) (x := .tmp 21) (t := 23) (by rfl) rfl rfl Try.underlying23 hinfo_u8 rfl rfl rfl hD1 hD2 (by have := HHL.out; omega) ?_
  intro A3 c3 w3 hle3 ho3 hb3
  have hS_ := below_step hHeld hb3
  refine hK.out _ _ hS_ (fun hHeld => ?_)
  clear hK K
  refine norm_ (a' := ?_) ?_ ?_
  rotate_left
  · show Act.put _ (some 22) _ = _
    simp only [Act.put, List.setIfInBounds_toArray, List.set_cons_zero, List.set_cons_succ, i64_w, i32_w]
    rfl
  refine pure_ (i := 14) (N := some 3) (v := ?_) (a' := ?_) #[true, true, true, true, true, true, true, true, true, true, true, true, true, true, true] rfl rfl (any_of HT_.out (by kernel_rfl)) (fun _ _ _ h => h) (Or.inl ⟨by rfl, ?_⟩) ?_ ?_
  rotate_left
  · intro w'
    go_simp
    with_reducible rfl
  rotate_left
  · simp only [Act.put, List.setIfInBounds_toArray, List.set_cons_zero, List.set_cons_succ, i64_w, i32_w]
    rfl
  refine done_ (done_of HT_.out (by kernel_rfl)) ?_
  have HHR := Aside0.mk (And.intro hle3 (Kd.R_reads' ho3).2.2)
  have HB := Aside0.mk hHeld
  clear hle3 ho3 hb3 hHeld hD1 hD2 hu1 hu2 hu3 hu4
  have hs1 := size_nums HN.out HQ.out
  have hsz := size_le HN.out HQ.out
  obtain ⟨NW, eNW⟩ : ∃ NW, l.length * q = NW := ⟨_, rfl⟩
  obtain ⟨sz, esz⟩ : ∃ sz, sizeN l.length q = sz := ⟨_, rfl⟩
  rw [eNW, esz] at hs1
  rw [esz] at hsz
  obtain ⟨m1, m2, m3, m4, m5⟩ := hs1
  have HSZ := Aside0.mk hsz
  have HNW := Aside0.mk eNW
  have HESZ := Aside0.mk esz
  have m6 : ¬ (sz : Int) < 0 := Int.not_lt.2 (Int.natCast_nonneg _)
  clear hsz eNW esz
  go_wp2
  refine start_ (n := 15) (S := fun w' => Below w3.heap.size w3 w') (ds := []) #[false, false, false, false, false, false, false, false, false, false, false, false, false, false, false] (by kernel_rfl) rfl rfl (below_drew1 (Below.refl _ _)) (fun hHeld => ?_)
  refine with_tabW by.tab2 by.bits2 (fun HT_ HW_ => ?_)
  refine pure_ (i := 0) (N := some 23) (v := ?_) (a' := ?_) #[true, false, false, false, false, false, false, false, false, false, false, false, false, false, false] rfl rfl (any_of HT_.out (by kernel_rfl)) (fun _ _ _ h => h) (Or.inl ⟨by rfl, ?_⟩) ?_ ?_
  rotate_left
  · intro w'
    go_simp
    with_reducible rfl
  rotate_left
  · simp only [Act.put, List.setIfInBounds_toArray, List.set_cons_zero, List.set_cons_succ, i64_w, i32_w]
    rfl
  refine pure_ (i := 1) (N := some 24) (v := ?_) (a' := ?_) #[true, true, false, false, false, false, false, false, false, false, false, false, false, false, false] rfl rfl (any_of HT_.out (by kernel_rfl)) (fun _ _ _ h => h) (Or.inl ⟨by rfl, ?_⟩) ?_ ?_
  rotate_left
  · intro w'
    go_simp
    with_reducible rfl
  rotate_left
  · simp only [Act.put, List.setIfInBounds_toArray, List.set_cons_zero, List.set_cons_succ, i64_w, i32_w]
    rfl
  refine pure_ (i := 2) (N := some 25) (v := ?_) (a' := ?_) #[true, true, true, false, false, false, false, false, false, false, false, false, false, false, false] rfl rfl (any_of HT_.out (by kernel_rfl)) (fun _ _ _ h => h) (Or.inl ⟨by rfl, ?_⟩) ?_ ?_
  rotate_left
  · intro w'
    go_simp
    with_reducible rfl
  rotate_left
  · simp only [Act.put, List.setIfInBounds_toArray, List.set_cons_zero, List.set_cons_succ, i64_w, i32_w]
    rfl
  refine take_ (i := 3) (N := some 26) (v := ?_) (a' := ?_) #[true, true, true, true, false, false, false, false, false, false, false, false, false, false, false] rfl rfl (take_ofW HT_.out HW_.out (by kernel_rfl)) (fun _ _ _ h => h) (Or.inl ⟨by rfl, ?_⟩) hHeld ?_ ?_
  rotate_left
  · intro w' hS
    have h_ := ((below_step HB.out hS).cell (World.block_lt_of_cell? _ _ HX1.out)).trans HX1.out
    go_simp
    with_reducible rfl
  rotate_left
  · simp only [Act.put, List.setIfInBounds_toArray, List.set_cons_zero, List.set_cons_succ, i64_w, i32_w]
    rfl
  refine pure_ (i := 4) (N := some 27) (v := ?_) (a' := ?_) #[true, true, true, true, true, false, false, false, false, false, false, false, false, false, false] rfl rfl (any_of HT_.out (by kernel_rfl)) (fun _ _ _ h => h) (Or.inl ⟨by rfl, ?_⟩) ?_ ?_
  rotate_left
  · intro w'
    go_simp
    with_reducible rfl
  rotate_left
  · simp only [Act.put, List.setIfInBounds_toArray, List.set_cons_zero, List.set_cons_succ, i64_w, i32_w]
    rfl
  refine pure_ (i := 5) (N := some 28) (v := ?_) (a' := ?_) #[true, true, true, true, true, true, false, false, false, false, false, false, false, false, false] rfl rfl (any_of HT_.out (by kernel_rfl)) (fun _ _ _ h => h) (Or.inl ⟨by rfl, ?_⟩) ?_ ?_
  rotate_left
  · intro w'
    go_simp
    with_reducible rfl
  rotate_left
  · simp only [Act.put, List.setIfInBounds_toArray, List.set_cons_zero, List.set_cons_succ, i64_w, i32_w]
    rfl
  refine pure_ (i := 6) (N := some 29) (v := ?_) (a' := ?_) #[true, true, true, true, true, true, true, false, false, false, false, false, false, false, false] rfl rfl (any_of HT_.out (by kernel_rfl)) (fun _ _ _ h => h) (Or.inl ⟨by rfl, ?_⟩) ?_ ?_
  rotate_left
  · intro w'
    go_simp
    with_reducible rfl
  rotate_left
  · simp only [Act.put, List.setIfInBounds_toArray, List.set_cons_zero, List.set_cons_succ, i64_w, i32_w]
    rfl
  refine pure_ (i := 7) (N := some 30) (v := ?_) (a' := ?_) #[true, true, true, true, true, true, true, true, false, false, false, false, false, false, false] rfl rfl (any_of HT_.out (by kernel_rfl)) (fun _ _ _ h => h) (Or.inl ⟨by rfl, ?_⟩) ?_ ?_
  rotate_left
  · intro w'
    go_simp
    with_reducible rfl
  rotate_left
  · simp only [Act.put, List.setIfInBounds_toArray, List.set_cons_zero, List.set_cons_succ, i64_w, i32_w]
    rfl
  refine take_ (i := 8) (N := some 31) (v := ?_) (a' := ?_) #[true, true, true, true, true, true, true, true, true, false, false, false, false, false, false] rfl rfl (take_ofW HT_.out HW_.out (by kernel_rfl)) (fun _ _ _ h => h) (Or.inl ⟨by rfl, ?_⟩) hHeld ?_ ?_
  rotate_left
  · intro w' hS
    have h_ := ((below_step HB.out hS).cell (World.block_lt_of_cell? _ _ HX0.out)).trans HX0.out
    go_simp
    with_reducible rfl
  rotate_left
  · simp only [Act.put, List.setIfInBounds_toArray, List.set_cons_zero, List.set_cons_succ, i64_w, i32_w]
    rfl
  refine pure_ (i := 9) (N := some 32) (v := ?_) (a' := ?_) #[true, true, true, true, true, true, true, true, true, true, false, false, false, false, false] rfl rfl (any_of HT_.out (by kernel_rfl)) (fun _ _ _ h => h) (Or.inl ⟨by rfl, ?_⟩) ?_ ?_
  rotate_left
  · intro w'
    go_simp
    with_reducible rfl
  rotate_left
  · simp only [Act.put, List.setIfInBounds_toArray, List.set_cons_zero, List.set_cons_succ, i64_w, i32_w]
    rfl
  refine pure_ (i := 10) (N := some 33) (v := ?_) (a' := ?_) #[true, true, true, true, true, true, true, true, true, true, true, false, false, false, false] rfl rfl (any_of HT_.out (by kernel_rfl)) (fun _ _ _ h => h) (Or.inl ⟨by rfl, ?_⟩) ?_ ?_
  rotate_left
  · intro w'
    go_simp
    with_reducible rfl
  rotate_left
  · simp only [Act.put, List.setIfInBounds_toArray, List.set_cons_zero, List.set_cons_succ, i64_w, i32_w]
    rfl
  refine pure_ (i := 11) (N := some 34) (v := ?_) (a' := ?_) #[true, true, true, true, true, true, true, true, true, true, true, true, false, false, false] rfl rfl (any_of HT_.out (by kernel_rfl)) (fun _ _ _ h => h) (Or.inl ⟨by rfl, ?_⟩) ?_ ?_
  rotate_left
  · intro w'
    go_simp
    with_reducible rfl
  rotate_left
  · simp only [Act.put, List.setIfInBounds_toArray, List.set_cons_zero, List.set_cons_succ, i64_w, i32_w]
    rfl
  refine pure_ (i := 12) (N := some 35) (v := ?_) (a' := ?_) #[true, true, true, true, true, true, true, true, true, true, true, true, true, false, false] rfl rfl (any_of HT_.out (by kernel_rfl)) (fun _ _ _ h => h) (Or.inl ⟨by rfl, ?_⟩) ?_ ?_
  rotate_left
  · intro w'
    go_simp
    with_reducible rfl
  rotate_left
  · simp only [Act.put, List.setIfInBounds_toArray, List.set_cons_zero, List.set_cons_succ, i64_w, i32_w]
    rfl
  refine one_ (i := 13) (N := some 36) #[true, true, true, true, true, true, true, true, true, true, true, true, true, true, false] rfl rfl (one_of HT_.out (by kernel_rfl)) (by decide) (fun K hK => ?_)
  refine Kd.R_make_step (Kd.int .u8) (w0 := w3) w3.heap.size 5 (by rfl) (N := 36) rfl 23 _ _ rfl (sz : Int) ?hx1 ?hx2 Try.underlying23 (.int .u8 0) 1 hinfo_u8 rfl (by decide) (by decide) (0 : Int) (ok := fun _ => True) (okp := fun _ => True) ?hz0 (fun _ h => h) trivial (by omega) (by have := HSZ.out; omega) hHeld hHeld.size ?_
  case hx1 => first | rfl | (go_simp; done) | (go_simp; rfl)
  case hx2 => first | rfl | (go_simp; done) | (go_simp; rfl)
  case hz0 => rfl
  intro v4 w4 ho4 hb4 hg4 hat4
  have hS_ := hb4
  refine hK.out _ _ hS_ (fun hHeld => ?_)
  clear hK K
  refine norm_ (a' := ?_) ?_ ?_
  rotate_left
  · show Act.put _ (some 36) _ = _
    simp only [Act.put, List.setIfInBounds_toArray, List.set_cons_zero, List.set_cons_succ, i64_w, i32_w]
    rfl
  refine pure_ (i := 14) (N := some 4) (v := ?_) (a' := ?_) #[true, true, true, true, true, true, true, true, true, true, true, true, true, true, true] rfl rfl (any_of HT_.out (by kernel_rfl)) (fun _ _ _ h => h) (Or.inl ⟨by rfl, ?_⟩) ?_ ?_
  rotate_left
  · intro w'
    go_simp
    with_reducible rfl
  rotate_left
  · simp only [Act.put, List.setIfInBounds_toArray, List.set_cons_zero, List.set_cons_succ, i64_w, i32_w]
    rfl
  refine done_ (done_of HT_.out (by kernel_rfl)) ?_
  clear m1 m2 m3 m4 m5 m6
  rw [Int.toNat_natCast, ← leB_zero] at ho4
  obtain ⟨Ab, cb, rfl⟩ := Kd.R_slice ho4
  rw [leB_length]
  rw [leB_length] at ho4
  have HV := Aside0.mk ho4
  have HB4 := Aside0.mk hHeld
  clear ho4 hb4 hg4 hat4 hHeld
  have hx1c := ((below_step HB.out HB4.out).cell (World.block_lt_of_cell? _ _ HX1.out)).trans HX1.out
  go_wp2
  clear hx1c
  go_loopg [5, 7, 8, 42] l.length (fun kq v5 v7 v8 v42 w' => ∃ i : Nat, v42 = .int .i64 (i : Int) ∧ v5 = .int .i64 ((i * q : Nat) : Int) ∧ Aside0 (i ≤ l.length ∧ l.length - i ≤ kq) ∧ Aside0 (Kd.R (Kd.int .u8) 5 w' w3.heap.size (fun _ => True) (.slice Ab sz cb) (leB (packN q (l.take i)) sz)) ∧ Aside0 (Below w3.heap.size w3 w'))
  case atStart => exact ⟨0, rfl, by rw [Nat.zero_mul]; rfl, ⟨by omega, by omega⟩, ⟨HV.out⟩, ⟨HB4.out⟩⟩
  case round =>
    clear HV HB4
    obtain ⟨i, rfl, rfl, HI, HV, HB4⟩ := hrel
    have hx1c := ((below_step HB.out HB4.out).cell (World.block_lt_of_cell? _ _ HX1.out)).trans HX1.out
    have hx0c := ((below_step HB.out HB4.out).cell (World.block_lt_of_cell? _ _ HX0.out)).trans HX0.out
    by_cases k1 : i < l.length
    · have d1 : decide ((i : Int) < (l.length : Int)) = true := decide_eq_true (by omega)
      obtain ⟨ad, rfl, hcell⟩ := Kd.at_int HC.out (i : Int) (by omega) (by omega)
      rw [Int.toNat_natCast] at hcell
      have hcellr := ((below_step HB.out HB4.out).cell (World.block_lt_of_cell? _ _ hcell)).trans hcell
      have hxb := HBB.out _ (List.getElem_mem k1)
      have hrd := rd_at l i k1
      rw [hrd] at hcellr
      have hgd : l.getD i 0 = l[i] := by rw [List.getD_eq_getElem?_getD, List.getElem?_eq_getElem k1, Option.getD_some]
      obtain ⟨x, hx⟩ := Int.eq_ofNat_of_zero_le hxb.1
      rw [hx] at hcellr hxb hgd
      have HXN := Aside0.mk (show x < 65536 by omega)
      have HGD := Aside0.mk hgd
      have HK1 := Aside0.mk k1
      have HI2 := Aside0.mk (show i ≤ 100000 by have := HN.out; omega)
      clear hcell hrd hxb hgd hx
      go_wp2
      obtain ⟨wo, hwo⟩ : ∃ wo, wo = wr := ⟨_, rfl⟩
      rw [← hwo]
      go_loopg [5, 8, 50] 65 (fun kq v5 v8 v50 w' => ∃ k : Nat, v50 = .int .i64 (k : Int) ∧ v5 = .int .i64 ((i * q + k : Nat) : Int) ∧ Aside0 (k ≤ q ∧ q - k ≤ kq) ∧ Aside0 (Kd.R (Kd.int .u8) 5 w' w3.heap.size (fun _ => True) (.slice Ab sz cb) (leB (partN q l i k) sz)) ∧ Aside0 (Below w3.heap.size w3 w'))
      case atStart => exact ⟨0, rfl, rfl, ⟨by omega, by have := HQ.out; omega⟩, ⟨by rw [partN_zero, hwo]; exact HV.out⟩, ⟨by rw [hwo]; exact HB4.out⟩⟩
      case round =>
        obtain ⟨k, rfl, rfl, HK, HV2, HB5⟩ := hrel
        by_cases k2 : k < q
        · have d2 : decide ((k : Int) < (q : Int)) = true := decide_eq_true (by omega)
          have hps := place_size HK1.out k2
          rw [HESZ.out] at hps
          have hq64 := HQ.out
          obtain ⟨gb, cb2, eb, hb1, hb2, hb3, hb4⟩ := Kd.R_form HV2.out (by rw [leB_length]; omega)
          rw [leB_length] at eb
          injection eb with eb1 eb2 eb3
          subst eb1
          clear eb2 eb3 hb1 hb2 hb3 hb4
          obtain ⟨p, hp⟩ : ∃ p : Int, p = ((i * q + k : Nat) : Int) := ⟨_, rfl⟩
          rw [← hp]
          have hp0 : 0 ≤ p := by omega
          have hpm : p < 6400008 := by have := HSZ.out; omega
          have hp8 : p < 8 * (sz : Int) := by omega
          obtain ⟨j, hj⟩ : ∃ j, Int.tdiv p 8 = j := ⟨_, rfl⟩
          obtain ⟨m, hm⟩ : ∃ m, Int.tmod p 8 = m := ⟨_, rfl⟩
          have hj0 : 0 ≤ j ∧ j < (sz : Int) ∧ 0 ≤ m ∧ m < 8 := by
            rw [← hj, ← hm, Int.tdiv_eq_ediv_of_nonneg hp0, Int.tmod_eq_emod_of_nonneg hp0]
            omega
          obtain ⟨q5, q6, q7, q8⟩ := hj0
          have hsh0 : (x : Int) / 2 ^ k = ((x / 2 ^ k : Nat) : Int) := by rw [Int.natCast_ediv, Int.natCast_pow]; rfl
          have hxl : x / 2 ^ k < 18446744073709551616 := Nat.lt_of_le_of_lt (Nat.div_le_self _ _) (by have := HXN.out; omega)
          obtain ⟨bt, hbt⟩ : ∃ bt : Nat, x / 2 ^ k % 2 = bt := ⟨_, rfl⟩
          obtain ⟨xs, hxs⟩ : ∃ xs : Nat, x / 2 ^ k = xs := ⟨_, rfl⟩
          rw [hxs] at hsh0 hxl
          have hb2 : bt < 2 := by rw [← hbt]; exact Nat.mod_lt _ (by decide)
          have hbit : Go.bits .and .u64 (xs : Int) 1 = (bt : Int) := by
            rw [← hbt, hxs]
            exact bit_u64 _ hxl
          obtain ⟨s8, hs8⟩ : ∃ s8 : Int, shl .u8 (bt : Int) m = s8 := ⟨_, rfl⟩
          have hset := pack_set HK1.out k2 hp hj hm (s8 := s8) (by rw [HGD.out, Int.toNat_natCast, hbt]; exact hs8)
          rw [HESZ.out] at hset
          obtain ⟨LB, eLB⟩ : ∃ LB, leB (partN q l i k) sz = LB := ⟨_, rfl⟩
          rw [eLB] at HV2 hset
          have hLBl : LB.length = sz := by rw [← eLB, leB_length]
          have HSET := Aside0.mk hset
          have HKK := Aside0.mk (And.intro k2 hq64)
          have HPP := Aside0.mk hp
          have hs8_ : (IntKind.u8.wrap ((bt : Int) * 2 ^ min m.toNat 8)) = s8 := hs8
          have hs8z : m ≤ 8 → (IntKind.u8.wrap ((bt : Int) * 2 ^ m.toNat)) = s8 := shl_small hs8
          have hsh2 : (x : Int) / 2 ^ min k 64 = (xs : Int) := by rw [Nat.min_eq_left (by omega)]; exact hsh0
          have hxw : IntKind.u64.wrap (x : Int) = (x : Int) := by rw [wrap_u64]; have := HXN.out; omega
          have hbw : IntKind.u8.wrap (bt : Int) = (bt : Int) := by rw [Go.IntKind.wrap_u8]; omega
          have hbw2 : (bt : Int) % 256 = (bt : Int) := by omega
          have j7' := eq_true q7
          have j7d : decide (0 ≤ m) = true := decide_eq_true q7
          have cj0 := eq_true q5
          have cj0d : decide (0 ≤ j) = true := decide_eq_true q5
          have cj1d : decide (j < (sz : Int)) = true := decide_eq_true q6
          have hjw : wrap64 j = j := w64 (by omega) (by have := HSZ.out; omega)
          have HJ := Aside0.mk (And.intro q5 q6)
          clear hset eLB hps hbt hxs hxl hp8 hp q5 q6 q7 q8
          go_wp2
          have HV1 := Aside0.mk (Kd.R_drew HV2.out)
          have HB1 := Aside0.mk (below_drew1 HB5.out)
          clear HV2 HB5
          have q5 : 0 ≤ j := HJ.out.1
          have q6 : j < (sz : Int) := HJ.out.2
          have GG := Aside0.mk (And.intro (Kd.R_base HV1.out gb rfl) (Kd.R_typed HV1.out gb rfl))
          obtain ⟨hx1_, hf1_⟩ := Kd.R_celln 0 HV1.out j q5 q6
          have q5' := eq_true q5
          have q6' := eq_true q6
          have HP2 := Aside0.mk (Kd.R_putn HV1.out j (Go.bits .or .u8 (rd LB j) s8))
          refine start_ (n := 17) (S := fun w' => w'.cell? ⟨gb, j.toNat, none⟩ = some (.int .u8 (rd LB j))) (ds := [16]) #[false, false, false, false, false, false, false, false, false, false, false, false, false, false, false, false, false] (by kernel_rfl) rfl rfl hx1_ (fun hHeld => ?_)
          refine with_tabW by.tab10 by.bits10 (fun HT_ HW_ => ?_)
          generalize wr.drew = w26 at HV1 HB1 GG HP2 hf1_ hx1_ hHeld ⊢
          refine pure_ (i := 0) (N := some 53) (v := ?_) (a' := ?_) #[true, false, false, false, false, false, false, false, false, false, false, false, false, false, false, false, false] rfl rfl (any_of HT_.out (by kernel_rfl)) (fun _ _ _ h => h) (Or.inl ⟨by rfl, ?_⟩) ?_ ?_
          rotate_left
          · intro w'
            go_simp
            with_reducible rfl
          rotate_left
          · simp only [Act.put, List.setIfInBounds_toArray, List.set_cons_zero, List.set_cons_succ, i64_w, i32_w]
            rfl
          refine pure_ (i := 1) (N := some 54) (v := ?_) (a' := ?_) #[true, true, false, false, false, false, false, false, false, false, false, false, false, false, false, false, false] rfl rfl (any_of HT_.out (by kernel_rfl)) (fun _ _ _ h => h) (Or.inl ⟨by rfl, ?_⟩) ?_ ?_
          rotate_left
          · intro w'
            go_simp
            with_reducible rfl
          rotate_left
          · simp only [Act.put, List.setIfInBounds_toArray, List.set_cons_zero, List.set_cons_succ, i64_w, i32_w]
            rfl
          refine pure_ (i := 2) (N := some 55) (v := ?_) (a' := ?_) #[true, true, true, false, false, false, false, false, false, false, false, false, false, false, false, false, false] rfl rfl (any_of HT_.out (by kernel_rfl)) (fun _ _ _ h => h) (Or.inl ⟨by rfl, ?_⟩) ?_ ?_
          rotate_left
          · intro w'
            go_simp
            with_reducible rfl
          rotate_left
          · simp only [Act.put, List.setIfInBounds_toArray, List.set_cons_zero, List.set_cons_succ, i64_w, i32_w]
            rfl
          refine pure_ (i := 3) (N := some 56) (v := ?_) (a' := ?_) #[true, true, true, true, false, false, false, false, false, false, false, false, false, false, false, false, false] rfl rfl (any_of HT_.out (by kernel_rfl)) (fun _ _ _ h => h) (Or.inl ⟨by rfl, ?_⟩) ?_ ?_
          rotate_left
          · intro w'
            go_simp
            with_reducible rfl
          rotate_left
          · simp only [Act.put, List.setIfInBounds_toArray, List.set_cons_zero, List.set_cons_succ, i64_w, i32_w]
            rfl
          refine take_ (i := 4) (N := some 57) (v := ?_) (a' := ?_) #[true, true, true, true, true, false, false, false, false, false, false, false, false, false, false, false, false] rfl rfl (take_ofW HT_.out HW_.out (by kernel_rfl)) (fun _ _ _ h => h) (Or.inl ⟨by rfl, ?_⟩) hHeld ?_ ?_
          rotate_left
          · intro w' s0
            go_simp
            with_reducible rfl
          rotate_left
          · simp only [Act.put, List.setIfInBounds_toArray, List.set_cons_zero, List.set_cons_succ, i64_w, i32_w]
            rfl
          refine pure_ (i := 5) (N := some 58) (v := ?_) (a' := ?_) #[true, true, true, true, true, true, false, false, false, false, false, false, false, false, false, false, false] rfl rfl (any_of HT_.out (by kernel_rfl)) (fun _ _ _ h => h) (Or.inl ⟨by rfl, ?_⟩) ?_ ?_
          rotate_left
          · intro w'
            go_simp
            with_reducible rfl
          rotate_left
          · simp only [Act.put, List.setIfInBounds_toArray, List.set_cons_zero, List.set_cons_succ, i64_w, i32_w]
            rfl
          refine pure_ (i := 6) (N := some 59) (v := ?_) (a' := ?_) #[true, true, true, true, true, true, true, false, false, false, false, false, false, false, false, false, false] rfl rfl (any_of HT_.out (by kernel_rfl)) (fun _ _ _ h => h) (Or.inl ⟨by rfl, ?_⟩) ?_ ?_
          rotate_left
          · intro w'
            go_simp
            with_reducible rfl
          rotate_left
          · simp only [Act.put, List.setIfInBounds_toArray, List.set_cons_zero, List.set_cons_succ, i64_w, i32_w]
            rfl
          refine pure_ (i := 7) (N := some 60) (v := ?_) (a' := ?_) #[true, true, true, true, true, true, true, true, false, false, false, false, false, false, false, false, false] rfl rfl (any_of HT_.out (by kernel_rfl)) (fun _ _ _ h => h) (Or.inl ⟨by rfl, ?_⟩) ?_ ?_
          rotate_left
          · intro w'
            go_simp
            with_reducible rfl
          rotate_left
          · simp only [Act.put, List.setIfInBounds_toArray, List.set_cons_zero, List.set_cons_succ, i64_w, i32_w]
            rfl
          refine pure_ (i := 8) (N := some 61) (v := ?_) (a' := ?_) #[true, true, true, true, true, true, true, true, true, false, false, false, false, false, false, false, false] rfl rfl (any_of HT_.out (by kernel_rfl)) (fun _ _ _ h => h) (Or.inl ⟨by rfl, ?_⟩) ?_ ?_
          rotate_left
          · intro w'
            go_simp
            with_reducible rfl
          rotate_left
          · simp only [Act.put, List.setIfInBounds_toArray, List.set_cons_zero, List.set_cons_succ, i64_w, i32_w]
            rfl
          refine pure_ (i := 9) (N := some 62) (v := ?_) (a' := ?_) #[true, true, true, true, true, true, true, true, true, true, false, false, false, false, false, false, false] rfl rfl (any_of HT_.out (by kernel_rfl)) (fun _ _ _ h => h) (Or.inl ⟨by rfl, ?_⟩) ?_ ?_
          rotate_left
          · intro w'
            go_simp
            with_reducible rfl
          rotate_left
          · simp only [Act.put, List.setIfInBounds_toArray, List.set_cons_zero, List.set_cons_succ, i64_w, i32_w]
            rfl
          refine pure_ (i := 10) (N := some 63) (v := ?_) (a' := ?_) #[true, true, true, true, true, true, true, true, true, true, true, false, false, false, false, false, false] rfl rfl (any_of HT_.out (by kernel_rfl)) (fun _ _ _ h => h) (Or.inl ⟨by rfl, ?_⟩) ?_ ?_
          rotate_left
          · intro w'
            go_simp
            with_reducible rfl
          rotate_left
          · simp only [Act.put, List.setIfInBounds_toArray, List.set_cons_zero, List.set_cons_succ, i64_w, i32_w]
            rfl
          refine pure_ (i := 11) (N := some 64) (v := ?_) (a' := ?_) #[true, true, true, true, true, true, true, true, true, true, true, true, false, false, false, false, false] rfl rfl (any_of HT_.out (by kernel_rfl)) (fun _ _ _ h => h) (Or.inl ⟨by rfl, ?_⟩) ?_ ?_
          rotate_left
          · intro w'
            go_simp
            with_reducible rfl
          rotate_left
          · simp only [Act.put, List.setIfInBounds_toArray, List.set_cons_zero, List.set_cons_succ, i64_w, i32_w]
            rfl
          refine pure_ (i := 12) (N := some 65) (v := ?_) (a' := ?_) #[true, true, true, true, true, true, true, true, true, true, true, true, true, false, false, false, false] rfl rfl (any_of HT_.out (by kernel_rfl)) (fun _ _ _ h => h) (Or.inl ⟨by rfl, ?_⟩) ?_ ?_
          rotate_left
          · intro w'
            go_simp
            with_reducible rfl
          rotate_left
          · simp only [Act.put, List.setIfInBounds_toArray, List.set_cons_zero, List.set_cons_succ, i64_w, i32_w]
            rfl
          refine pure_ (i := 13) (N := some 66) (v := ?_) (a' := ?_) #[true, true, true, true, true, true, true, true, true, true, true, true, true, true, false, false, false] rfl rfl (any_of HT_.out (by kernel_rfl)) (fun _ _ _ h => h) (Or.inl ⟨by rfl, ?_⟩) ?_ ?_
          rotate_left
          · intro w'
            go_simp
            with_reducible rfl
          rotate_left
          · simp only [Act.put, List.setIfInBounds_toArray, List.set_cons_zero, List.set_cons_succ, i64_w, i32_w]
            rfl
          refine pure_ (i := 14) (N := some 67) (v := ?_) (a' := ?_) #[true, true, true, true, true, true, true, true, true, true, true, true, true, true, true, false, false] rfl rfl (any_of HT_.out (by kernel_rfl)) (fun _ _ _ h => h) (Or.inl ⟨by rfl, ?_⟩) ?_ ?_
          rotate_left
          · intro w'
            go_simp
            with_reducible rfl
          rotate_left
          · simp only [Act.put, List.setIfInBounds_toArray, List.set_cons_zero, List.set_cons_succ, i64_w, i32_w]
            rfl
          refine pure_ (i := 15) (N := some 68) (v := ?_) (a' := ?_) #[true, true, true, true, true, true, true, true, true, true, true, true, true, true, true, true, false] rfl rfl (any_of HT_.out (by kernel_rfl)) (fun _ _ _ h => h) (Or.inl ⟨by rfl, ?_⟩) ?_ ?_
          rotate_left
          · intro w'
            go_simp
            with_reducible rfl
          rotate_left
          · simp only [Act.put, List.setIfInBounds_toArray, List.set_cons_zero, List.set_cons_succ, i64_w, i32_w]
            rfl
          refine last_ (i := 16) (N := none) #[true, true, true, true, true, true, true, true, true, true, true, true, true, true, true, true, true] rfl rfl (one_of HT_.out (by kernel_rfl)) (by decide) (fun K hK => ?_)
          refine skip_ (w1 := ?_) (by rfl) rfl ?_ ?_
          rotate_left
          · go_simp
            rfl
          refine hK.out _ _ ?_
          clear hK K
          refine done_ (done_of HT_.out (by kernel_rfl)) ?_
          go_wp2
          have HB9 := Aside0.mk (below_set (j := j.toNat) (v := .int .u8 (Go.bits .or .u8 (rd LB j) s8)) HB1.out GG.out.1)
          go_roundg (q - 1 - k)
          case measure => have := HK.out; have := HKK.out; omega
          case rel =>
            refine ⟨k + 1, by go_num, by have := HPP.out; go_num, ⟨by have := HKK.out; omega, by omega⟩, ⟨?_⟩, ⟨HB9.out⟩⟩
            rw [← HSET.out]
            exact HP2.out
        · have d2 : decide ((k : Int) < (q : Int)) = false := decide_eq_false (by omega)
          obtain rfl : k = q := by have := HK.out.1; omega
          have h_ := HI2.out
          go_wp2
          go_roundg (l.length - 1 - i)
          case measure => have := HI.out; have := HK1.out; omega
          case rel =>
            refine ⟨i + 1, by go_num, by rw [Nat.succ_mul], ⟨by have := HK1.out; omega, by omega⟩, ⟨?_⟩, ⟨HB5.out⟩⟩
            rw [← partN_full k l i HK1.out]
            exact HV2.out
    · have d1 : decide ((i : Int) < (l.length : Int)) = false := decide_eq_false (by omega)
      obtain rfl : i = l.length := by have := HI.out.1; omega
      rw [List.take_length] at HV
      have hrb := (Kd.R_reads' HV.out).2
      have hvb : vbytes q l = H2 ++ leB (packN q l) sz := by
        unfold vbytes
        rw [HHE.out, HESZ.out, HH2.out]
      have HESZ2 := Aside0.mk HSZ.out.2
      clear HV HESZ HNW HSZ HI
      obtain ⟨BL, eBL⟩ : ∃ BL, leB (packN q l) sz = BL := ⟨_, rfl⟩
      have hBl : BL.length = sz := by rw [← eBL, leB_length]
      rw [eBL] at hrb hvb
      clear eBL
      subst hBl
      have hcon : concatF [H2, BL] = some (vbytes q l) := by
        unfold concatF
        have e : [H2, BL].flatten = vbytes q l := by rw [hvb]; simp
        rw [e, if_pos ⟨by simp, by rw [hvb, List.length_append]; have := HH2L.out; have := HESZ2.out; omega⟩]
      have HCON := Aside0.mk hcon
      have HTW := Aside0.mk (two_rows (q := 5) (e := 23) HHR.out.1 (Kd.C_below HHR.out.2 HB4.out) hrb.1 hrb.2)
      have HB9 := Aside0.mk (below_alloc (below_step HB.out HB4.out) (.cells #[.slice A3 H2.length c3, .slice Ab BL.length cb] 23))
      clear hrb hvb hcon hx0c
      go_wp2_with (go_at_call 52; refine (concat_calls _ _ [H2, BL] _ _ HTW.out (by simp) HCON.out).mono ?_; rintro e w9 ⟨v9, rfl, ho, hb⟩; have HO := Aside0.mk (Kd.R_mono (Kd.R_lower ho HB9.out.size) (ok' := fun _ => True) (fun _ _ => trivial)); have HB10 := Aside0.mk (below_step HB9.out hb); clear ho hb)
      go_ret
      exact ⟨_, rfl, HO.out, HB10.out⟩
end Go.Proofs.Ytolncaccemfbdaa.V16

/- A range over a function whose iterator tells of the world, too: what it yields, it has laid in memory that the rounds keep. -/
namespace Go.Proofs.Ytolncaccemfbdaa.Hand
open Go.RowKit
set_option linter.unusedVariables false
section
variable {α : Type} {F : Fence} {n : Nat} {P : Program}
/-- The iterator's word: S and Sp speak of what was yielded and of the world behind it; across a round it is kept what Kp says. -/
def SeqSeen (F : Fence) (n : Nat) (P : Program) (g : Nat) (lb : Array Value) (encs : α → Array Value) (Kp : World → World → Prop) (S Sp : List α → World → Prop) (Nx : List α → α → Prop) (w : World) : Prop :=
  ∀ (l : Nat) (J Jx : List α → World → Prop) (W : World), Below w.heap.size w W → AbidesFrom W.heap.size J →
    (∀ pre x W1, J pre W1 → Nx pre x → YieldAt F (n - 1) P l (encs x) W1 fun e W' =>
      (e = .returned (.bool true) ∧ J (pre ++ [x]) W' ∧ Kp W1 W') ∨ (e = .returned (.bool false) ∧ Jx (pre ++ [x]) W' ∧ Kp W1 W')) →
    J [] W →
    CallsIn F n P g (#[.func (.yield l) #[] #[]] ++ lb) W fun e W' => (∃ v, e = .returned v) ∧ ((∃ xs, S xs W' ∧ J xs W') ∨ (∃ pre, Sp pre W' ∧ Jx pre W'))
/-- How a round's body may end: it goes on, or it leaves by a label. -/
def seenPost (B : Nat) (Kp : World → World → Prop) (I : List α → World → Prop) (Ix : Nat → List α → World → Prop) (xs : List α) (W : World) : Exit → Act → World → Prop
  | .normal, _, W' => KeepsFrom B W W' ∧ Kp W W' ∧ I xs W'
  | .exit id, _, W' => KeepsFrom B W W' ∧ Kp W W' ∧ Ix id xs W'
  | _, _, _ => False
/-- What the loop's own book-keeping leaves alone: objects from B on that hold no cells. -/
def Aloof (B : Nat) (S : World → Prop) : Prop := ∀ W l o o', S W → B ≤ l → W.heap[l]? = some o → o.isCells = false → S (W.putObj l o')

theorem rangeFunc_seen {g : Operand} {ps : Array Tmp} {assign body : Code} {Q : Exit → Act → World → Prop} {a : Act} {w : World}
    (hro : F.round = none) (h1 : 1 ≤ n) {gf : Nat} {lb : Array Value} (hg : a.eval g = .func (.func gf) #[] lb) (hFg : F.fn gf) (eg : ∀ args w, (callFunc gf args).run P w = .ok (.enter gf args) w)
    {encs : α → Array Value} {Kp : World → World → Prop} {S Sp : List α → World → Prop} {Nx : List α → α → Prop} {w0 : World} (hseq : SeqSeen F (n - 1) P gf lb encs Kp S Sp Nx w0)
    (hKt : ∀ {A B C : World}, Kp A B → Kp B C → Kp A C) (hKb : ∀ (W : World) (l : Nat) (o o' : Obj), w.heap.size ≤ l → W.heap[l]? = some o → o.isCells = false → Kp W (W.putObj l o')) (hb0 : Below w0.heap.size w0 w) (hps : ∀ x, (encs x).size = ps.size)
    (I : List α → World → Prop) (Ix : Nat → List α → World → Prop) (hI : OwnFrom w.heap.size I) (hIx : ∀ c, OwnFrom w.heap.size (Ix c)) (hS : ∀ xs, Aloof w.heap.size (S xs)) (hSp : ∀ xs, Aloof w.heap.size (Sp xs)) (h0 : I [] w)
    (Ax : α → Act → World → Prop) (hAx : ∀ x a', OwnFrom w.heap.size (fun (_ : Unit) W => Ax x a' W))
    (hassign : ∀ (l : Nat) (pre : List α) (x : α) (W : World) (K : Act → World → Prop), I pre W → (∀ a' W', KeepsFrom w.heap.size W W' → Kp W W' → I pre W' → Ax x a' W' → K a' W') →
      assign.wpIn (F.inRound l) (n - 1 - 1) P (Exit.then K (fun _ _ _ => False)) { tmps := (ps.zip (encs x)).foldl (fun t (p, v) => t.setIfInBounds p v) a.tmps, defers := [] } W)
    (hbody : ∀ (l : Nat) (pre : List α) (x : α) (a' : Act) (W : World), I pre W → Ax x a' W → Nx pre x → body.wpIn (F.inRound l) (n - 1 - 1) P (seenPost w.heap.size Kp I Ix (pre ++ [x]) W) a' W)
    (hdone : ∀ (D : Nat) (xs : List α) (W : World), w.heap.size ≤ D → S xs W → I xs W → W.heap[D]? = some (.deferred (some [])) → Q .normal { a with defers := { target := .collected D, args := #[] } :: a.defers } W)
    (hstop : ∀ (D c : Nat) (pre : List α) (W : World), w.heap.size ≤ D → Sp pre W → Ix c pre W → W.heap[D]? = some (.deferred (some [])) → (Code.exit c).wpIn F n P Q { a with defers := { target := .collected D, args := #[] } :: a.defers } W) :
    (Code.rangeFunc g ps assign body).wpIn F n P Q a w := by
  refine wpIn_rangeFunc fun fn hfn => ?_
  rw [hro]
  -- the loop's record, in its states
  obtain ⟨R, hR⟩ : ∃ R : LoopState → Option Code → Loop, R = fun st pe => { state := st, pending := pe, fn, tmps := a.tmps, params := ps, assign, body, defers := w.heap.size } := ⟨_, rfl⟩
  obtain ⟨V, hV⟩ : ∃ V, (w.alloc (.deferred (some []))).alloc (.loop (R .ready none)) = V := ⟨_, rfl⟩
  have vL : V.heap[w.heap.size + 1]? = some (.loop (R .ready none)) := by
    have := World.alloc_heap_new (w.alloc (.deferred (some []))) (.loop (R .ready none))
    rw [World.size_alloc] at this
    rw [← hV]
    exact this
  have vD : V.heap[w.heap.size]? = some (.deferred (some [])) := by
    rw [← hV]
    exact (Below.heap_alloc _ _ _ (by simp)).trans (World.alloc_heap_new w _)
  have vI : I [] V := by
    rw [← hV]
    exact hI.alloc _ (hI.alloc _ h0)
  have vS : V.heap.size = w.heap.size + 2 := by
    rw [← hV]
    simp
  have vB : Below w0.heap.size w0 V := by
    rw [← hV]
    exact hb0.trans ((((Below.refl _ w).alloc (Nat.le_refl _) _).alloc (by simp) _).mono hb0.size)
  refine ⟨w.heap.size + 1, [{ target := .collected w.heap.size, args := #[] }], V, { target := .fn (.func gf) lb, args := #[.func (.yield (w.heap.size + 1)) #[] #[]] }, V, gf, #[.func (.yield (w.heap.size + 1)) #[] #[]] ++ lb, V, ?_, ?_, ?_, ?_, fun _ => h1, ?_⟩
  · rw [← hV, hR]
    exact run_enterLoop_outer _ _ _ _ _
  · simp only [resolve, hg]
    simp [go_sem]
  · intro f' hf'
    simp [Target.leads] at hf'
    subst hf'
    exact hFg
  · simp [invoke, go_sem, eg]
  have walks : ∀ {A : World} {row : Option Nat}, (∀ r, row = some r → V.heap.size ≤ r ∧ ∃ o : Obj, A.heap[r]? = some o ∧ o.isWalk = true) → ∀ r, row = some r → w.heap.size ≤ r ∧ ∃ o : Obj, A.heap[r]? = some o ∧ o.isCells = false := by
    intro A row hr r e
    obtain ⟨hle, o, ho, hw⟩ := hr r e
    exact ⟨by omega, o, ho, Obj.not_cells_of_walk hw⟩
  refine (hseq (w.heap.size + 1) (fun pre W => I pre W ∧ W.heap[w.heap.size + 1]? = some (.loop (R .ready none)) ∧ W.heap[w.heap.size]? = some (.deferred (some [])))
    (fun pre W => ∃ c, Ix c pre W ∧ W.heap[w.heap.size + 1]? = some (.loop (R .done (some (.exit c)))) ∧ W.heap[w.heap.size]? = some (.deferred (some []))) V vB ?abides ?round ⟨vI, vL, vD⟩).mono ?behind
  case abides =>
    rintro s A B row ⟨hi, hl, hd⟩ hgr hr
    have hr2 := fun r e => (hr r e).2
    exact ⟨hI s A B row hi hgr (walks hr), (grownBy_keeps hgr hr2 hl rfl).trans hl, (grownBy_keeps hgr hr2 hd rfl).trans hd⟩
  case round =>
    rintro pre x W ⟨hi, hl, hd⟩ hlen
    have hy := run_yield (P := P) (args := encs x) hl (by rw [hR]; exact hps x)
    rw [hR] at hy
    refine ⟨fn, _, assign, body, hy, roundIn_of_wpIn hfn (hassign _ pre x W _ hi ?_)⟩
    clear hy
    intro a' W2 hkf hkp hi2 hax
    have hl2 := hkf.same _ _ (by omega) hl rfl
    have hd2 := hkf.same _ _ (Nat.le_refl _) hd rfl
    have hlt : w.heap.size + 1 < W2.heap.size := (Array.getElem?_eq_some_iff.1 hl2).1
    refine ⟨_, run_beginRound hl2 (by rw [hR]), ?_⟩
    obtain ⟨W3, hW3⟩ : ∃ W3, W2.putObj (w.heap.size + 1) (.loop { R .ready none with state := .busy }) = W3 := ⟨_, rfl⟩
    have hl3 : W3.heap[w.heap.size + 1]? = some (.loop { R .ready none with state := .busy }) := by rw [← hW3]; exact World.putObj_heap_same hlt
    have hd3 : W3.heap[w.heap.size]? = some (.deferred (some [])) := by rw [← hW3]; exact (World.putObj_heap_other (by omega)).trans hd2
    have hk3 : Kp W2 W3 := by rw [← hW3]; exact hKb _ _ _ _ (by omega) hl2 rfl
    have hi3 : I pre W3 := by rw [← hW3]; exact hI.putObj _ hi2 (by omega) hl2 rfl
    have ha3 : Ax x a' W3 := by rw [← hW3]; exact (hAx x a').putObj (s := ()) _ hax (by omega) hl2 rfl
    rw [hW3]
    refine wpIn_mono (hbody _ pre x a' W3 hi3 ha3 hlen) ?_
    -- the round's end turns the record once more
    have fin : ∀ (jump : Option Code) (W4 : World), KeepsFrom w.heap.size W3 W4 → ∃ W5, (Instr.endRound (w.heap.size + 1) jump).run P W4 = .ok (.bool jump.isNone) W5 ∧ W5 = W4.putObj (w.heap.size + 1) (.loop (R (if jump.isNone then .ready else .done) jump)) ∧
        W4.heap[w.heap.size + 1]? = some (.loop { R .ready none with state := .busy }) ∧ W5.heap[w.heap.size + 1]? = some (.loop (R (if jump.isNone then .ready else .done) jump)) ∧ W5.heap[w.heap.size]? = some (.deferred (some [])) := by
      intro jump W4 hk4
      have hl4 := hk4.same _ _ (by omega) hl3 rfl
      have hd4 := hk4.same _ _ (Nat.le_refl _) hd3 rfl
      have hr := run_endRound (P := P) jump hl4
      rw [hR] at hr hl4 ⊢
      exact ⟨_, hr, rfl, hl4, World.putObj_heap_same (Array.getElem?_eq_some_iff.1 hl4).1, (World.putObj_heap_other (by omega)).trans hd4⟩
    rintro e a4 W4 hp
    cases e with
    | normal =>
      obtain ⟨hk4, hkp4, hi4⟩ := hp
      obtain ⟨W5, hr, rfl, hl4, hl5, hd5⟩ := fin none W4 hk4
      exact ⟨_, _, hr, .inl ⟨rfl, ⟨hI.putObj _ hi4 (by omega) hl4 rfl, hl5, hd5⟩, hKt hkp (hKt hk3 (hKt hkp4 (hKb _ _ _ _ (by omega) hl4 rfl)))⟩⟩
    | exit id =>
      obtain ⟨hk4, hkp4, hi4⟩ := hp
      obtain ⟨W5, hr, rfl, hl4, hl5, hd5⟩ := fin (some (.exit id)) W4 hk4
      exact ⟨_, _, hr, .inr ⟨rfl, ⟨id, (hIx id).putObj _ hi4 (by omega) hl4 rfl, hl5, hd5⟩, hKt hkp (hKt hk3 (hKt hkp4 (hKb _ _ _ _ (by omega) hl4 rfl)))⟩⟩
    | _ => exact hp.elim
  case behind =>
    rintro e W ⟨⟨v, rfl⟩, ⟨xs, hs, hi, hl, hd⟩ | ⟨pre, hs, c, hi, hl, hd⟩⟩
    · have hr := run_endLoop (P := P) hl (by rw [hR]; simp)
      rw [hR] at hr
      refine ⟨none, _, hr, ?_⟩
      exact hdone _ xs _ (Nat.le_refl _) (hS xs W _ _ _ hs (by omega) hl rfl) (hI.putObj _ hi (by omega) hl rfl) ((World.putObj_heap_other (by omega)).trans hd)
    · have hr := run_endLoop (P := P) hl (by rw [hR]; simp)
      rw [hR] at hr
      refine ⟨some (.exit c), _, hr, ?_⟩
      exact hstop _ c pre _ (Nat.le_refl _) (hSp pre W _ _ _ hs (by omega) hl rfl) ((hIx c).putObj _ hi (by omega) hl rfl) ((World.putObj_heap_other (by omega)).trans hd)
end
end Go.Proofs.Ytolncaccemfbdaa.Hand

/- Printed by a program of this session (drv.py) from the translation of this seat: functions, their contracts, rows. -/
namespace Go.Proofs.Ytolncaccemfbdaa.PPk
open Go.RowKit Go.Proofs.YtolncaccemfbdaaW.PrintWords Go.Proofs.YtolncaccemfbdaaW.PrintLast Go.Proofs.YtolncaccemfbdaaW.PrintMore
attribute [local go_sem] max2_int min2_int max_two min_two max_three min_three max_four min_four   -- for this text's walks alone
set_option linter.unusedVariables false
set_option linter.unusedSimpArgs false

/-! ### packed_Width_uint64: function 13 -/
def packed_Width_uint64.l0 : Nat → Int → List Int → Int → Int → Option (Int)
  | 0, _, _, _, _ => none
  | k + 1, x3, x6, x7, x8 => if x8 < x7 then (if 0 ≤ x8 then (if x8 < (x6.length : Int) then ((bits_Len64.f (rd x6 x8)).bind fun t159 => (packed_Width_uint64.l0 k (mx x3 t159) x6 x7 (wrap64 (x8 + 1)))) else (none)) else (none)) else (some x3)
def packed_Width_uint64.f (k : Nat) (l0 : List Int) : Option (Int) := packed_Width_uint64.l0 k 0 l0 (l0.length : Int) 0
theorem packed_Width_uint64.mono_l : ∀ k, (∀ y0 y1 y2 y3, LeO (packed_Width_uint64.l0 k y0 y1 y2 y3) (packed_Width_uint64.l0 (k + 1) y0 y1 y2 y3))
  | 0 => fun _ _ _ _ r h => by simp [packed_Width_uint64.l0] at h
  | k + 1 => by
    have ih0 := packed_Width_uint64.mono_l k
    · intro y0 y1 y2 y3
      unfold packed_Width_uint64.l0
      repeat' first
      | (with_reducible exact ih0 _ _ _ _)
      | (with_reducible exact LeO.refl _)
      | (with_reducible exact LeO.none _)
      | (with_reducible refine LeO.ite ?_ ?_)
      | (with_reducible refine LeO.bind ?_ (fun _ => ?_))
      | exact ih0 _ _ _ _
      | exact LeO.none _
      | refine LeO.ite ?_ ?_
      | refine LeO.bind ?_ (fun _ => ?_)
theorem packed_Width_uint64.mono : ∀ a0 k, LeO (packed_Width_uint64.f k a0) (packed_Width_uint64.f (k + 1) a0) := by
  intro a0 k
  have ih0 := packed_Width_uint64.mono_l k
  unfold packed_Width_uint64.f
  repeat' first
      | (with_reducible exact ih0 _ _ _ _)
      | (with_reducible exact LeO.refl _)
      | (with_reducible exact LeO.none _)
      | (with_reducible refine LeO.ite ?_ ?_)
      | (with_reducible refine LeO.bind ?_ (fun _ => ?_))
      | exact ih0 _ _ _ _
      | exact LeO.none _
      | refine LeO.ite ?_ ?_
      | refine LeO.bind ?_ (fun _ => ?_)
set_option maxHeartbeats 8000000 in
set_option maxRecDepth 100000 in
theorem packed_Width_uint64.calls (k : Nat) (A0 : Option Addr) (c0 : Nat) (l0 : List Int) (r : Int) (w : World) (hr0 : Kd.C (Kd.int .u64) w A0 l0.length l0) (hc0 : l0.length ≤ c0) (h : packed_Width_uint64.f k l0 = some r) :
    Calls Try.prog 13 #[.slice A0 l0.length c0] w fun e w' => e = .returned (.int .i64 r) ∧ Below w.heap.size w w' := by
  have HR0 := Aside0.mk hr0
  have HC0 := Aside0.mk hc0
  clear hr0 hc0
  have HB := Aside0.mk (Below.refl w.heap.size w)
  have H : (packed_Width_uint64.l0 k 0 l0 (l0.length : Int) 0) = some r := h
  clear h
  have H' := Aside0.mk H
  clear H
  go_enter Try.func13, Try.ntmps13
  go_wp2
  go_loopg [3, 8] k (fun kq v3 v8 w' => ∃ (x3_1 : Int) (x8_1 : Int), v3 = .int .i64 x3_1 ∧ v8 = .int .i64 x8_1 ∧ Aside0 (packed_Width_uint64.l0 kq x3_1 l0 (l0.length : Int) x8_1 = some r) ∧ Aside0 (kq ≤ k) ∧ Aside0 (Below w.heap.size w w'))
  case atStart => exact ⟨(0), (0), (by first | rfl | (simp; done) | (simp [*]; done)), (by first | rfl | (simp; done) | (simp [*]; done)), H', ⟨Nat.le_refl _⟩, ⟨by repeat (first | (with_reducible first | exact HB.out | apply below_alloc | apply pw_below_drewN | apply below_drew1) | exact HB.out)⟩⟩
  case round =>
    clear H'
    try clear c1
    obtain ⟨x3_1, x8_1, rfl, rfl, HA, HK1, HB⟩ := hrel
    cases gk with
    | zero => exact absurd HA.out (by simp [packed_Width_uint64.l0])
    | succ k1 =>
      have H := HA.out
      clear HA
      simp only [packed_Width_uint64.l0] at H
      by_cases c2 : x8_1 < (l0.length : Int)
      · rw [if_pos c2] at H
        have c2b0 : decide (x8_1 < (l0.length : Int)) = true := decide_eq_true c2
        clear c2
        by_cases c3 : 0 ≤ x8_1
        · rw [if_pos c3] at H
          have c3b0 : decide (0 ≤ x8_1) = true := decide_eq_true c3
          clear c3
          by_cases c4 : x8_1 < (l0.length : Int)
          · rw [if_pos c4] at H
            have c4b0 : decide (x8_1 < (l0.length : Int)) = true := decide_eq_true c4
            clear c4
            replace H := Option.bind_eq_some_iff.mp H
            obtain ⟨t159, A50, H⟩ := H
            replace H : (packed_Width_uint64.l0 k1 (mx x3_1 t159) l0 (l0.length : Int) (wrap64 (x8_1 + 1))) = some r := H
            have A5 := Aside0.mk A50
            clear A50
            obtain ⟨ji6, hji6⟩ : ∃ j_ : Int, (mx x3_1 t159) = j_ := ⟨_, rfl⟩
            replace H : (packed_Width_uint64.l0 k1 ji6 l0 (l0.length : Int) (wrap64 (x8_1 + 1))) = some r := by first | (rw [hji6] at H; exact H) | (simp only [hji6] at H ⊢; exact H)
            (try rw [hji6] at A5)
            have hji6_ : (if x3_1 < t159 then t159 else x3_1) = ji6 := hji6
            have H' := Aside0.mk H
            clear H
            have p158 : 0 ≤ (x8_1 : Int) := of_decide_eq_true (by first | (with_reducible assumption) | assumption)
            have q158 : x8_1 < (l0.length : Int) := of_decide_eq_true (by first | (with_reducible assumption) | assumption)
            obtain ⟨ad158, e158, hx158_0⟩ := Kd.at_int HR0.out x8_1 p158 q158
            cases e158
            replace hx158_0 := (HB.out.cell (World.block_lt_of_cell? w _ hx158_0)).trans hx158_0
            replace p158 := eq_true p158
            replace q158 := eq_true q158
            go_wp2_with (first | ((with_reducible refine gate_callee (f := 47) rfl ?_); refine goesL_ (some 14) rfl rfl Try.func47 (by kernel_rfl) rfl #[.int .u64 (rd l0 x8_1)] rfl (by (try simp only [List.map_toArray, List.map_cons, List.map_nil]); first | done | rfl | (simp only [List.length_drop, List.length_take]; rfl)) ?_; (with_reducible refine (bits_Len64.calls (rd l0 x8_1) t159 _ A5.out).mono ?_); rintro e w' ⟨rfl, ⟨nd, rfl⟩⟩; refine ⟨_, rfl, ?_⟩))
            go_roundg k1
            case measure => have := HK1.out; omega
            case rel => exact ⟨(ji6), (wrap64 (x8_1 + 1)), (by first | rfl | (simp; done) | (simp only [← hji6] <;> (first | rfl | simp)) | (simp [*]; done)), (by first | rfl | (simp; done) | (simp [*]; done)), H', ⟨by have := HK1.out; omega⟩, ⟨by repeat (first | (with_reducible first | exact HB.out | apply below_alloc | apply pw_below_drewN | apply below_drew1) | exact HB.out)⟩⟩
          · rw [if_neg c4] at H
            exact absurd H (by simp)
        · rw [if_neg c3] at H
          exact absurd H (by simp)
      · rw [if_neg c2] at H
        have c2b0 : decide (x8_1 < (l0.length : Int)) = false := decide_eq_false c2
        clear c2
        obtain rfl := Option.some.inj H
        go_wp2
        go_ret
        exact ⟨by first | rfl | (simp [errW_none, errW_some] <;> rfl) | (simp [*, errW_none, errW_some] <;> rfl), by repeat (first | (with_reducible first | exact HB.out | apply below_alloc | apply pw_below_drewN | apply below_drew1) | exact HB.out)⟩

end Go.Proofs.Ytolncaccemfbdaa.PPk

/- Packed numbers of the type uint64: what Width, New, Get, Len tell. -/
namespace Go.Proofs.Ytolncaccemfbdaa.V64
open Go.RowKit Go.Proofs.YtolncaccemfbdaaW.PrintWords Go.Proofs.YtolncaccemfbdaaW.PrintLast Go.Proofs.YtolncaccemfbdaaW.PrintMore
open Go.Proofs.Ytolncaccemfbdaa.Plain Go.Proofs.Ytolncaccemfbdaa.PPk Go.Proofs.Ytolncaccemfbdaa.Hand
set_option linter.unusedVariables false
set_option linter.unusedSimpArgs false
theorem width_go (l : List Int) (hb : ∀ x ∈ l, 0 ≤ x ∧ x < 18446744073709551616) (hl : l.length ≤ 1000000) : ∀ (d k i : Nat), l.length - i = d → d < k → i ≤ l.length → packed_Width_uint64.l0 k (widthL (l.take i) : Int) l (l.length : Int) (i : Int) = some (widthL l : Int) := by
  intro d
  induction d with
  | zero =>
    intro k i hd hk hi
    obtain ⟨k, rfl⟩ : ∃ m, k = m + 1 := ⟨k - 1, by omega⟩
    rw [packed_Width_uint64.l0, if_neg (by omega), show i = l.length from by omega, List.take_length]
  | succ d ih =>
    intro k i hd hk hi
    obtain ⟨k, rfl⟩ : ∃ m, k = m + 1 := ⟨k - 1, by omega⟩
    have hlt : i < l.length := by omega
    have hx := hb _ (List.getElem_mem hlt)
    have hf : bits_Len64.f (rd l (i : Int)) = some (Lib.bitLen (l[i]).toNat : Int) := by
      rw [rd_at l i hlt]
      unfold bits_Len64.f len64F
      rw [if_pos (by omega)]
    rw [packed_Width_uint64.l0, if_pos (by omega), if_pos (by omega), if_pos (by omega), hf, Option.bind_some, mx_cast, w64 (by omega) (by omega)]
    have e : max (widthL (l.take i)) (Lib.bitLen (l[i]).toNat) = widthL (l.take (i + 1)) := by
      rw [List.take_succ_eq_append_getElem hlt, widthL_snoc]
    rw [e, show (i : Int) + 1 = ((i + 1 : Nat) : Int) from by omega]
    exact ih k (i + 1) (by omega) (by omega) (by omega)
theorem width_f (l : List Int) (hb : ∀ x ∈ l, 0 ≤ x ∧ x < 18446744073709551616) (hl : l.length ≤ 1000000) : packed_Width_uint64.f (l.length + 1) l = some (widthL l : Int) := by
  have := width_go l hb hl l.length (l.length + 1) 0 (by omega) (by omega) (by omega)
  rw [List.take_zero, show (widthL [] : Int) = 0 from rfl] at this
  exact this

theorem hinfo : (Try.prog.info? 30).map (fun i => (i.zero, i.size, i.bytes)) = some (some (.int .u64 0), 1, 8) := by kernel_rfl
set_option maxHeartbeats 800000 in
set_option maxRecDepth 100000 in
theorem clone_calls (A0 : Option Addr) (c0 : Nat) (l0 : List Int) (w : World) (hr0 : Kd.C (Kd.int .u64) w A0 l0.length l0) (hl : l0.length ≤ 1000000) :
    Calls Try.prog 48 #[.slice A0 l0.length c0] w fun e w' => ∃ v0_ : Value, e = .returned v0_ ∧ Kd.R (Kd.int .u64) 30 w' w.heap.size (fun _ => True) v0_ l0 ∧ Below w.heap.size w w' := by
  cases A0 with
  | none =>
    have h0 := C_none hr0
    obtain rfl : l0 = [] := List.eq_nil_of_length_eq_zero h0
    clear h0
    have hnil := fun W => Lib.run_eql_slice_nil (P := Try.prog) W 28 30 none 0 c0 0 0 Try.underlying28
    go_enter Try.func48, Try.ntmps48
    go_wp2
    go_ret
    exact ⟨_, rfl, Kd.R_nil _ _ _ _ _, Below.refl _ _⟩
  | some ad =>
    have hnil := fun W => Lib.run_eql_slice_nil (P := Try.prog) W 28 30 (some ad) l0.length c0 0 0 Try.underlying28
    have HR0 := Aside0.mk hr0
    have HL := Aside0.mk hl
    have HB := Aside0.mk (Below.refl w.heap.size w)
    clear hr0 hl
    go_enter Try.func48, Try.ntmps48
    go_wp2_with (first | ((with_reducible refine gate_dst (N := 5) rfl ?_); refine Kd.R_lit (Kd.int .u64) _ 30 ?hg (N := 5) ?hd (xs := ([] : List Int)) (inner := []) (ok := fun _ => True) (okp := fun _ => True) ?hr ?hp (fun _ hk => hk) trivial (Below.refl _ _) (Nat.le_refl _) (by simp) ?_; (case hd => rfl); (case hg => rfl); (case hr => first | (go_simp; done) | (go_simp; rfl)); (case hp => exact Reps.none _ _); intro v1 w1 ho hb hg_ hnew_; clear hg_ hnew_; have HO := Aside0.mk ho; clear HB; have HB := Aside0.mk hb; clear ho hb) | ((with_reducible refine gate_builtin (b := .append) (xs := #[.tmp 5, .tmp 6]) rfl ?_); at_builtin; refine Kd.R_append_rows (Kd.int .u64) (w0 := w) w.heap.size rfl (.tmp 5) (.tmp 6) 28 30 (.int .u64 0) 8 rfl Try.underlying28 hinfo rfl (by decide) (by omega) v1 [] l0 _ _ _ (fun _ => True) (fun _ => False) rfl rfl ?aO ?aR (fun _ _ h => h) (fun _ h => h.elim) ?aF ?aB ?aS ?aL ?_; (case aR => exact (Kd.C_below HR0.out HB.out)); (case aB => exact HB.out); (case aF => exact (fun _ _ => trivial)); (case aO => exact HO.out); (case aS => exact (below_size HB.out)); (case aL => have := HL.out; simp only [List.length_nil]; omega); intro v2 w2 ho hb hg hat; clear HB HO; have HO := Aside0.mk ho; have HB := Aside0.mk hb; clear ho hb hg hat))
    go_ret
    exact ⟨_, rfl, HO.out, HB.out⟩
set_option maxHeartbeats 800000 in
set_option maxRecDepth 100000 in
theorem new_bad (a0 : Int) (A1 : Option Addr) (c1 : Nat) (l1 : List Int) (w : World) (hr1 : Kd.C (Kd.int .u64) w A1 l1.length l1) (hc1 : l1.length ≤ c1) (hb : ∀ x ∈ l1, 0 ≤ x ∧ x < 18446744073709551616) (hl : l1.length ≤ 1000000) (r : Int) (h : newE a0 l1 = r) (h0 : r ≠ 0) :
    Calls Try.prog 14 #[.int .i64 a0, .slice A1 l1.length c1] w fun e w' => e = .returned (.tuple #[.pointer none, .int .i64 r]) ∧ Below w.heap.size w w' := by
  have HWF := Aside0.mk (width_f l1 hb hl)
  have HR1 := Aside0.mk hr1
  have HB := Aside0.mk (Below.refl w.heap.size w)
  clear hr1 hb hl
  unfold newE at h
  obtain ⟨m, em⟩ : ∃ m, widthL l1 = m := ⟨_, rfl⟩
  rw [em] at HWF h
  by_cases k1 : a0 < 0
  · have d1 : decide (a0 < 0) = true := decide_eq_true k1
    rw [if_pos (.inl k1)] at h
    subst h
    clear h0 em
    go_enter Try.func14, Try.ntmps14
    go_wp2
    refine bodyPost_ret (results_list (rs := [.tmp 4, .tmp 5]) rfl (by simp) (.tmp (.tmp .nil))) rfl ?_
    exact ⟨rfl, HB.out⟩
  have d1 : decide (a0 < 0) = false := decide_eq_false k1
  by_cases k2 : 64 < a0
  · have d2 : decide (64 < a0) = true := decide_eq_true k2
    rw [if_pos (.inr (.inl k2))] at h
    subst h
    clear h0 em
    go_enter Try.func14, Try.ntmps14
    go_wp2
    refine bodyPost_ret (results_list (rs := [.tmp 4, .tmp 5]) rfl (by simp) (.tmp (.tmp .nil))) rfl ?_
    exact ⟨rfl, HB.out⟩
  have d2 : decide (64 < a0) = false := decide_eq_false k2
  by_cases k3 : a0 < (m : Int)
  · have d3 : decide (a0 < (m : Int)) = true := decide_eq_true k3
    rw [if_pos (.inr (.inr k3))] at h
    subst h
    clear h0 em
    go_enter Try.func14, Try.ntmps14
    go_wp2_with (first | (go_at_call 13; refine (packed_Width_uint64.calls _ _ _ _ _ _ (Kd.C_below HR1.out HB.out) hc1 HWF.out).mono ?_; rintro e w1 ⟨rfl, hb⟩; have n1_ := Aside0.mk (below_step HB.out hb); clear HB hb; have HB := n1_; clear n1_))
    refine bodyPost_ret (results_list (rs := [.tmp 4, .tmp 5]) rfl (by simp) (.tmp (.tmp .nil))) rfl ?_
    exact ⟨rfl, HB.out⟩
  have d3 : decide (a0 < (m : Int)) = false := decide_eq_false k3
  by_cases k4 : 100000 < l1.length
  · have d4 : decide (100000 < (l1.length : Int)) = true := decide_eq_true (by omega)
    rw [if_neg (by omega), if_pos k4] at h
    subst h
    clear h0 em
    go_enter Try.func14, Try.ntmps14
    go_wp2_with (first | (go_at_call 13; refine (packed_Width_uint64.calls _ _ _ _ _ _ (Kd.C_below HR1.out HB.out) hc1 HWF.out).mono ?_; rintro e w1 ⟨rfl, hb⟩; have n1_ := Aside0.mk (below_step HB.out hb); clear HB hb; have HB := n1_; clear n1_))
    refine bodyPost_ret (results_list (rs := [.tmp 4, .tmp 5]) rfl (by simp) (.tmp (.tmp .nil))) rfl ?_
    exact ⟨rfl, HB.out⟩
  · rw [if_neg (by omega), if_neg k4] at h
    exact absurd h.symm h0
set_option maxHeartbeats 800000 in
set_option maxRecDepth 100000 in
theorem new_good (a0 : Int) (A1 : Option Addr) (c1 : Nat) (l1 : List Int) (w : World) (hr1 : Kd.C (Kd.int .u64) w A1 l1.length l1) (hc1 : l1.length ≤ c1) (hb : ∀ x ∈ l1, 0 ≤ x ∧ x < 18446744073709551616) (hl : l1.length ≤ 1000000) (h : newE a0 l1 = 0) :
    Calls Try.prog 14 #[.int .i64 a0, .slice A1 l1.length c1] w fun e w' => ∃ g, e = .returned (.tuple #[.pointer (some ⟨g, 0, none⟩), .int .i64 0]) ∧ w.heap.size ≤ g ∧ VecAt .u64 83 w' g a0 l1 ∧ Below w.heap.size w w' := by
  have HWF := Aside0.mk (width_f l1 hb hl)
  have HR1 := Aside0.mk hr1
  have HL := Aside0.mk hl
  have HB := Aside0.mk (Below.refl w.heap.size w)
  clear hr1 hb hl
  obtain ⟨k1, k2, k3, k4⟩ := newE_ok h
  obtain ⟨m, em⟩ : ∃ m, widthL l1 = m := ⟨_, rfl⟩
  rw [em] at HWF k3
  have d1 : decide (a0 < 0) = false := decide_eq_false (by omega)
  have d2 : decide (64 < a0) = false := decide_eq_false (by omega)
  have d3 : decide (a0 < (m : Int)) = false := decide_eq_false (by omega)
  have d4 : decide (100000 < (l1.length : Int)) = false := decide_eq_false (by omega)
  clear em h
  go_enter Try.func14, Try.ntmps14
  go_wp2_with (first | (go_at_call 13; refine (packed_Width_uint64.calls _ _ _ _ _ _ (Kd.C_below HR1.out HB.out) hc1 HWF.out).mono ?_; rintro e w1 ⟨rfl, hb⟩; have n1_ := Aside0.mk (below_step HB.out hb); clear HB hb; have HB := n1_; clear n1_) | (go_at_call 48; refine (clone_calls _ _ l1 _ (Kd.C_below HR1.out HB.out) HL.out).mono ?_; rintro e w2 ⟨v2, rfl, ho, hb⟩; obtain ⟨A2, c2, rfl⟩ := Kd.R_slice ho; have HO := Aside0.mk (Kd.R_reads' ho).2; have n1_ := Aside0.mk (below_step HB.out hb); clear HB hb ho; have HB := n1_; clear n1_))
  refine bodyPost_ret (results_list (rs := [.tmp 4, .tmp 5]) rfl (by simp) (.tmp (.tmp .nil))) rfl ?_
  refine ⟨w2.heap.size, rfl, HB.out.size, ⟨A2, c2, blk_new _ _, HO.out.1, Kd.C_alloc HO.out.2 _⟩, below_alloc HB.out _⟩
set_option maxHeartbeats 800000 in
set_option maxRecDepth 100000 in
theorem get_calls (g : Nat) (a0 : Int) (l : List Int) (i : Int) (w : World) (h : VecAt .u64 83 w g a0 l) :
    Calls Try.prog 22 #[.pointer (some ⟨g, 0, none⟩), .int .i64 i] w fun e w' => e = .returned (.int .u64 (if 0 ≤ i ∧ i < l.length then rd l i else 0)) ∧ w' = w := by
  obtain ⟨A, c, hb, hle, hC⟩ := h
  have hx1 := blk_cell hb 1
  by_cases k1 : i < 0
  · have d1 : decide (i < 0) = true := decide_eq_true k1
    rw [if_neg (by omega)]
    clear hC hb
    go_enter Try.func22, Try.ntmps22
    go_wp2
    go_ret
    exact ⟨rfl, rfl⟩
  have d1 : decide (i < 0) = false := decide_eq_false k1
  by_cases k2 : (l.length : Int) ≤ i
  · have d2 : decide ((l.length : Int) ≤ i) = true := decide_eq_true k2
    rw [if_neg (by omega)]
    clear hC hb
    go_enter Try.func22, Try.ntmps22
    go_wp2
    go_ret
    exact ⟨rfl, rfl⟩
  have d2 : decide ((l.length : Int) ≤ i) = false := decide_eq_false k2
  rw [if_pos (by omega)]
  obtain ⟨ad, rfl, hc⟩ := Kd.at_int hC i (by omega) (by omega)
  have k3 : 0 ≤ i := by omega
  have k4 : i < (l.length : Int) := by omega
  clear hC hb k1 k2
  go_enter Try.func22, Try.ntmps22
  go_wp2
  go_ret
  exact ⟨rfl, rfl⟩

set_option maxHeartbeats 800000 in
set_option maxRecDepth 100000 in
theorem len_calls (g : Nat) (a0 : Int) (l : List Int) (w : World) (h : VecAt .u64 83 w g a0 l) :
    Calls Try.prog 43 #[.pointer (some ⟨g, 0, none⟩)] w fun e w' => e = .returned (.int .i64 (l.length : Int)) ∧ w' = w := by
  obtain ⟨A, c, hb, hle, hC⟩ := h
  have hx1 := blk_cell hb 1
  clear hC hb
  go_enter Try.func43, Try.ntmps43
  go_wp2
  go_ret
  exact ⟨rfl, rfl⟩
set_option maxHeartbeats 800000 in
set_option maxRecDepth 100000 in
theorem wid_calls (g : Nat) (a0 : Int) (l : List Int) (w : World) (h : VecAt .u64 83 w g a0 l) :
    Calls Try.prog 44 #[.pointer (some ⟨g, 0, none⟩)] w fun e w' => e = .returned (.int .i64 a0) ∧ w' = w := by
  obtain ⟨A, c, hb, hle, hC⟩ := h
  have hx0 := blk_cell hb 0
  clear hC hb
  go_enter Try.func44, Try.ntmps44
  go_wp2
  go_ret
  exact ⟨rfl, rfl⟩
end Go.Proofs.Ytolncaccemfbdaa.V64

/- All of packed numbers of the type uint16, as an iterator, and all over it: the numbers, at most so many. -/
namespace Go.Proofs.Ytolncaccemfbdaa.V16
open Go.RowKit Go.Shelf Go.Proofs.YtolncaccemfbdaaW.PrintWords Go.Proofs.YtolncaccemfbdaaW.PrintLast Go.Proofs.YtolncaccemfbdaaW.PrintMore
open Go.Proofs.Ytolncaccemfbdaa.Plain Go.Proofs.Ytolncaccemfbdaa.PPk Go.Proofs.Ytolncaccemfbdaa.Hand
attribute [local go_sem] Oper.semAt_some
set_option linter.unusedVariables false
set_option linter.unusedSimpArgs false
set_option maxRecDepth 100000 in
theorem vall_calls (g : Nat) (w : World) : Calls Try.prog 67 #[.pointer (some ⟨g, 0, none⟩)] w fun e w' => ∃ b, e = .returned (.func (.func 70) #[] #[.pointer (some ⟨b, 0, none⟩)]) ∧ Boxed w' b 43 (.pointer (some ⟨g, 0, none⟩)) ∧ w.heap.size ≤ b ∧ Below w.heap.size w w' := by
  go_enter Try.func67, Try.ntmps67
  go_wp2
  go_ret
  exact ⟨w.heap.size, rfl, Boxed.new _ _ _, Nat.le_refl _, (Below.refl _ w).alloc (Nat.le_refl _) _⟩
abbrev encV (xs : List Int) (i : Nat) : Array Value := #[.int .i64 (i : Int), .int .u16 (rd xs (i : Int))]
/-- What a round keeps: the blocks of the world the call came into, and the blocks from lo to hi. -/
structure KpV (w0 : World) (lo hi : Nat) (W W' : World) : Prop where
  size : W.heap.size ≤ W'.heap.size
  old : ∀ k, k < w0.heap.size → W'.heap[k]? = W.heap[k]?
  mid : ∀ k, lo ≤ k → k < hi → W'.heap[k]? = W.heap[k]?
theorem KpV.refl (w0 : World) (lo hi : Nat) (W : World) : KpV w0 lo hi W W := ⟨Nat.le_refl _, fun _ _ => rfl, fun _ _ _ => rfl⟩
theorem KpV.trans {w0 : World} {lo hi : Nat} {A B C : World} (h : KpV w0 lo hi A B) (k : KpV w0 lo hi B C) : KpV w0 lo hi A C :=
  ⟨Nat.le_trans h.size k.size, fun i h1 => (k.old i h1).trans (h.old i h1), fun i h1 h2 => (k.mid i h1 h2).trans (h.mid i h1 h2)⟩
theorem came_reads {w W : World} {A : Option Addr} {n : Nat} {xs : List Int} (h : Kd.C (Kd.int .u16) w A n xs) (hk : ∀ k, k < w.heap.size → W.heap[k]? = w.heap[k]?) : Kd.C (Kd.int .u16) W A n xs := (Kd.heap_int .u16).C (fun j hj => hk j hj) h
set_option maxRecDepth 100000 in
set_option maxHeartbeats 2000000 in
theorem all1_in (n : Nat) (hn : 1 ≤ n) (l b lo hi g : Nat) (a0 : Int) (A : Option Addr) (c : Nat) (xs : List Int) (w0 : World) (hbm : lo ≤ b ∧ b < hi) (hg : g < w0.heap.size) (hxl : xs.length ≤ 100000) (hC : Kd.C (Kd.int .u16) w0 A xs.length xs) (hblk : w0.heap[g]? = some (.cells #[.int .i64 a0, .slice A xs.length c] 86 (0, 0))) (J Jx : List Nat → World → Prop)
    (hY : ∀ pre x W, J pre W → x = pre.length ∧ x < xs.length → YieldAt Fence.wide (n - 1) Try.prog l (encV xs x) W fun e W' =>
      (e = .returned (.bool true) ∧ J (pre ++ [x]) W' ∧ KpV w0 lo hi W W') ∨ (e = .returned (.bool false) ∧ Jx (pre ++ [x]) W' ∧ KpV w0 lo hi W W'))
    (W : World) (hold : ∀ k, k < w0.heap.size → W.heap[k]? = w0.heap[k]?) (hb : Boxed W b 43 (.pointer (some ⟨g, 0, none⟩))) (h0 : J [] W) :
    CallsIn Fence.wide n Try.prog 70 #[.func (.yield l) #[] #[], .pointer (some ⟨b, 0, none⟩)] W fun e W' => (∃ v, e = .returned v) ∧
      ((∃ ys, ys = List.range xs.length ∧ J ys W') ∨ (∃ pre, (pre <+: List.range xs.length) ∧ Jx pre W')) := by
  refine callsIn_of_wp Try.func70 rfl trivial ?_ rfl
  simp only [Try.ntmps70, List.size_toArray, List.length_cons, List.length_nil, Nat.reduceAdd, Nat.reduceSub, Array.replicate_succ, Array.replicate_zero, List.push_toArray, List.append_toArray, List.nil_append, List.cons_append]
  have HC := Aside0.mk hC
  have HOLD := Aside0.mk hold
  have hcb := hb.cell
  have hvb : W.heap[g]? = _ := (hold g hg).trans hblk
  have hcv : W.cell? ⟨g, 1, none⟩ = some (.slice A xs.length c) := by rw [blk_cell hvb]; rfl
  clear hC hold hvb hblk hb
  gi_wp2
  clear hcb hcv
  gi_loopw [10] (fun v10 wr => ∃ (i : Nat), v10 = .int .i64 (i : Int) ∧ Aside0 (i ≤ xs.length) ∧ Aside0 (J (List.range i) wr) ∧ Aside0 (KpV w0 lo hi W wr))
    (fun v10 _ => xs.length - (intOf v10).toNat)
  case atStart => exact ⟨0, rfl, ⟨by omega⟩, ⟨h0⟩, ⟨KpV.refl _ _ _ _⟩⟩
  case round =>
    obtain ⟨i, rfl, HI, HJ, HM⟩ := hrel
    have hi5 : i ≤ 100000 := by have := HI.out; omega
    by_cases hlt : i < xs.length
    · have d1 : decide ((i : Int) < (xs.length : Int)) = true := decide_eq_true (by omega)
      have hCw := came_reads HC.out (W := wr) (fun k hk => (HM.out.old k hk).trans (HOLD.out k hk))
      obtain ⟨ad, rfl, hcell⟩ := Kd.at_int hCw (i : Int) (by omega) (by omega)
      rw [Int.toNat_natCast] at hcell
      obtain ⟨fn, tmps, assign, bd, hy, hR⟩ := hY (List.range i) i wr HJ.out ⟨by simp, hlt⟩
      dsimp only [encV] at hy
      have HLT := Aside0.mk hlt
      clear hCw
      gi_wp2
      refine hR.mono ?_
      rintro e W3 (⟨rfl, hJ3, hk3⟩ | ⟨rfl, hJx3, hk3⟩)
      · have HJ3 := Aside0.mk hJ3
        have HK3 := Aside0.mk hk3
        clear hJ3 hk3 hR hy hcell
        gi_wp2
        go_roundw
        case rel =>
          refine ⟨i + 1, by go_num, ⟨HLT.out⟩, ⟨?_⟩, ⟨HM.out.trans HK3.out⟩⟩
          rw [List.range_succ]
          exact HJ3.out
        case measure => have := HLT.out; simp [intOf]; omega
      · have HJX := Aside0.mk hJx3
        clear hJx3 hk3 hR hy hcell
        gi_wp2
        refine bodyPost_ret (results_none rfl _ _ _) rfl ?_
        refine ⟨⟨_, rfl⟩, .inr ⟨List.range (i + 1), ?_, ?_⟩⟩
        · have h1 := HLT.out
          refine ⟨(List.range (xs.length - (i + 1))).map (· + (i + 1)), ?_⟩
          have h2 := List.range_add (n := i + 1) (m := xs.length - (i + 1))
          rw [show i + 1 + (xs.length - (i + 1)) = xs.length from by omega] at h2
          rw [h2]
          congr 1
          apply List.map_congr_left
          intro x _
          omega
        · rw [List.range_succ]
          exact HJX.out
    · have d1 : decide ((i : Int) < (xs.length : Int)) = false := decide_eq_false (by omega)
      obtain rfl : i = xs.length := by have := HI.out; omega
      gi_wp2
      go_end0
      exact ⟨⟨_, rfl⟩, .inl ⟨_, rfl, HJ.out⟩⟩
theorem all_seen (n : Nat) (hn : 1 ≤ n) (b lo hi g : Nat) (a0 : Int) (A : Option Addr) (c : Nat) (xs : List Int) (w0 w : World) (hbm : lo ≤ b ∧ b < hi) (hhi : hi ≤ w.heap.size) (hg : g < w0.heap.size) (hw : w0.heap.size ≤ w.heap.size) (hxl : xs.length ≤ 100000) (hC : Kd.C (Kd.int .u16) w0 A xs.length xs) (hblk : w0.heap[g]? = some (.cells #[.int .i64 a0, .slice A xs.length c] 86 (0, 0))) (hold : ∀ k, k < w0.heap.size → w.heap[k]? = w0.heap[k]?) (hb : Boxed w b 43 (.pointer (some ⟨g, 0, none⟩))) :
    SeqSeen Fence.wide n Try.prog 70 #[.pointer (some ⟨b, 0, none⟩)] (encV xs) (KpV w0 lo hi) (fun ys _ => ys = List.range xs.length) (fun pre _ => pre <+: List.range xs.length) (fun pre x => x = pre.length ∧ x < xs.length) w := fun l J Jx W hW hJ hY h0 =>
  all1_in n hn l b lo hi g a0 A c xs w0 hbm hg hxl hC hblk J Jx hY W (fun k hk => (hW.block k (by omega)).trans (hold k hk)) ((hW.block b (by omega)).trans hb) h0
theorem feql_nil (cs : Array Value) (W : World) : (binOp .eql 116 (.func (.func 70) #[] cs) .nilFunc).run Try.prog W = .ok (.bool false) W := by kernel_rfl
theorem vfgate_dst_in {F : Fence} {n : Nat} {P : Program} {ops : Array Oper} {rest : List Oper} {o : Oper} {a : Act} {W : World} {Q : Exit → Act → World → Prop} {N : Tmp} (_hN : o.dst = some N) (h : wpListIn F n P ops Q (o :: rest) a W) : wpListIn F n P ops Q (o :: rest) a W := h
theorem vcells_new (W : World) (vs : List Value) (t : TypeId) : ∀ j u', vs[j]? = some u' → (W.alloc (.cells vs.toArray t)).cell? (Addr.add ⟨W.heap.size, 0, none⟩ j) = some u' := by
  intro j u' h
  rw [add_plain, blk_cell (blk_new W _)]
  simpa using h
/-- What has been gathered so far. -/
def VGath (B N : Nat) (most : Int) (xs : List Int) (pre : List Nat) (W : World) : Prop :=
  Boxed W B 3 (.int .i64 most) ∧ Boxed W (B + 1) 28 (.slice none 0 0) ∧ Boxed W (B + 2) 4 (.bool false) ∧ (∃ v, Boxed W (B + 3) 28 v ∧ W.ownsRow N 30 1 v pre.length (nums .u64 (pre.map fun (i : Nat) => rd xs (i : Int))))
theorem VGath.own (B N : Nat) (most : Int) (xs : List Int) : Own (fun pre W => VGath B N most xs pre W) := by
  rintro pre X Y row ⟨h1, h2, h3, ⟨v, h4, h5⟩⟩ hg hr
  have k1 := boxed_own (β := Unit) B 3 (fun _ => .int .i64 most) () X Y row h1 hg hr
  have k2 := boxed_own (β := Unit) (B + 1) 28 (fun _ => .slice none 0 0) () X Y row h2 hg hr
  have k3 := boxed_own (β := Unit) (B + 2) 4 (fun _ => .bool false) () X Y row h3 hg hr
  obtain ⟨v', k4, k5, _⟩ := holdsRow_own (β := Unit) N (B + 3) 28 30 1 (fun _ => pre.length) (fun _ => nums .u64 (pre.map fun (i : Nat) => rd xs (i : Int))) (fun _ _ => True) () X Y row ⟨v, h4, h5, trivial⟩ hg hr
  exact ⟨k1, k2, k3, ⟨v', k4, k5⟩⟩
theorem results_cells2 {fn : Func} {p q : Tmp} {t u : TypeId} (h : fn.results = #[.cell p t, .cell q u]) (tmps : Array Value) (P : Program) (w : World) {b1 b2 : Nat} {v1 v2 : Value} (h1 : tmps.getD p undef = .pointer (some ⟨b1, 0, none⟩)) (h2 : tmps.getD q undef = .pointer (some ⟨b2, 0, none⟩))
    (r1 : (loadVar t ⟨b1, 0, none⟩).run P w = .ok v1 w) (r2 : (loadVar u ⟨b2, 0, none⟩).run P w = .ok v2 w) : (results fn tmps).run P w = .ok (.tuple #[v1, v2]) w := by
  have e : (results fn tmps).run P w = ((asAddr (tmps.getD p undef)).run P w).andThen fun a w₁ => ((loadVar t a).run P w₁).andThen fun v w₂ => ((asAddr (tmps.getD q undef)).run P w₂).andThen fun b w₃ => ((loadVar u b).run P w₃).andThen fun v' w₄ => .ok (.tuple #[v, v']) w₄ := by
    simp only [results, h]
    simp [Sem.run_bind, Result.andThen]
  rw [e, h1, h2, show (asAddr (.pointer (some ⟨b1, 0, none⟩))).run P w = .ok ⟨b1, 0, none⟩ w from rfl]
  simp only [Result.andThen]
  rw [r1]
  simp only [Result.andThen]
  rw [show (asAddr (.pointer (some ⟨b2, 0, none⟩))).run P w = .ok ⟨b2, 0, none⟩ w from rfl]
  simp only [Result.andThen]
  rw [r2]

theorem range_take (xs : List Int) (k : Nat) (hk : k ≤ xs.length) : (List.range k).map (fun i => rd xs ((i : Nat) : Int)) = xs.take k := by
  apply List.ext_getElem?
  intro j
  by_cases h : j < k
  · rw [List.getElem?_map, List.getElem?_range h, Option.map_some, rd_at xs j (by omega), List.getElem?_take, if_pos h, List.getElem?_eq_getElem (by omega)]
  · rw [List.getElem?_eq_none (by simp; omega), List.getElem?_eq_none (by rw [List.length_take]; omega)]
/-- What was gathered, handed back. -/
theorem vgath_ends {w W : World} {N D B : Nat} {v : Value} {xs ys : List Int} (hxs : ys = xs) (hB0 : B = w.heap.size) (hN : w.heap.size ≤ N) (hb3 : Boxed W (B + 3) 28 v) (hb1 : Boxed W (B + 1) 28 (.slice none 0 0)) (hb2 : Boxed W (B + 2) 4 (.bool false)) (hrow : W.ownsRow N 30 1 v ys.length (nums .u64 ys)) (hB : Below w.heap.size w W) (hK : W.heap[D]? = some (.deferred (some []))) (hD : w.heap.size ≤ D) :
    ∃ W2, W2 = ((W.setCell ⟨B + 1, 0, none⟩ v).setCell ⟨B + 2, 0, none⟩ (.bool true)).putObj D (.deferred none) ∧ ((W.setCell ⟨B + 1, 0, none⟩ v).setCell ⟨B + 2, 0, none⟩ (.bool true)).heap[D]? = some (.deferred (some [])) ∧ W2.cell? ⟨B + 1, 0, none⟩ = some v ∧ W2.cell? ⟨B + 2, 0, none⟩ = some (.bool true) ∧ Kd.R (Kd.int .u64) 30 W2 w.heap.size (fun _ => True) v xs ∧ Below w.heap.size w W2 := by
  subst hxs
  have hd1 : B + 1 ≠ D := fun e => by rw [← e, show W.heap[B + 1]? = _ from hb1] at hK; cases hK
  have hd2 : B + 2 ≠ D := fun e => by rw [← e, show W.heap[B + 2]? = _ from hb2] at hK; cases hK
  have k1 := hb1.set v
  have k2 : Boxed _ (B + 1) 28 v := k1.other (B' := B + 2) (by omega) (.bool true)
  have k3 : Boxed _ (B + 2) 4 (.bool true) := (hb2.other (B' := B + 1) (by omega) v).set (.bool true)
  have hKd : ((W.setCell ⟨B + 1, 0, none⟩ v).setCell ⟨B + 2, 0, none⟩ (.bool true)).heap[D]? = some (.deferred (some [])) :=
    (Below.heap_setCell _ ⟨B + 2, 0, none⟩ _ D (by show D ≠ B + 2; omega)).trans ((Below.heap_setCell _ ⟨B + 1, 0, none⟩ _ D (by show D ≠ B + 1; omega)).trans hK)
  have r1 : (W.setCell ⟨B + 1, 0, none⟩ v).ownsRow N 30 1 v ys.length (nums .u64 ys) := hrow.kept (grownBy_setCell' W (B + 1) v) (.inr (hb1.not_row (by decide) hrow).symm)
  have r2 := r1.kept (grownBy_setCell' _ (B + 2) (.bool true)) (.inr ((hb2.other (B' := B + 1) (by omega) v).not_row (by decide) r1).symm)
  have r3 := ownsRow_putObj r2 (.deferred none) hKd rfl
  refine ⟨_, rfl, hKd, ?_, ?_, Kd.R_of_own (by simpa [nums, encs] using own_weaken r3 hN) (fun _ _ => trivial), ?_⟩
  · have h1 : (((W.setCell ⟨B + 1, 0, none⟩ v).setCell ⟨B + 2, 0, none⟩ (.bool true)).putObj D (.deferred none)).heap[B + 1]? = _ := (World.putObj_heap_other hd1).trans k2
    rw [blk_cell h1]
    rfl
  · have h1 : (((W.setCell ⟨B + 1, 0, none⟩ v).setCell ⟨B + 2, 0, none⟩ (.bool true)).putObj D (.deferred none)).heap[B + 2]? = _ := (World.putObj_heap_other hd2).trans k3
    rw [blk_cell h1]
    rfl
  · exact ((hB.setCell (p := ⟨B + 1, 0, none⟩) (by show w.heap.size ≤ B + 1; omega) v).setCell (p := ⟨B + 2, 0, none⟩) (by show w.heap.size ≤ B + 2; omega) _).trans (belowK_b (w := w) (Nat.le_refl _) _ D _ _ hD hKd rfl rfl)
theorem fsize_set (W : World) (p : Addr) (u : Value) : (W.setCell p u).heap.size = W.heap.size := by simp [World.setCell]
/-- 'xs = append(xs, v)', xs a variable in a box: what is left of the world. -/
theorem fpush {W w1 : World} {N B sz : Nat} {t e : TypeId} {v v' : Value} {k m : Nat} {xs ys : List Value} {tmp : Obj} (hb : Boxed W B t v) (hte : t ≠ e) (hrow : W.ownsRow N e sz v k xs) (hown' : w1.ownsRow N e sz v' m ys) (hgrow : (W.alloc tmp).grownBy w1 v.ownBlock) :
    Boxed w1 B t v ∧ Boxed (w1.setCell ⟨B, 0, none⟩ v') B t v' ∧ (w1.setCell ⟨B, 0, none⟩ v').ownsRow N e sz v' m ys ∧ KeepsOthers W (w1.setCell ⟨B, 0, none⟩ v') ∧ W.heap.size ≤ w1.heap.size ∧
    (∀ i, i < W.heap.size → some i ≠ v.ownBlock → w1.heap[i]? = W.heap[i]?) ∧ (∀ i, i < W.heap.size → i ≠ B → some i ≠ v.ownBlock → (w1.setCell ⟨B, 0, none⟩ v').heap[i]? = W.heap[i]?) ∧
    (∀ e' u k' s' zs, W.ownsRow N e' s' u k' zs → e' ≠ e → t ≠ e' → (w1.setCell ⟨B, 0, none⟩ v').ownsRow N e' s' u k' zs) ∧ (∀ n₀, n₀ ≤ B → n₀ ≤ N → N ≤ W.heap.size → Below n₀ W (w1.setCell ⟨B, 0, none⟩ v')) := by
  obtain ⟨h1, h2, h3, h4, h5⟩ := hb.appended (n₀ := 0) hte (own_weaken hrow (Nat.zero_le _)) (Nat.zero_le _) (Nat.zero_le _) (own_weaken hown' (Nat.zero_le _)) hgrow
  have h6 : (w1.setCell ⟨B, 0, none⟩ v').ownsRow N e sz v' m ys := hown'.kept (grownBy_setCell' w1 B v') (.inr (h1.not_row hte hown').symm)
  have hsz : W.heap.size ≤ w1.heap.size := Nat.le_trans (by simp) hgrow.size
  have hbl : ∀ i, i < W.heap.size → some i ≠ v.ownBlock → w1.heap[i]? = W.heap[i]? := fun i hi hno => (hgrow.block i (by simp; omega) hno).trans (Below.heap_alloc W tmp i hi)
  refine ⟨h1, h2, h6, h4, hsz, hbl, fun i hi hne hno => (Below.heap_setCell w1 ⟨B, 0, none⟩ v' i hne).trans (hbl i hi hno), fun e' u k' s' zs hz hee htt => ?_, fun n₀ hnB hnN hnW => ⟨h5.os, h5.tape, h5.output, by have := (KeepsWalks.setCell w1 ⟨B, 0, none⟩ v').size; omega, fun i hi => (Below.heap_setCell w1 ⟨B, 0, none⟩ v' i (by show i ≠ B; omega)).trans (hbl i (by omega) (fun he => by have := own_base hrow i he.symm; omega))⟩⟩
  have hz1 : (W.alloc tmp).ownsRow N e' s' u k' zs := hz.alloc _
  have hz2 : w1.ownsRow N e' s' u k' zs := own_other hz1 hgrow (own_type_ne hz1 (hrow.alloc _) hee)
  exact hz2.kept (grownBy_setCell' w1 B v') (.inr (h1.not_row htt hz2).symm)

theorem load_slice {W : World} {b : Nat} {v : Value} (h : W.cell? ⟨b, 0, none⟩ = some v) : (loadVar 28 ⟨b, 0, none⟩).run Try.prog W = .ok v W := by
  simp [loadVar, isAgg, Sem.run_bind, run_underlying Try.underlying28, load, Sem.run, h, Result.andThen]
theorem load_bool {W : World} {b : Nat} {v : Value} (h : W.cell? ⟨b, 0, none⟩ = some v) : (loadVar 4 ⟨b, 0, none⟩).run Try.prog W = .ok v W := by
  simp [loadVar, isAgg, Sem.run_bind, run_underlying Try.underlying4, load, Sem.run, h, Result.andThen]
set_option maxRecDepth 100000 in
set_option maxHeartbeats 4000000 in
theorem all_calls (g : Nat) (a0 : Int) (xs : List Int) (most : Int) (w : World) (hv : VecAt .u16 86 w g a0 xs) (hxl : xs.length ≤ 100000) (hbx : ∀ x ∈ xs, 0 ≤ x ∧ x < 65536) (hm0 : 0 ≤ most) :
    Calls Try.prog 58 #[.pointer (some ⟨g, 0, none⟩), .int .i64 most] w fun e w' => ∃ v, e = .returned (.tuple #[v, .bool true]) ∧ Kd.R (Kd.int .u64) 30 w' w.heap.size (fun _ => True) v (xs.take most.toNat) ∧ Below w.heap.size w w' := by
  obtain ⟨L, eL⟩ : ∃ L, xs.take most.toNat = L := ⟨_, rfl⟩
  rw [eL]
  have HLE := Aside0.mk eL
  clear eL
  refine (callsIn_wide (n := 4)).1 ?_
  refine callsIn_of_wp_marks Try.func58 rfl trivial ?_ rfl
  simp only [Try.ntmps58, List.size_toArray, List.length_cons, List.length_nil, Nat.reduceAdd, Nat.reduceSub, Array.replicate_succ, Array.replicate_zero, List.push_toArray, List.append_toArray, List.nil_append, List.cons_append]
  have hgl := hv.lt
  obtain ⟨A, c, hblk, hle, hC⟩ := hv
  have HBLK := Aside0.mk hblk
  have HC := Aside0.mk hC
  have HBX := Aside0.mk hbx
  have HXL := Aside0.mk hxl
  have HM0 := Aside0.mk hm0
  have HGL := Aside0.mk hgl
  clear hblk hle hC hbx hgl
  have bM := Boxed.new w 3 (.int .i64 most)
  have bR := Boxed.new (w.alloc (.cells #[.int .i64 most] 3)) 28 (.slice none 0 0)
  have bB := Boxed.new ((w.alloc (.cells #[.int .i64 most] 3)).alloc (.cells #[.slice none 0 0] 28)) 4 (.bool false)
  have bO := Boxed.new (((w.alloc (.cells #[.int .i64 most] 3)).alloc (.cells #[.slice none 0 0] 28)).alloc (.cells #[.bool false] 4)) 28 (.slice none 0 0)
  simp only [World.size_alloc] at bM bR bB bO
  have HBM := Aside0.mk (((bM.alloc (.cells #[.slice none 0 0] 28)).alloc (.cells #[.bool false] 4)).alloc (.cells #[.slice none 0 0] 28))
  have HBR := Aside0.mk ((bR.alloc (.cells #[.bool false] 4)).alloc (.cells #[.slice none 0 0] 28))
  have HBB := Aside0.mk (bB.alloc (.cells #[.slice none 0 0] 28))
  have HBO := Aside0.mk bO
  have HBW := Aside0.mk (show Below w.heap.size w ((((w.alloc (.cells #[.int .i64 most] 3)).alloc (.cells #[.slice none 0 0] 28)).alloc (.cells #[.bool false] 4)).alloc (.cells #[.slice none 0 0] 28)) from below_alloc (below_alloc (below_alloc (below_alloc (Below.refl _ _) _) _) _) _)
  clear bM bR bB bO
  gi_wp2_with fail
  refine ⟨trivial, ?_⟩
  refine (callsIn_wide.2 (vall_calls g _)).mono ?_
  rintro e wL ⟨b, rfl, hbp, hlo, hB⟩
  have hlt : b < wL.heap.size := hbp.lt
  have hlo' : w.heap.size + 4 ≤ b := by simp at hlo; omega
  have hsz : w.heap.size + 4 ≤ wL.heap.size := by omega
  have HBM := Aside0.mk (HBM.out.kept (grown_of_below hB none) (by simp))
  have HBR := Aside0.mk (HBR.out.kept (grown_of_below hB none) (by simp))
  have HBB := Aside0.mk (HBB.out.kept (grown_of_below hB none) (by simp))
  have HBO := Aside0.mk (HBO.out.kept (grown_of_below hB none) (by simp))
  have HBL := Aside0.mk (below_then HBW.out (by simp; omega) hB)
  have HBP := Aside0.mk hbp
  clear hbp hB HBW hlo
  have hnf := feql_nil #[.pointer (some ⟨b, 0, none⟩)]
  gi_wp2
  refine rangeFunc_seen (n := 4) rfl (by omega) (gf := 70) (lb := #[.pointer (some ⟨b, 0, none⟩)]) rfl trivial (enters_of Try.func70 (by kernel_rfl) rfl)
    (all_seen 3 (by omega) b (w.heap.size + 4) wL.heap.size g a0 A c xs w wL ⟨hlo', hlt⟩ (Nat.le_refl _) HGL.out (by omega) HXL.out HC.out HBLK.out (fun k hk => HBL.out.block k hk) HBP.out) (fun h k => h.trans k) ?hKb (Below.refl _ _) (fun _ => rfl)
    (fun pre W => (VGath w.heap.size wL.heap.size most xs pre W ∧ pre = List.range pre.length ∧ pre.length ≤ most.toNat ∧ pre.length ≤ xs.length) ∧ Below w.heap.size w W ∧ wL.heap.size ≤ W.heap.size)
    (fun c pre W => (c = 0 ∧ ∃ ini x, pre = ini ++ [x] ∧ VGath w.heap.size wL.heap.size most xs ini W ∧ ini = List.range ini.length ∧ ini.length = most.toNat ∧ ini.length ≤ xs.length) ∧ Below w.heap.size w W)
    ?hI ?hIx ?hS ?hSp ?h0
    (fun x a' W => a' = { tmps := #[.pointer (some ⟨g, 0, none⟩), .int .i64 most, undef, .pointer (some ⟨w.heap.size, 0, none⟩), .pointer (some ⟨w.heap.size + 1, 0, none⟩), .pointer (some ⟨w.heap.size + 1 + 1, 0, none⟩), .pointer (some ⟨w.heap.size + 1 + 1 + 1, 0, none⟩), .func (.func 70) #[] #[.pointer (some ⟨b, 0, none⟩)], .int .i64 (x : Int), .int .u16 (rd xs (x : Int)), .pointer (some ⟨g, 0, none⟩), .func (.func 70) #[] #[.pointer (some ⟨b, 0, none⟩)], .func (.func 70) #[] #[.pointer (some ⟨b, 0, none⟩)], .bool false, .func (.func 70) #[] #[.pointer (some ⟨b, 0, none⟩)], .int .i64 (x : Int), .int .u16 (rd xs (x : Int)), undef, undef, undef, undef, undef, undef, undef, undef, undef, undef, undef, undef, undef, undef], defers := [] })
    ?hAx ?assign ?body ?done ?stop
  case hKb =>
    intro W l o o' hle hl hc
    have hll := (Array.getElem?_eq_some_iff.1 hl).1
    exact ⟨by simp, fun k hk => (grownBy_putObj' W l o').block k (by omega) (fun e => by cases e; omega), fun k hk1 hk2 => (grownBy_putObj' W l o').block k (by omega) (fun e => by cases e; omega)⟩
  case hI =>
    refine OwnFrom.and (OwnFrom.and (Own.from (VGath.own _ _ _ _) _) (OwnFrom.and (ownFrom_pure _ _) (OwnFrom.and (ownFrom_pure _ _) (ownFrom_pure _ _)))) (OwnFrom.and (ownFrom_below (Nat.le_refl _) (by omega)) ?_)
    intro s X Y row hs hg hr
    exact Nat.le_trans hs hg.size
  case hIx =>
    intro c
    refine OwnFrom.and ?_ (ownFrom_below (Nat.le_refl _) (by omega))
    rintro s X Y row ⟨hc, ini, x, e1, hgt, e2⟩ hg hr
    exact ⟨hc, ini, x, e1, VGath.own _ _ _ _ ini X Y row hgt hg (fun r e => (hr r e).2), e2⟩
  case hS => exact fun ys W l o o' h _ _ _ => h
  case hSp => exact fun ys W l o o' h _ _ _ => h
  case h0 => exact ⟨⟨⟨HBM.out, HBR.out, HBB.out, ⟨_, HBO.out, World.ownsRow_nil _ _ _ _⟩⟩, rfl, Nat.zero_le _, Nat.zero_le _⟩, HBL.out, Nat.le_refl _⟩
  case hAx => exact fun x a' _ X Y row h _ _ => h
  case assign =>
    rintro l pre x W K hI hK
    gi_wp2
    exact hK _ _ (KeepsFrom.refl _ _) (KpV.refl _ _ _ _) hI rfl
  case body =>
    rintro l pre x a' W ⟨⟨⟨hM, hR1, hR2, ⟨v, hvb, hrow⟩⟩, hpr, hlen, hlx⟩, hB, hsW⟩ rfl ⟨hx, hxl2⟩
    obtain ⟨Aa, ca, rfl⟩ := own_slice hrow
    have hcM := hM.cell
    have hcO := hvb.cell
    have HPR := Aside0.mk hpr
    clear hpr
    by_cases hb : most ≤ (pre.length : Int)
    · have hbb : decide (most ≤ (pre.length : Int)) = true := decide_eq_true hb
      have hm0 := HM0.out
      gi_wp2
      exact ⟨KeepsFrom.refl _ _, KpV.refl _ _ _ _, ⟨rfl, pre, x, rfl, ⟨hM, hR1, hR2, ⟨_, hvb, hrow⟩⟩, HPR.out, by omega, hlx⟩, hB⟩
    · have hbb : decide (most ≤ (pre.length : Int)) = false := decide_eq_false hb
      subst hx
      have hxb := HBX.out _ (List.getElem_mem hxl2)
      have hrd := rd_at xs pre.length hxl2
      have hcw : IntKind.u64.wrap (rd xs (pre.length : Int)) = rd xs (pre.length : Int) := by rw [hrd, wrap_u64]; omega
      have HP1 := Aside0.mk (show pre.length + 1 ≤ 100000 by have := HXL.out; omega)
      have HNB := Aside0.mk hb
      have HX2 := Aside0.mk hxl2
      obtain ⟨y, ey⟩ : ∃ y, rd xs (pre.length : Int) = y := ⟨_, rfl⟩
      rw [ey] at hcw ⊢
      have HEY := Aside0.mk ey
      clear hb hlen hlx hxb hrd ey hxl2
      obtain ⟨i3, hi3, hz30, hz31, hz32⟩ := info_parts V64.hinfo
      gi_wp2_with (first | ((with_reducible refine vfgate_dst_in (N := 29) rfl ?_); gi_at_builtin; refine wpListIn_append_own _ rfl _ _ 28 rfl wL.heap.size 30 i3 (.int .u64 0) 1 8 Try.underlying28 hi3 hz30 hz31 hz32 rfl (by decide) _ _ _ rfl (hrow.alloc _) ⟨W.heap.size, 0, none⟩ 1 1 [.int .u64 y] rfl rfl (vcells_new W [.int .u64 y] _) (by simp [Value.oneCell']) (by have := HP1.out; unfold maxLen; omega) (by have := HP1.out; omega) (by simp; omega) ?_; intro v' w1 hown' hgrow _; obtain ⟨g', cap', rfl⟩ := ownsRow_succ hown'; obtain ⟨p1, p2, p3, p4, p5, p6, p7, p8, p9⟩ := fpush hvb (by decide) hrow hown' hgrow; have hcO1 := p1.cell; have hfO1 := p1.frozen))
      have hne : ∀ k, k < wL.heap.size → some k ≠ (Value.slice Aa pre.length ca).ownBlock := fun k hk he => by have := own_base hrow k he.symm; omega
      have hln : (pre ++ [pre.length]).length = pre.length + 1 := by simp
      refine ⟨p4.from _, ⟨?_, ?_, ?_⟩, ⟨⟨?_, ?_, ?_, ⟨_, p2, ?_⟩⟩, ?_, ?_, ?_⟩, ?_, ?_⟩
      · exact Nat.le_trans p5 (Nat.le_of_eq (fsize_set _ _ _).symm)
      · intro k hk
        exact p7 k (by omega) (by omega) (hne k (by omega))
      · intro k hk1 hk2
        exact p7 k (by omega) (by omega) (hne k hk2)
      · exact (p7 w.heap.size (by omega) (by omega) (hne _ (by omega))).trans hM
      · exact (p7 (w.heap.size + 1) (by omega) (by omega) (hne _ (by omega))).trans hR1
      · exact (p7 (w.heap.size + 2) (by omega) (by omega) (hne _ (by omega))).trans hR2
      · rw [hln, List.map_append, List.map_singleton, HEY.out, nums_append]
        exact p3
      · rw [hln, List.range_succ, ← HPR.out]
      · rw [hln]; have := HNB.out; have := HM0.out; omega
      · rw [hln]; exact HX2.out
      · exact hB.trans (p9 _ (by omega) (by omega) hsW)
      · exact Nat.le_trans hsW (Nat.le_trans p5 (Nat.le_of_eq (fsize_set _ _ _).symm))
  case done =>
    rintro D ys W hD hys ⟨⟨⟨hM, hR1, hR2, ⟨v, hvb, hrow⟩⟩, hpr, hlen, hlx⟩, hB, hsW⟩ hK
    have hL : ys.map (fun (i : Nat) => rd xs (i : Int)) = xs.take most.toNat := by
      rw [hys]
      rw [hys, List.length_range] at hlen
      rw [range_take xs xs.length (Nat.le_refl _), List.take_length, List.take_of_length_le hlen]
    rw [HLE.out] at hL
    rw [hL] at hrow
    rw [show ys.length = L.length from by rw [← hL, List.length_map]] at hrow
    obtain ⟨Av, cv, rfl⟩ := own_slice hrow
    obtain ⟨W2, hW2, hKd, hc1, hc2, hRR, hBB⟩ := vgath_ends rfl rfl (by omega) hvb hR1 hR2 hrow hB hK (by omega)
    have hcO := hvb.cell
    have hcR1 := hR1.cell
    have hfR1 := hR1.frozen
    have hk2 := hR2.other (B' := w.heap.size + 1) (by omega) (.slice Av L.length cv)
    have hcR2 := hk2.cell
    have hfR2 := hk2.frozen
    have H1 := Aside0.mk hW2
    have H2 := Aside0.mk hKd
    have H3 := Aside0.mk hc1
    have H4 := Aside0.mk hc2
    have H5 := Aside0.mk hRR
    have H6 := Aside0.mk hBB
    clear hW2 hKd hc1 hc2 hRR hBB hL hrow hM hR1 hR2 hk2
    gi_wp2
    refine ⟨by simp, .inl ⟨_, _, rfl, run_takeDeferred H2.out, ?_⟩⟩
    rw [← H1.out]
    exact ⟨_, results_cells2 rfl _ _ _ rfl rfl (load_slice H3.out) (load_bool H4.out), _, rfl, H5.out, H6.out⟩
  case stop =>
    rintro D c pre W hD hpre ⟨⟨rfl, ini, x, rfl, ⟨hM, hR1, hR2, ⟨v, hvb, hrow⟩⟩, hini, hln, hlx⟩, hB⟩ hK
    have hL : ini.map (fun (i : Nat) => rd xs (i : Int)) = xs.take most.toNat := by
      rw [hini, range_take xs ini.length hlx, hln]
    rw [HLE.out] at hL
    rw [hL] at hrow
    rw [show ini.length = L.length from by rw [← hL, List.length_map]] at hrow
    obtain ⟨Av, cv, rfl⟩ := own_slice hrow
    obtain ⟨W2, hW2, hKd, hc1, hc2, hRR, hBB⟩ := vgath_ends rfl rfl (by omega) hvb hR1 hR2 hrow hB hK (by omega)
    have hcO := hvb.cell
    have hcR1 := hR1.cell
    have hfR1 := hR1.frozen
    have hk2 := hR2.other (B' := w.heap.size + 1) (by omega) (.slice Av L.length cv)
    have hcR2 := hk2.cell
    have hfR2 := hk2.frozen
    have H1 := Aside0.mk hW2
    have H2 := Aside0.mk hKd
    have H3 := Aside0.mk hc1
    have H4 := Aside0.mk hc2
    have H5 := Aside0.mk hRR
    have H6 := Aside0.mk hBB
    clear hW2 hKd hc1 hc2 hRR hBB hL hrow hM hR1 hR2 hk2
    gi_wp2
    refine ⟨by simp, .inl ⟨_, _, rfl, run_takeDeferred H2.out, ?_⟩⟩
    rw [← H1.out]
    exact ⟨_, results_cells2 rfl _ _ _ rfl rfl (load_slice H3.out) (load_bool H4.out), _, rfl, H5.out, H6.out⟩
end Go.Proofs.Ytolncaccemfbdaa.V16

/- Printed by a program of this session (drv.py) from the translation of this seat: functions, their contracts, rows. -/
namespace Go.Proofs.Ytolncaccemfbdaa.PPk
open Go.RowKit Go.Proofs.YtolncaccemfbdaaW.PrintWords Go.Proofs.YtolncaccemfbdaaW.PrintLast Go.Proofs.YtolncaccemfbdaaW.PrintMore
attribute [local go_sem] max2_int min2_int max_two min_two max_three min_three max_four min_four   -- for this text's walks alone
set_option linter.unusedVariables false
set_option linter.unusedSimpArgs false

/-! ### packed_Width_uint8: function 41 -/
def packed_Width_uint8.l0 : Nat → Int → List Int → Int → Int → Option (Int)
  | 0, _, _, _, _ => none
  | k + 1, x3, x6, x7, x8 => if x8 < x7 then (if 0 ≤ x8 then (if x8 < (x6.length : Int) then ((bits_Len64.f (IntKind.u64.wrap (rd x6 x8))).bind fun t154 => (packed_Width_uint8.l0 k (mx x3 t154) x6 x7 (wrap64 (x8 + 1)))) else (none)) else (none)) else (some x3)
def packed_Width_uint8.f (k : Nat) (l0 : List Int) : Option (Int) := packed_Width_uint8.l0 k 0 l0 (l0.length : Int) 0
theorem packed_Width_uint8.mono_l : ∀ k, (∀ y0 y1 y2 y3, LeO (packed_Width_uint8.l0 k y0 y1 y2 y3) (packed_Width_uint8.l0 (k + 1) y0 y1 y2 y3))
  | 0 => fun _ _ _ _ r h => by simp [packed_Width_uint8.l0] at h
  | k + 1 => by
    have ih0 := packed_Width_uint8.mono_l k
    · intro y0 y1 y2 y3
      unfold packed_Width_uint8.l0
      repeat' first
      | (with_reducible exact ih0 _ _ _ _)
      | (with_reducible exact LeO.refl _)
      | (with_reducible exact LeO.none _)
      | (with_reducible refine LeO.ite ?_ ?_)
      | (with_reducible refine LeO.bind ?_ (fun _ => ?_))
      | exact ih0 _ _ _ _
      | exact LeO.none _
      | refine LeO.ite ?_ ?_
      | refine LeO.bind ?_ (fun _ => ?_)
theorem packed_Width_uint8.mono : ∀ a0 k, LeO (packed_Width_uint8.f k a0) (packed_Width_uint8.f (k + 1) a0) := by
  intro a0 k
  have ih0 := packed_Width_uint8.mono_l k
  unfold packed_Width_uint8.f
  repeat' first
      | (with_reducible exact ih0 _ _ _ _)
      | (with_reducible exact LeO.refl _)
      | (with_reducible exact LeO.none _)
      | (with_reducible refine LeO.ite ?_ ?_)
      | (with_reducible refine LeO.bind ?_ (fun _ => ?_))
      | exact ih0 _ _ _ _
      | exact LeO.none _
      | refine LeO.ite ?_ ?_
      | refine LeO.bind ?_ (fun _ => ?_)
set_option maxHeartbeats 8000000 in
set_option maxRecDepth 100000 in
theorem packed_Width_uint8.calls (k : Nat) (A0 : Option Addr) (c0 : Nat) (l0 : List Int) (r : Int) (w : World) (hr0 : Kd.C (Kd.int .u8) w A0 l0.length l0) (hc0 : l0.length ≤ c0) (h : packed_Width_uint8.f k l0 = some r) :
    Calls Try.prog 41 #[.slice A0 l0.length c0] w fun e w' => e = .returned (.int .i64 r) ∧ Below w.heap.size w w' := by
  have HR0 := Aside0.mk hr0
  have HC0 := Aside0.mk hc0
  clear hr0 hc0
  have HB := Aside0.mk (Below.refl w.heap.size w)
  have H : (packed_Width_uint8.l0 k 0 l0 (l0.length : Int) 0) = some r := h
  clear h
  have H' := Aside0.mk H
  clear H
  go_enter Try.func41, Try.ntmps41
  go_wp2
  go_loopg [3, 8] k (fun kq v3 v8 w' => ∃ (x3_1 : Int) (x8_1 : Int), v3 = .int .i64 x3_1 ∧ v8 = .int .i64 x8_1 ∧ Aside0 (packed_Width_uint8.l0 kq x3_1 l0 (l0.length : Int) x8_1 = some r) ∧ Aside0 (kq ≤ k) ∧ Aside0 (Below w.heap.size w w'))
  case atStart => exact ⟨(0), (0), (by first | rfl | (simp; done) | (simp [*]; done)), (by first | rfl | (simp; done) | (simp [*]; done)), H', ⟨Nat.le_refl _⟩, ⟨by repeat (first | (with_reducible first | exact HB.out | apply below_alloc | apply pw_below_drewN | apply below_drew1) | exact HB.out)⟩⟩
  case round =>
    clear H'
    obtain ⟨x3_1, x8_1, rfl, rfl, HA, HK1, HB⟩ := hrel
    cases gk with
    | zero => exact absurd HA.out (by simp [packed_Width_uint8.l0])
    | succ k1 =>
      have H := HA.out
      clear HA
      simp only [packed_Width_uint8.l0] at H
      by_cases c2 : x8_1 < (l0.length : Int)
      · rw [if_pos c2] at H
        have c2b0 : decide (x8_1 < (l0.length : Int)) = true := decide_eq_true c2
        clear c2
        by_cases c3 : 0 ≤ x8_1
        · rw [if_pos c3] at H
          have c3b0 : decide (0 ≤ x8_1) = true := decide_eq_true c3
          clear c3
          by_cases c4 : x8_1 < (l0.length : Int)
          · rw [if_pos c4] at H
            have c4b0 : decide (x8_1 < (l0.length : Int)) = true := decide_eq_true c4
            clear c4
            replace H := Option.bind_eq_some_iff.mp H
            obtain ⟨t154, A50, H⟩ := H
            replace H : (packed_Width_uint8.l0 k1 (mx x3_1 t154) l0 (l0.length : Int) (wrap64 (x8_1 + 1))) = some r := H
            have A5 := Aside0.mk A50
            clear A50
            obtain ⟨ji6, hji6⟩ : ∃ j_ : Int, (mx x3_1 t154) = j_ := ⟨_, rfl⟩
            replace H : (packed_Width_uint8.l0 k1 ji6 l0 (l0.length : Int) (wrap64 (x8_1 + 1))) = some r := by first | (rw [hji6] at H; exact H) | (simp only [hji6] at H ⊢; exact H)
            (try rw [hji6] at A5)
            have hji6_ : (if x3_1 < t154 then t154 else x3_1) = ji6 := hji6
            have H' := Aside0.mk H
            clear H
            have p153 : 0 ≤ (x8_1 : Int) := of_decide_eq_true (by first | (with_reducible assumption) | assumption)
            have q153 : x8_1 < (l0.length : Int) := of_decide_eq_true (by first | (with_reducible assumption) | assumption)
            obtain ⟨ad153, e153, hx153_0⟩ := Kd.at_int HR0.out x8_1 p153 q153
            cases e153
            replace hx153_0 := (HB.out.cell (World.block_lt_of_cell? w _ hx153_0)).trans hx153_0
            replace p153 := eq_true p153
            replace q153 := eq_true q153
            go_wp2_with (first | ((with_reducible refine gate_callee (f := 47) rfl ?_); refine goesL_ (some 15) rfl rfl Try.func47 (by kernel_rfl) rfl #[.int .u64 (IntKind.u64.wrap (rd l0 x8_1))] rfl (by (try simp only [List.map_toArray, List.map_cons, List.map_nil]); first | done | rfl | (simp only [List.length_drop, List.length_take]; rfl)) ?_; (with_reducible refine (bits_Len64.calls (IntKind.u64.wrap (rd l0 x8_1)) t154 _ A5.out).mono ?_); rintro e w' ⟨rfl, ⟨nd, rfl⟩⟩; refine ⟨_, rfl, ?_⟩))
            go_roundg k1
            case measure => have := HK1.out; omega
            case rel => exact ⟨(ji6), (wrap64 (x8_1 + 1)), (by first | rfl | (simp; done) | (simp only [← hji6] <;> (first | rfl | simp)) | (simp [*]; done)), (by first | rfl | (simp; done) | (simp [*]; done)), H', ⟨by have := HK1.out; omega⟩, ⟨by repeat (first | (with_reducible first | exact HB.out | apply below_alloc | apply pw_below_drewN | apply below_drew1) | exact HB.out)⟩⟩
          · rw [if_neg c4] at H
            exact absurd H (by simp)
        · rw [if_neg c3] at H
          exact absurd H (by simp)
      · rw [if_neg c2] at H
        have c2b0 : decide (x8_1 < (l0.length : Int)) = false := decide_eq_false c2
        clear c2
        obtain rfl := Option.some.inj H
        go_wp2
        go_ret
        exact ⟨by first | rfl | (simp [errW_none, errW_some] <;> rfl) | (simp [*, errW_none, errW_some] <;> rfl), by repeat (first | (with_reducible first | exact HB.out | apply below_alloc | apply pw_below_drewN | apply below_drew1) | exact HB.out)⟩

end Go.Proofs.Ytolncaccemfbdaa.PPk

/- Packed numbers of the type uint8: what Width, New, Get, Len tell. -/
namespace Go.Proofs.Ytolncaccemfbdaa.V8
open Go.RowKit Go.Proofs.YtolncaccemfbdaaW.PrintWords Go.Proofs.YtolncaccemfbdaaW.PrintLast Go.Proofs.YtolncaccemfbdaaW.PrintMore
open Go.Proofs.Ytolncaccemfbdaa.Plain Go.Proofs.Ytolncaccemfbdaa.PPk Go.Proofs.Ytolncaccemfbdaa.Hand
set_option linter.unusedVariables false
set_option linter.unusedSimpArgs false
theorem width_go (l : List Int) (hb : ∀ x ∈ l, 0 ≤ x ∧ x < 256) (hl : l.length ≤ 1000000) : ∀ (d k i : Nat), l.length - i = d → d < k → i ≤ l.length → packed_Width_uint8.l0 k (widthL (l.take i) : Int) l (l.length : Int) (i : Int) = some (widthL l : Int) := by
  intro d
  induction d with
  | zero =>
    intro k i hd hk hi
    obtain ⟨k, rfl⟩ : ∃ m, k = m + 1 := ⟨k - 1, by omega⟩
    rw [packed_Width_uint8.l0, if_neg (by omega), show i = l.length from by omega, List.take_length]
  | succ d ih =>
    intro k i hd hk hi
    obtain ⟨k, rfl⟩ : ∃ m, k = m + 1 := ⟨k - 1, by omega⟩
    have hlt : i < l.length := by omega
    have hx := hb _ (List.getElem_mem hlt)
    have hf : bits_Len64.f (IntKind.u64.wrap (rd l (i : Int))) = some (Lib.bitLen (l[i]).toNat : Int) := by
      rw [rd_at l i hlt]
      rw [wrap_u64, Int.emod_eq_of_lt hx.1 (by omega)]
      unfold bits_Len64.f len64F
      rw [if_pos (by omega)]
    rw [packed_Width_uint8.l0, if_pos (by omega), if_pos (by omega), if_pos (by omega), hf, Option.bind_some, mx_cast, w64 (by omega) (by omega)]
    have e : max (widthL (l.take i)) (Lib.bitLen (l[i]).toNat) = widthL (l.take (i + 1)) := by
      rw [List.take_succ_eq_append_getElem hlt, widthL_snoc]
    rw [e, show (i : Int) + 1 = ((i + 1 : Nat) : Int) from by omega]
    exact ih k (i + 1) (by omega) (by omega) (by omega)
theorem width_f (l : List Int) (hb : ∀ x ∈ l, 0 ≤ x ∧ x < 256) (hl : l.length ≤ 1000000) : packed_Width_uint8.f (l.length + 1) l = some (widthL l : Int) := by
  have := width_go l hb hl l.length (l.length + 1) 0 (by omega) (by omega) (by omega)
  rw [List.take_zero, show (widthL [] : Int) = 0 from rfl] at this
  exact this
end Go.Proofs.Ytolncaccemfbdaa.V8

/- concordancelaw6.awake tells true. -/
namespace Go.Proofs.Ytolncaccemfbdaa.Plain
open Go.RowKit Go.Proofs.YtolncaccemfbdaaW.PrintWords Go.Proofs.YtolncaccemfbdaaW.PrintLast Go.Proofs.YtolncaccemfbdaaW.PrintMore
set_option linter.unusedVariables false
set_option linter.unusedSimpArgs false
theorem vbytes_awake : vbytes 3 [1, 2, 3] = [3, 3, 209, 0] := by
  unfold vbytes
  rw [encN_lt (by simp)]
  rfl
theorem newE_awake : newE 3 [1, 2, 3] = 0 := by decide
theorem width_awake : widthL [5] = 3 := by decide
end Go.Proofs.Ytolncaccemfbdaa.Plain
namespace Go.Proofs.Ytolncaccemfbdaa.Hand
open Go.RowKit Go.Proofs.YtolncaccemfbdaaW.PrintWords Go.Proofs.YtolncaccemfbdaaW.PrintLast Go.Proofs.YtolncaccemfbdaaW.PrintMore
open Go.Proofs.Ytolncaccemfbdaa.Plain Go.Proofs.Ytolncaccemfbdaa.PPk
attribute [local go_sem] max2_int min2_int max_two min_two
set_option linter.unusedVariables false
set_option linter.unusedSimpArgs false
theorem C_new (W : World) (k : IntKind) (e : TypeId) (f : Nat × Nat) (xs : List Int) (hm : xs.length ≤ 9223372036854775807) : Kd.C (Kd.int k) (W.alloc (.cells (nums k xs).toArray e f)) (some ⟨W.heap.size, 0, none⟩) xs.length xs := by
  refine Kd.C_of_reads (d := (0 : Int)) (h1 := fun _ => rfl) ⟨rfl, hm, fun _ => ⟨_, rfl, fun j hj => ?_⟩⟩
  rw [add_plain, cell_of_row _ W.heap.size j (nums k xs).toArray e f (blk_new W _)]
  simp [nums, hj]
set_option maxHeartbeats 4000000 in
set_option maxRecDepth 100000 in
theorem awake6_calls (w : World) : Calls Try.prog 11 #[] w fun e w' => e = .returned (.bool true) ∧ Below w.heap.size w w' := by
  have HC3 := Aside0.mk (C_new w .u16 40 (0, 0) [1, 2, 3] (by simp))
  have HB := Aside0.mk (below_alloc (Below.refl w.heap.size w) (.cells #[.int .u16 1, .int .u16 2, .int .u16 3] 40))
  have HB3 := Aside0.mk (show ∀ x ∈ ([1, 2, 3] : List Int), 0 ≤ x ∧ x < 65536 from by decide)
  have HNE := Aside0.mk newE_awake
  have HVB := Aside0.mk vbytes_awake
  have hW8 : packed_Width_uint8.f 2 [5] = some 3 := by
    have h := V8.width_f [5] (by decide) (by simp)
    rw [width_awake] at h
    exact h
  have HW8 := Aside0.mk hW8
  clear hW8
  have hstr : strOfNums [3, 3, 209, 0] = (⟨#[3, 3, 209, 0]⟩ : ByteArray) := by decide +kernel
  go_enter Try.func11, Try.ntmps11
  go_wp2_with (first | (go_at_call 16; refine (V16.new_good 3 _ 3 [1, 2, 3] _ HC3.out (by simp) HB3.out (by simp) HNE.out).mono ?_; rintro e w1 ⟨g, rfl, hg, hV, hb⟩; have HV := Aside0.mk hV; clear hV hg; have n1_ := Aside0.mk (below_step HB.out hb); clear HB; have HB := n1_; clear n1_; clear hb) | (go_at_call 19; refine (V16.bytes_calls g 3 [1, 2, 3] _ HV.out (by decide) (by simp) HB3.out).mono ?_; rintro e w2 ⟨v2, rfl, ho, hb⟩; rw [HVB.out] at ho; obtain ⟨A2, c2, rfl⟩ := Kd.R_slice ho; have hcv := Kd.C_string (P := Try.prog) (A := A2) (c := c2) Try.underlying23 Try.underlying5 Try.underlying9 (Kd.R_reads' ho).2.2; rw [hstr] at hcv; simp only [List.length_cons, List.length_nil, Nat.reduceAdd] at hcv; have n0_ := Aside0.mk (HV.out.below hb); clear HV ho; have HV := n0_; clear n0_; have n1_ := Aside0.mk (below_step HB.out hb); clear HB; have HB := n1_; clear n1_; clear hb) | (go_at_call 30; refine (V16.get_calls g 3 [1, 2, 3] 1 _ HV.out).mono ?_; rintro e w3 ⟨rfl, rfl⟩; have HC5 := Aside0.mk (C_new w3 .u8 5 (0, 0) [5] (by simp)); have n1_ := Aside0.mk (below_alloc HB.out (.cells #[.int .u8 5] 5)); clear HB; have HB := n1_; clear n1_) | (go_at_call 41; refine (packed_Width_uint8.calls 2 _ 1 [5] 3 _ HC5.out (by simp) HW8.out).mono ?_; rintro e w4 ⟨rfl, hb⟩; have n1_ := Aside0.mk (below_step HB.out hb); clear HB; have HB := n1_; clear n1_; clear hb))
  go_ret
  exact ⟨rfl, HB.out⟩
end Go.Proofs.Ytolncaccemfbdaa.Hand

/- The document's Bytes of packed numbers, walked by hand: it tells what Bytes tells. -/
namespace Go.Proofs.Ytolncaccemfbdaa.Hand
open Go.RowKit Go.Proofs.YtolncaccemfbdaaW.PrintWords Go.Proofs.YtolncaccemfbdaaW.PrintLast Go.Proofs.YtolncaccemfbdaaW.PrintMore
open Go.Proofs.Ytolncaccemfbdaa.Plain Go.Proofs.Ytolncaccemfbdaa.PPk
attribute [local go_sem] max2_int min2_int max_two min_two
set_option linter.unusedVariables false
set_option linter.unusedSimpArgs false
theorem new_row {B : Nat} {w W : World} (_h : Below B w W) (y : Int) (t : TypeId) : Kd.C (Kd.int .u8) (W.alloc (.cells #[.int .u8 y] t)) (some ⟨W.heap.size, 0, none⟩) 1 [y] := C_new W .u8 t (0, 0) [y] (by simp)
theorem quo7 {n q : Nat} : Int.tdiv (((n * q : Nat) : Int) + 7) 8 = (sizeN n q : Int) := by
  rw [Int.tdiv_eq_ediv_of_nonneg (by omega)]
  unfold sizeN
  omega
def rb.T10 : Bool × List (List Nat × List Nat) := (true, [([], []), ([], []), ([1], [1]), ([], []), ([], []), ([4], [4]), ([3, 5], [3, 5]), ([6], [6]), ([], []), ([8], [8]), ([9], [9]), ([7, 10], [7, 10]), ([0, 2, 0, 1, 2, 3, 4, 5, 6, 7, 8, 9, 10, 11], [0, 2]), ([12, 11, 0, 1, 2, 3, 4, 5, 6, 7, 8, 9, 10, 11], [11, 12])])
def rb.B10 : List Nat := [0, 0, 2, 0, 0, 16, 56, 120, 0, 256, 768, 2040, 4095, 8191]
theorem rb.tab10 : rtab .any (opsOf Try.f36 10) = rb.T10 := by kernel_rfl
theorem rb.bits10 : waitsOk rb.T10.2 rb.B10 = true := by kernel_rfl
def rb.T11 : Bool × List (List Nat × List Nat) := (true, [([], []), ([0], [0]), ([1], [1]), ([2], [2]), ([], []), ([4], [4]), ([5], [5]), ([6], [6]), ([3, 7], [3, 7]), ([], []), ([9], [9]), ([8, 10], [8, 10]), ([11, 3, 0, 1, 2, 3, 4, 5, 6, 7, 8, 9, 10, 11], [11])])
def rb.B11 : List Nat := [0, 1, 3, 7, 0, 16, 48, 112, 255, 0, 512, 2047, 4095]
theorem rb.tab11 : rtab .any (opsOf Try.f36 11) = rb.T11 := by kernel_rfl
theorem rb.bits11 : waitsOk rb.T11.2 rb.B11 = true := by kernel_rfl
set_option maxHeartbeats 8000000 in
set_option maxRecDepth 100000 in
theorem refbytes_calls (q : Nat) (A1 : Option Addr) (c1 : Nat) (l : List Int) (w : World) (hr1 : Kd.C (Kd.int .u64) w A1 l.length l) (hc1 : l.length ≤ c1) (hq : q ≤ 64) (hn : l.length ≤ 100000) (hb : ∀ x ∈ l, 0 ≤ x ∧ x < 18446744073709551616) :
    Calls Try.prog 36 #[.int .i64 (q : Int), .slice A1 l.length c1] w fun e w' => e = .returned (.string (strOfNums (vbytes q l))) ∧ Below w.heap.size w w' := by
  have HC := Aside0.mk hr1
  have HN := Aside0.mk hn
  have HQ := Aside0.mk hq
  have HBB := Aside0.mk hb
  have HB := Aside0.mk (Below.refl w.heap.size w)
  have hsz := size_le hn hq
  have hquo := Aside0.mk (quo7 (n := l.length) (q := q))
  obtain ⟨NW, eNW⟩ : ∃ NW, l.length * q = NW := ⟨_, rfl⟩
  have hmul : (l.length : Int) * (q : Int) = (NW : Int) := by rw [← eNW]; exact (Int.natCast_mul l.length q).symm
  obtain ⟨sz, esz⟩ : ∃ sz, sizeN l.length q = sz := ⟨_, rfl⟩
  rw [eNW, esz] at hquo
  rw [eNW, esz] at hsz
  have hN7 : (NW : Int) ≤ 6400000 := by omega
  have hS7 : (sz : Int) ≤ 800000 := by omega
  have HSZ := Aside0.mk hsz
  have HNW := Aside0.mk eNW
  have HESZ := Aside0.mk esz
  have hnI : (l.length : Int) ≤ 100000 := by omega
  replace hquo := hquo.out
  clear hr1 hb hsz eNW esz hn hq
  go_enter Try.func36, Try.ntmps36
  go_wp2_with (first | ((with_reducible refine gate_dst (N := 15) rfl ?_); refine Kd.R_make (Kd.int .u8) (w0 := w) w.heap.size 5 rfl (N := 15) rfl 23 _ _ rfl (sz : Int) rfl rfl Try.underlying23 (.int .u8 0) 1 hinfo_u8 rfl (by decide) (by decide) (0 : Int) (ok := fun _ => True) (okp := fun _ => True) rfl (fun _ h => h) trivial (Int.natCast_nonneg _) (by have := HSZ.out; omega) HB.out (Nat.le_refl _) ?_; intro v1 w1 ho hb hg hat; rw [Int.toNat_natCast, ← leB_zero] at ho; obtain ⟨Ab, cb, rfl⟩ := Kd.R_slice ho; rw [leB_length] at ho; rw [leB_length]; have HV := Aside0.mk ho; clear HB; have HB := Aside0.mk hb; clear ho hb hg hat))
  clear hquo hmul
  go_loopg [6, 7, 8] l.length (fun kq v6 v7 v8 w' => ∃ i : Nat, v6 = .int .i64 (i : Int) ∧ Aside0 (i ≤ l.length ∧ l.length - i ≤ kq) ∧ Aside0 (Kd.R (Kd.int .u8) 5 w' w.heap.size (fun _ => True) (.slice Ab sz cb) (leB (packN q (l.take i)) sz)) ∧ Aside0 (Below w.heap.size w w'))
  case atStart => exact ⟨0, rfl, ⟨by omega, by omega⟩, ⟨HV.out⟩, ⟨HB.out⟩⟩
  case round =>
    clear HV HB
    obtain ⟨i, rfl, HI, HV, HB⟩ := hrel
    have hi5 : i ≤ 100000 := by have := HI.out; have := HN.out; omega
    by_cases k1 : i < l.length
    · have d1 : decide ((i : Int) < (l.length : Int)) = true := decide_eq_true (by omega)
      have hcell0 := Kd.at_int HC.out (i : Int) (by omega) (by omega)
      obtain ⟨ad, rfl, hcell⟩ := hcell0
      rw [Int.toNat_natCast] at hcell
      have hxb := HBB.out _ (List.getElem_mem k1)
      rw [rd_at l i k1] at hcell
      have hgd : l.getD i 0 = l[i] := by rw [List.getD_eq_getElem?_getD, List.getElem?_eq_getElem k1, Option.getD_some]
      obtain ⟨x, hx⟩ := Int.eq_ofNat_of_zero_le hxb.1
      rw [hx] at hcell hxb hgd
      have HXN := Aside0.mk (show x < 18446744073709551616 by omega)
      have HGD := Aside0.mk hgd
      have HK1 := Aside0.mk k1
      have HCE := Aside0.mk hcell
      obtain ⟨IW, eIW⟩ : ∃ IW, i * q = IW := ⟨_, rfl⟩
      have hmul2 : (i : Int) * (q : Int) = (IW : Int) := by rw [← eIW]; exact (Int.natCast_mul i q).symm
      have hIWN : ∀ k, k < q → IW + k < NW := fun k hk => by rw [← eIW, ← HNW.out]; exact place_lt k1 hk
      have hIWm : IW ≤ NW := by rw [← eIW, ← HNW.out]; exact Nat.mul_le_mul_right q (Nat.le_of_lt k1)
      have HIW := Aside0.mk (And.intro eIW hIWN)
      have hIWI : (IW : Int) ≤ 6400000 := by omega
      clear hcell hxb hgd hx eIW hIWN hIWm
      go_wp2
      obtain ⟨wo, hwo⟩ : ∃ wo, wo = wr := ⟨_, rfl⟩
      rw [← hwo]
      go_loopg [7, 8] 65 (fun kq v7 v8 w' => ∃ k : Nat, v7 = .int .i64 (k : Int) ∧ Aside0 (k ≤ q ∧ q - k ≤ kq) ∧ Aside0 (Kd.R (Kd.int .u8) 5 w' w.heap.size (fun _ => True) (.slice Ab sz cb) (leB (partN q l i k) sz)) ∧ Aside0 (Below w.heap.size w w'))
      case atStart => exact ⟨0, rfl, ⟨by omega, by have := HQ.out; omega⟩, ⟨by rw [partN_zero, hwo]; exact HV.out⟩, ⟨by rw [hwo]; exact HB.out⟩⟩
      case round =>
        obtain ⟨k, rfl, HK, HV2, HB5⟩ := hrel
        by_cases k2 : k < q
        · have d2 : decide ((k : Int) < (q : Int)) = true := decide_eq_true (by omega)
          have hcellr := (HB5.out.cell (World.block_lt_of_cell? _ _ HCE.out)).trans HCE.out
          have hps := place_size HK1.out k2
          rw [HESZ.out] at hps
          have hq64 := HQ.out
          have hsh0 : (x : Int) / 2 ^ k = ((x / 2 ^ k : Nat) : Int) := by rw [Int.natCast_ediv, Int.natCast_pow]; rfl
          have hxl : x / 2 ^ k < 18446744073709551616 := Nat.lt_of_le_of_lt (Nat.div_le_self _ _) (by have := HXN.out; omega)
          obtain ⟨bt, hbt⟩ : ∃ bt : Nat, x / 2 ^ k % 2 = bt := ⟨_, rfl⟩
          obtain ⟨xs, hxs⟩ : ∃ xs : Nat, x / 2 ^ k = xs := ⟨_, rfl⟩
          rw [hxs] at hsh0 hxl
          have hb2 : bt < 2 := by rw [← hbt]; exact Nat.mod_lt _ (by decide)
          have hbit : Go.bits .and .u64 (xs : Int) 1 = (bt : Int) := by
            rw [← hbt, hxs]
            exact bit_u64 _ hxl
          have hsh2 : (x : Int) / 2 ^ min k 64 = (xs : Int) := by rw [Nat.min_eq_left (by omega)]; exact hsh0
          have HKK := Aside0.mk (And.intro k2 hq64)
          by_cases kb : bt = 1
          · obtain ⟨gb, cb2, eb, hb1, hb2, hb3, hb4⟩ := Kd.R_form HV2.out (by rw [leB_length]; omega)
            rw [leB_length] at eb
            injection eb with eb1 eb2 eb3
            subst eb1
            clear eb2 eb3 hb1 hb2 hb3 hb4
            subst kb
            obtain ⟨p, hp⟩ : ∃ p : Int, p = ((i * q + k : Nat) : Int) := ⟨_, rfl⟩
            have hpe : (IW : Int) + (k : Int) = p := by rw [hp, HIW.out.1]; rfl
            have hp0 : 0 ≤ p := by omega
            have hpm : p < 6400008 := by have := HIW.out.2 k k2; omega
            have hp8 : p < 8 * (sz : Int) := by omega
            obtain ⟨j, hj⟩ : ∃ j, Int.tdiv p 8 = j := ⟨_, rfl⟩
            obtain ⟨m, hm⟩ : ∃ m, Int.tmod p 8 = m := ⟨_, rfl⟩
            have hj0 : 0 ≤ j ∧ j < (sz : Int) ∧ 0 ≤ m ∧ m < 8 := by
              rw [← hj, ← hm, Int.tdiv_eq_ediv_of_nonneg hp0, Int.tmod_eq_emod_of_nonneg hp0]
              omega
            obtain ⟨q5, q6, q7, q8⟩ := hj0
            obtain ⟨s8, hs8⟩ : ∃ s8 : Int, shl .u8 1 m = s8 := ⟨_, rfl⟩
            have hset := pack_set HK1.out k2 hp hj hm (s8 := s8) (by rw [HGD.out, Int.toNat_natCast, hbt]; exact hs8)
            rw [HESZ.out] at hset
            obtain ⟨LB, eLB⟩ : ∃ LB, leB (partN q l i k) sz = LB := ⟨_, rfl⟩
            rw [eLB] at HV2 hset
            have hLBl : LB.length = sz := by rw [← eLB, leB_length]
            have HSET := Aside0.mk hset
            have hs8_ : (IntKind.u8.wrap (1 * 2 ^ min m.toNat 8)) = s8 := hs8
            have hs8z : m ≤ 8 → (IntKind.u8.wrap (1 * 2 ^ m.toNat)) = s8 := shl_small hs8
            have hs8u : (IntKind.u8.wrap (2 ^ min m.toNat 8)) = s8 := by have h_ := hs8_; rw [Int.one_mul] at h_; exact h_
            have hs8v : m ≤ 8 → (IntKind.u8.wrap (2 ^ m.toNat)) = s8 := fun hle_ => by have h_ := hs8z hle_; rw [Int.one_mul] at h_; exact h_
            have j7' := eq_true q7
            have j7d : decide (0 ≤ m) = true := decide_eq_true q7
            have cj0 := eq_true q5
            have cj0d : decide (0 ≤ j) = true := decide_eq_true q5
            have cj1d : decide (j < (sz : Int)) = true := decide_eq_true q6
            have hjw : wrap64 j = j := w64 (by omega) (by have := HSZ.out; omega)
            have HJ := Aside0.mk (And.intro q5 q6)
            clear hset eLB hps hbt hxs hxl hp8 hp q5 q6 q7 q8
            go_wp2
            have HV1 := Aside0.mk (Kd.R_drew HV2.out)
            have HB1 := Aside0.mk (below_drew1 HB5.out)
            clear HV2 HB5 hcellr
            have q5 : 0 ≤ j := HJ.out.1
            have q6 : j < (sz : Int) := HJ.out.2
            have GG := Aside0.mk (And.intro (Kd.R_base HV1.out gb rfl) (Kd.R_typed HV1.out gb rfl))
            obtain ⟨hx1_, hf1_⟩ := Kd.R_celln 0 HV1.out j q5 q6
            have q5' := eq_true q5
            have q6' := eq_true q6
            have HP2 := Aside0.mk (Kd.R_putn HV1.out j (Go.bits .or .u8 (rd LB j) s8))
            refine start_ (n := 14) (S := fun w' => w'.cell? ⟨gb, j.toNat, none⟩ = some (.int .u8 (rd LB j))) (ds := [13]) #[false, false, false, false, false, false, false, false, false, false, false, false, false, false] (by kernel_rfl) rfl rfl hx1_ (fun hHeld => ?_)
            refine with_tabW rb.tab10 rb.bits10 (fun HT_ HW_ => ?_)
            generalize wr.drew = w26 at HV1 HB1 GG HP2 hf1_ hx1_ hHeld ⊢
            refine pure_ (i := 0) (N := some 40) (v := ?_) (a' := ?_) #[true, false, false, false, false, false, false, false, false, false, false, false, false, false] rfl rfl (any_of HT_.out (by kernel_rfl)) (fun _ _ _ h => h) (Or.inl ⟨by rfl, ?_⟩) ?_ ?_
            rotate_left
            · intro w'
              go_simp
              with_reducible rfl
            rotate_left
            · simp only [Act.put, List.setIfInBounds_toArray, List.set_cons_zero, List.set_cons_succ, i64_w, i32_w]
              rfl
            refine pure_ (i := 1) (N := some 41) (v := ?_) (a' := ?_) #[true, true, false, false, false, false, false, false, false, false, false, false, false, false] rfl rfl (any_of HT_.out (by kernel_rfl)) (fun _ _ _ h => h) (Or.inl ⟨by rfl, ?_⟩) ?_ ?_
            rotate_left
            · intro w'
              go_simp
              with_reducible rfl
            rotate_left
            · simp only [Act.put, List.setIfInBounds_toArray, List.set_cons_zero, List.set_cons_succ, i64_w, i32_w]
              rfl
            refine pure_ (i := 2) (N := some 42) (v := ?_) (a' := ?_) #[true, true, true, false, false, false, false, false, false, false, false, false, false, false] rfl rfl (any_of HT_.out (by kernel_rfl)) (fun _ _ _ h => h) (Or.inl ⟨by rfl, ?_⟩) ?_ ?_
            rotate_left
            · intro w'
              go_simp
              with_reducible rfl
            rotate_left
            · simp only [Act.put, List.setIfInBounds_toArray, List.set_cons_zero, List.set_cons_succ, i64_w, i32_w]
              rfl
            refine pure_ (i := 3) (N := some 43) (v := ?_) (a' := ?_) #[true, true, true, true, false, false, false, false, false, false, false, false, false, false] rfl rfl (any_of HT_.out (by kernel_rfl)) (fun _ _ _ h => h) (Or.inl ⟨by rfl, ?_⟩) ?_ ?_
            rotate_left
            · intro w'
              go_simp
              with_reducible rfl
            rotate_left
            · simp only [Act.put, List.setIfInBounds_toArray, List.set_cons_zero, List.set_cons_succ, i64_w, i32_w]
              rfl
            refine pure_ (i := 4) (N := some 44) (v := ?_) (a' := ?_) #[true, true, true, true, true, false, false, false, false, false, false, false, false, false] rfl rfl (any_of HT_.out (by kernel_rfl)) (fun _ _ _ h => h) (Or.inl ⟨by rfl, ?_⟩) ?_ ?_
            rotate_left
            · intro w'
              go_simp
              with_reducible rfl
            rotate_left
            · simp only [Act.put, List.setIfInBounds_toArray, List.set_cons_zero, List.set_cons_succ, i64_w, i32_w]
              rfl
            refine pure_ (i := 5) (N := some 45) (v := ?_) (a' := ?_) #[true, true, true, true, true, true, false, false, false, false, false, false, false, false] rfl rfl (any_of HT_.out (by kernel_rfl)) (fun _ _ _ h => h) (Or.inl ⟨by rfl, ?_⟩) ?_ ?_
            rotate_left
            · intro w'
              go_simp
              with_reducible rfl
            rotate_left
            · simp only [Act.put, List.setIfInBounds_toArray, List.set_cons_zero, List.set_cons_succ, i64_w, i32_w]
              rfl
            refine pure_ (i := 6) (N := some 46) (v := ?_) (a' := ?_) #[true, true, true, true, true, true, true, false, false, false, false, false, false, false] rfl rfl (any_of HT_.out (by kernel_rfl)) (fun _ _ _ h => h) (Or.inl ⟨by rfl, ?_⟩) ?_ ?_
            rotate_left
            · intro w'
              go_simp
              with_reducible rfl
            rotate_left
            · simp only [Act.put, List.setIfInBounds_toArray, List.set_cons_zero, List.set_cons_succ, i64_w, i32_w]
              rfl
            refine take_ (i := 7) (N := some 47) (v := ?_) (a' := ?_) #[true, true, true, true, true, true, true, true, false, false, false, false, false, false] rfl rfl (take_ofW HT_.out HW_.out (by kernel_rfl)) (fun _ _ _ h => h) (Or.inl ⟨by rfl, ?_⟩) hHeld ?_ ?_
            rotate_left
            · intro w' s0
              go_simp
              with_reducible rfl
            rotate_left
            · simp only [Act.put, List.setIfInBounds_toArray, List.set_cons_zero, List.set_cons_succ, i64_w, i32_w]
              rfl
            refine pure_ (i := 8) (N := some 48) (v := ?_) (a' := ?_) #[true, true, true, true, true, true, true, true, true, false, false, false, false, false] rfl rfl (any_of HT_.out (by kernel_rfl)) (fun _ _ _ h => h) (Or.inl ⟨by rfl, ?_⟩) ?_ ?_
            rotate_left
            · intro w'
              go_simp
              with_reducible rfl
            rotate_left
            · simp only [Act.put, List.setIfInBounds_toArray, List.set_cons_zero, List.set_cons_succ, i64_w, i32_w]
              rfl
            refine pure_ (i := 9) (N := some 49) (v := ?_) (a' := ?_) #[true, true, true, true, true, true, true, true, true, true, false, false, false, false] rfl rfl (any_of HT_.out (by kernel_rfl)) (fun _ _ _ h => h) (Or.inl ⟨by rfl, ?_⟩) ?_ ?_
            rotate_left
            · intro w'
              go_simp
              with_reducible rfl
            rotate_left
            · simp only [Act.put, List.setIfInBounds_toArray, List.set_cons_zero, List.set_cons_succ, i64_w, i32_w]
              rfl
            refine pure_ (i := 10) (N := some 50) (v := ?_) (a' := ?_) #[true, true, true, true, true, true, true, true, true, true, true, false, false, false] rfl rfl (any_of HT_.out (by kernel_rfl)) (fun _ _ _ h => h) (Or.inl ⟨by rfl, ?_⟩) ?_ ?_
            rotate_left
            · intro w'
              go_simp
              with_reducible rfl
            rotate_left
            · simp only [Act.put, List.setIfInBounds_toArray, List.set_cons_zero, List.set_cons_succ, i64_w, i32_w]
              rfl
            refine pure_ (i := 11) (N := some 51) (v := ?_) (a' := ?_) #[true, true, true, true, true, true, true, true, true, true, true, true, false, false] rfl rfl (any_of HT_.out (by kernel_rfl)) (fun _ _ _ h => h) (Or.inl ⟨by rfl, ?_⟩) ?_ ?_
            rotate_left
            · intro w'
              go_simp
              with_reducible rfl
            rotate_left
            · simp only [Act.put, List.setIfInBounds_toArray, List.set_cons_zero, List.set_cons_succ, i64_w, i32_w]
              rfl
            refine pure_ (i := 12) (N := some 52) (v := ?_) (a' := ?_) #[true, true, true, true, true, true, true, true, true, true, true, true, true, false] rfl rfl (any_of HT_.out (by kernel_rfl)) (fun _ _ _ h => h) (Or.inl ⟨by rfl, ?_⟩) ?_ ?_
            rotate_left
            · intro w'
              go_simp
              with_reducible rfl
            rotate_left
            · simp only [Act.put, List.setIfInBounds_toArray, List.set_cons_zero, List.set_cons_succ, i64_w, i32_w]
              rfl
            refine last_ (i := 13) (N := none) #[true, true, true, true, true, true, true, true, true, true, true, true, true, true] rfl rfl (one_of HT_.out (by kernel_rfl)) (by decide) (fun K hK => ?_)
            refine skip_ (w1 := ?_) (by rfl) rfl ?_ ?_
            rotate_left
            · go_simp
              rfl
            refine hK.out _ _ ?_
            clear hK K
            refine done_ (done_of HT_.out (by kernel_rfl)) ?_
            go_wp2
            have HB9 := Aside0.mk (below_set (j := j.toNat) (v := .int .u8 (Go.bits .or .u8 (rd LB j) s8)) HB1.out GG.out.1)
            go_roundg (q - 1 - k)
            case measure => have := HK.out; have := HKK.out; omega
            case rel =>
              refine ⟨k + 1, by go_num, ⟨by have := HKK.out; omega, by omega⟩, ⟨?_⟩, ⟨HB9.out⟩⟩
              rw [← HSET.out]
              exact HP2.out
          · have hb0 : bt = 0 := by omega
            subst hb0
            have hst := partN_step q l i k
            rw [HGD.out, Int.toNat_natCast, hbt, Nat.zero_mul, Nat.add_zero] at hst
            have HST := Aside0.mk hst
            clear hst hps hbt hxs hxl kb
            go_wp2
            go_roundg (q - 1 - k)
            case measure => have := HK.out; have := HKK.out; omega
            case rel => exact ⟨k + 1, by go_num, ⟨by have := HKK.out; omega, by omega⟩, ⟨by rw [HST.out]; exact HV2.out⟩, ⟨HB5.out⟩⟩
        · have d2 : decide ((k : Int) < (q : Int)) = false := decide_eq_false (by omega)
          obtain rfl : k = q := by have := HK.out.1; omega
          go_wp2
          go_roundg (l.length - 1 - i)
          case measure => have := HI.out; have := HK1.out; omega
          case rel =>
            refine ⟨i + 1, by go_num, ⟨by have := HK1.out; omega, by omega⟩, ⟨?_⟩, ⟨HB5.out⟩⟩
            rw [← partN_full k l i HK1.out]
            exact HV2.out
    · have d1 : decide ((i : Int) < (l.length : Int)) = false := decide_eq_false (by omega)
      obtain rfl : i = l.length := by have := HI.out.1; omega
      rw [List.take_length] at HV
      have hrb := (Kd.R_reads' HV.out).2
      obtain ⟨BL, eBL⟩ : ∃ BL, leB (packN q l) sz = BL := ⟨_, rfl⟩
      have hBl : BL.length = sz := by rw [← eBL, leB_length]
      rw [eBL] at hrb
      subst hBl
      have hen := encN_len64 (n := l.length) (by omega)
      have hnum := ref_num (x := (l.length : Int)) (by omega) (by omega) (k := 10) (Nat.le_refl _)
      rw [Int.toNat_natCast] at hnum
      have hvb : vbytes q l = encN l.length ++ [(q : Int)] ++ BL := by
        unfold vbytes
        rw [HESZ.out, eBL]
      obtain ⟨H, eH⟩ : ∃ H, encN l.length = H := ⟨_, rfl⟩
      rw [eH] at hen hnum hvb
      have hs1 := strOfNums_append H [(q : Int)]
      have hs2 := strOfNums_append (H ++ [(q : Int)]) BL
      rw [← hvb] at hs2
      obtain ⟨H2, eH2⟩ : ∃ H2, H ++ [(q : Int)] = H2 := ⟨_, rfl⟩
      have hH2 : H2.length ≤ 11 := by rw [← eH2, List.length_append]; simp only [List.length_singleton]; omega
      rw [eH2] at hs1 hs2
      have HC1 := Aside0.mk (show ¬ 9223372036854775807 < (strOfNums H).size + (strOfNums [(q : Int)]).size by rw [strOfNums_size, strOfNums_size]; simp only [List.length_singleton]; omega)
      have HC2 := Aside0.mk (show ¬ 9223372036854775807 < (strOfNums H2).size + (strOfNums BL).size by rw [strOfNums_size, strOfNums_size]; have := HSZ.out; omega)
      have HRB := Aside0.mk hrb
      have HNUM := Aside0.mk hnum
      have hu1 : IntKind.u64.wrap (l.length : Int) = (l.length : Int) := by rw [wrap_u64]; omega
      have hu2 : IntKind.u8.wrap (q : Int) = (q : Int) := by have := HQ.out; rw [Go.IntKind.wrap_u8]; omega
      have hu3 : (q : Int) % 256 = (q : Int) := by have := HQ.out; omega
      have hu4 : (l.length : Int) % 18446744073709551616 = (l.length : Int) := by omega
      clear HV hrb eBL hen hnum hvb eH eH2 hH2 HI HSZ HNW HESZ
      go_wp2
      refine start_ (n := 13) (S := fun w' => Below wr.heap.size wr w') (ds := []) #[false, false, false, false, false, false, false, false, false, false, false, false, false] (by kernel_rfl) rfl rfl (below_drew1 (Below.refl _ _)) (fun hHeld => ?_)
      refine with_tabW rb.tab11 rb.bits11 (fun HT_ HW_ => ?_)
      refine pure_ (i := 0) (N := some 53) (v := ?_) (a' := ?_) #[true, false, false, false, false, false, false, false, false, false, false, false, false] rfl rfl (any_of HT_.out (by kernel_rfl)) (fun _ _ _ h => h) (Or.inl ⟨by rfl, ?_⟩) ?_ ?_
      rotate_left
      · intro w'
        go_simp
        with_reducible rfl
      rotate_left
      · simp only [Act.put, List.setIfInBounds_toArray, List.set_cons_zero, List.set_cons_succ, i64_w, i32_w]
        rfl
      refine pure_ (i := 1) (N := some 54) (v := ?_) (a' := ?_) #[true, true, false, false, false, false, false, false, false, false, false, false, false] rfl rfl (any_of HT_.out (by kernel_rfl)) (fun _ _ _ h => h) (Or.inl ⟨by rfl, ?_⟩) ?_ ?_
      rotate_left
      · intro w'
        go_simp
        with_reducible rfl
      rotate_left
      · simp only [Act.put, List.setIfInBounds_toArray, List.set_cons_zero, List.set_cons_succ, i64_w, i32_w]
        rfl
      refine pure_ (i := 2) (N := some 55) (v := ?_) (a' := ?_) #[true, true, true, false, false, false, false, false, false, false, false, false, false] rfl rfl (any_of HT_.out (by kernel_rfl)) (fun _ _ _ h => h) (Or.inl ⟨by rfl, ?_⟩) ?_ ?_
      rotate_left
      · intro w'
        go_simp
        with_reducible rfl
      rotate_left
      · simp only [Act.put, List.setIfInBounds_toArray, List.set_cons_zero, List.set_cons_succ, i64_w, i32_w]
        rfl
      refine pure_ (i := 4) (N := some 57) (v := ?_) (a' := ?_) #[true, true, true, false, true, false, false, false, false, false, false, false, false] rfl rfl (any_of HT_.out (by kernel_rfl)) (fun _ _ _ h => h) (Or.inl ⟨by rfl, ?_⟩) ?_ ?_
      rotate_left
      · intro w'
        go_simp
        with_reducible rfl
      rotate_left
      · simp only [Act.put, List.setIfInBounds_toArray, List.set_cons_zero, List.set_cons_succ, i64_w, i32_w]
        rfl
      refine pure_ (i := 5) (N := some 58) (v := ?_) (a' := ?_) #[true, true, true, false, true, true, false, false, false, false, false, false, false] rfl rfl (any_of HT_.out (by kernel_rfl)) (fun _ _ _ h => h) (Or.inl ⟨by rfl, ?_⟩) ?_ ?_
      rotate_left
      · intro w'
        go_simp
        with_reducible rfl
      rotate_left
      · simp only [Act.put, List.setIfInBounds_toArray, List.set_cons_zero, List.set_cons_succ, i64_w, i32_w]
        rfl
      refine pure_ (i := 9) (N := some 62) (v := ?_) (a' := ?_) #[true, true, true, false, true, true, false, false, false, true, false, false, false] rfl rfl (any_of HT_.out (by kernel_rfl)) (fun _ _ _ h => h) (Or.inl ⟨by rfl, ?_⟩) ?_ ?_
      rotate_left
      · intro w'
        go_simp
        with_reducible rfl
      rotate_left
      · simp only [Act.put, List.setIfInBounds_toArray, List.set_cons_zero, List.set_cons_succ, i64_w, i32_w]
        rfl
      refine take_ (i := 10) (N := some 63) (v := ?_) (a' := ?_) #[true, true, true, false, true, true, false, false, false, true, true, false, false] rfl rfl (take_ofW HT_.out HW_.out (by kernel_rfl)) (fun _ _ _ h => h) (Or.inl ⟨by rfl, ?_⟩) hHeld ?_ ?_
      rotate_left
      · intro w' hS
        have h_ := Kd.C_string (P := Try.prog) (A := Ab) (c := cb) Try.underlying23 Try.underlying5 Try.underlying9 (Kd.C_below HRB.out.2 hS)
        go_simp
        with_reducible rfl
      rotate_left
      · simp only [Act.put, List.setIfInBounds_toArray, List.set_cons_zero, List.set_cons_succ, i64_w, i32_w]
        rfl
      refine join_ (σ := Addr) 3 #[true, true, true, true, true, true, true, true, false, true, true, false, false] (fun s_ => [(56, .string (strOfNums H)), (59, .slice (some s_) 1 1), (60, .string (strOfNums [(q : Int)]))]) (fun _ w' => Below wr.heap.size wr w') ?_ ?_
      rotate_left
      · intro hCont
        refine two_ (i := 3) (j := 6) (Ni := some 56) (Nj := some 59) #[true, true, true, true, true, true, false, false, false, true, true, false, false] #[true, true, true, false, true, true, true, false, false, true, true, false, false] rfl rfl rfl rfl (two_of HT_.out (by kernel_rfl)) (by decide) (by decide) (fun K hK => ?_) (fun K hK => ?_)
        · skip
          refine goes_ Try.func59 (by kernel_rfl) rfl #[.int .u64 (l.length : Int)] (by rfl) rfl rfl (by (try simp only [List.map_toArray, List.map_cons, List.map_nil]); first | done | rfl) ?_
          refine (concordanceref1_Num.calls _ _ _ _ HNUM.out).mono ?_
          rintro e w5 ⟨rfl, hb⟩
          refine ⟨_, rfl, ?_⟩
          have hS_ := below_step hHeld hb
          (try replace hD := Kd.C_below hD hb)
          refine hK.out _ _ hS_ (fun hHeld => ?_)
          clear hK K
          refine norm_ (a' := ?_) ?_ ?_
          rotate_left
          · show Act.put _ (some 56) _ = _
            simp only [Act.put, List.setIfInBounds_toArray, List.set_cons_zero, List.set_cons_succ, i64_w, i32_w]
            rfl
          refine one_ (i := 6) (N := some 59) #[true, true, true, true, true, true, true, false, false, true, true, false, false] rfl rfl (one_of HT_.out (by kernel_rfl)) (by decide) (fun K hK => ?_)
          refine value_ (w1 := ?_) (v := ?_) (by rfl) rfl ?_ ?_
          rotate_left 2
          · go_simp
            constructor
            · rfl
            · rfl
          have hD := new_row hHeld (q : Int) 5
          have hS_ := below_alloc hHeld (.cells #[.int .u8 (q : Int)] 5)
          refine hK.out _ _ hS_ (fun hHeld => ?_)
          clear hK K
          refine norm_ (a' := ?_) ?_ ?_
          rotate_left
          · show Act.put _ (some 59) _ = _
            simp only [Act.put, List.setIfInBounds_toArray, List.set_cons_zero, List.set_cons_succ, i64_w, i32_w]
            rfl
          refine one_ (i := 7) (N := some 60) #[true, true, true, true, true, true, true, true, false, true, true, false, false] rfl rfl (one_of HT_.out (by kernel_rfl)) (by decide) (fun K hK => ?_)
          have hcv := Kd.C_string (P := Try.prog) (c := 1) Try.underlying23 Try.underlying5 Try.underlying9 hD
          (try simp only [World.size_drew, World.alloc_drew] at hcv)
          refine value_ (w1 := ?_) (v := ?_) (by rfl) rfl ?_ ?_
          rotate_left 2
          · go_simp
            constructor
            · rfl
            · rfl
          clear hcv
          have hS_ := hHeld
          refine hK.out _ _ hS_ (fun hHeld => ?_)
          clear hK K
          refine norm_ (a' := ?_) ?_ ?_
          rotate_left
          · show Act.put _ (some 60) _ = _
            simp only [Act.put, List.setIfInBounds_toArray, List.set_cons_zero, List.set_cons_succ, i64_w, i32_w]
            rfl
          exact norm_ (by simp only [putAll, Act.put, List.setIfInBounds_toArray, List.set_cons_zero, List.set_cons_succ] <;> rfl) (hCont _ _ hHeld)
        · skip
          refine value_ (w1 := ?_) (v := ?_) (by rfl) rfl ?_ ?_
          rotate_left 2
          · go_simp
            constructor
            · rfl
            · rfl
          have hD := new_row hHeld (q : Int) 5
          have hS_ := below_alloc hHeld (.cells #[.int .u8 (q : Int)] 5)
          refine hK.out _ _ hS_ (fun hHeld => ?_)
          clear hK K
          refine norm_ (a' := ?_) ?_ ?_
          rotate_left
          · show Act.put _ (some 59) _ = _
            simp only [Act.put, List.setIfInBounds_toArray, List.set_cons_zero, List.set_cons_succ, i64_w, i32_w]
            rfl
          refine two_ (i := 3) (j := 7) (Ni := some 56) (Nj := some 60) #[true, true, true, true, true, true, true, false, false, true, true, false, false] #[true, true, true, false, true, true, true, true, false, true, true, false, false] rfl rfl rfl rfl (two_of HT_.out (by kernel_rfl)) (by decide) (by decide) (fun K hK => ?_) (fun K hK => ?_)
          · skip
            refine goes_ Try.func59 (by kernel_rfl) rfl #[.int .u64 (l.length : Int)] (by rfl) rfl rfl (by (try simp only [List.map_toArray, List.map_cons, List.map_nil]); first | done | rfl) ?_
            refine (concordanceref1_Num.calls _ _ _ _ HNUM.out).mono ?_
            rintro e w5 ⟨rfl, hb⟩
            refine ⟨_, rfl, ?_⟩
            have hS_ := below_step hHeld hb
            (try replace hD := Kd.C_below hD hb)
            refine hK.out _ _ hS_ (fun hHeld => ?_)
            clear hK K
            refine norm_ (a' := ?_) ?_ ?_
            rotate_left
            · show Act.put _ (some 56) _ = _
              simp only [Act.put, List.setIfInBounds_toArray, List.set_cons_zero, List.set_cons_succ, i64_w, i32_w]
              rfl
            refine one_ (i := 7) (N := some 60) #[true, true, true, true, true, true, true, true, false, true, true, false, false] rfl rfl (one_of HT_.out (by kernel_rfl)) (by decide) (fun K hK => ?_)
            have hcv := Kd.C_string (P := Try.prog) (c := 1) Try.underlying23 Try.underlying5 Try.underlying9 hD
            (try simp only [World.size_drew, World.alloc_drew] at hcv)
            refine value_ (w1 := ?_) (v := ?_) (by rfl) rfl ?_ ?_
            rotate_left 2
            · go_simp
              constructor
              · rfl
              · rfl
            clear hcv
            have hS_ := hHeld
            refine hK.out _ _ hS_ (fun hHeld => ?_)
            clear hK K
            refine norm_ (a' := ?_) ?_ ?_
            rotate_left
            · show Act.put _ (some 60) _ = _
              simp only [Act.put, List.setIfInBounds_toArray, List.set_cons_zero, List.set_cons_succ, i64_w, i32_w]
              rfl
            exact norm_ (by simp only [putAll, Act.put, List.setIfInBounds_toArray, List.set_cons_zero, List.set_cons_succ] <;> rfl) (hCont _ _ hHeld)
          · skip
            have hcv := Kd.C_string (P := Try.prog) (c := 1) Try.underlying23 Try.underlying5 Try.underlying9 hD
            (try simp only [World.size_drew, World.alloc_drew] at hcv)
            refine value_ (w1 := ?_) (v := ?_) (by rfl) rfl ?_ ?_
            rotate_left 2
            · go_simp
              constructor
              · rfl
              · rfl
            clear hcv
            have hS_ := hHeld
            refine hK.out _ _ hS_ (fun hHeld => ?_)
            clear hK K
            refine norm_ (a' := ?_) ?_ ?_
            rotate_left
            · show Act.put _ (some 60) _ = _
              simp only [Act.put, List.setIfInBounds_toArray, List.set_cons_zero, List.set_cons_succ, i64_w, i32_w]
              rfl
            refine one_ (i := 3) (N := some 56) #[true, true, true, true, true, true, true, true, false, true, true, false, false] rfl rfl (one_of HT_.out (by kernel_rfl)) (by decide) (fun K hK => ?_)
            refine goes_ Try.func59 (by kernel_rfl) rfl #[.int .u64 (l.length : Int)] (by rfl) rfl rfl (by (try simp only [List.map_toArray, List.map_cons, List.map_nil]); first | done | rfl) ?_
            refine (concordanceref1_Num.calls _ _ _ _ HNUM.out).mono ?_
            rintro e w5 ⟨rfl, hb⟩
            refine ⟨_, rfl, ?_⟩
            have hS_ := below_step hHeld hb
            (try replace hD := Kd.C_below hD hb)
            refine hK.out _ _ hS_ (fun hHeld => ?_)
            clear hK K
            refine norm_ (a' := ?_) ?_ ?_
            rotate_left
            · show Act.put _ (some 56) _ = _
              simp only [Act.put, List.setIfInBounds_toArray, List.set_cons_zero, List.set_cons_succ, i64_w, i32_w]
              rfl
            exact norm_ (by simp only [putAll, Act.put, List.setIfInBounds_toArray, List.set_cons_zero, List.set_cons_succ] <;> rfl) (hCont _ _ hHeld)
      rintro D9 w7 hHeld
      refine norm_ (a' := ?_) ?_ ?_
      rotate_left
      · simp only [putAll, Act.put, List.setIfInBounds_toArray, List.set_cons_zero, List.set_cons_succ, i64_w, i32_w]
        rfl
      refine pure_ (i := 8) (N := some 61) (v := ?_) (a' := ?_) #[true, true, true, true, true, true, true, true, true, true, true, false, false] rfl rfl (any_of HT_.out (by kernel_rfl)) (fun _ _ _ h => h) (Or.inl ⟨by rfl, ?_⟩) ?_ ?_
      rotate_left
      · intro w'
        go_simp
        rw [if_neg HC1.out]
      rotate_left
      · simp only [Act.put, List.setIfInBounds_toArray, List.set_cons_zero, List.set_cons_succ, i64_w, i32_w]
        rfl
      refine pure_ (i := 11) (N := some 64) (v := ?_) (a' := ?_) #[true, true, true, true, true, true, true, true, true, true, true, true, false] rfl rfl (any_of HT_.out (by kernel_rfl)) (fun _ _ _ h => h) (Or.inl ⟨by rfl, ?_⟩) ?_ ?_
      rotate_left
      · intro w'
        go_simp
        rw [if_neg HC2.out]
      rotate_left
      · simp only [Act.put, List.setIfInBounds_toArray, List.set_cons_zero, List.set_cons_succ, i64_w, i32_w]
        rfl
      refine pure_ (i := 12) (N := some 4) (v := ?_) (a' := ?_) #[true, true, true, true, true, true, true, true, true, true, true, true, true] rfl rfl (any_of HT_.out (by kernel_rfl)) (fun _ _ _ h => h) (Or.inl ⟨by rfl, ?_⟩) ?_ ?_
      rotate_left
      · intro w'
        go_simp
        with_reducible rfl
      rotate_left
      · simp only [Act.put, List.setIfInBounds_toArray, List.set_cons_zero, List.set_cons_succ, i64_w, i32_w]
        rfl
      refine done_ (done_of HT_.out (by kernel_rfl)) ?_
      clear hu1 hu2 hu3 hu4
      go_wp2
      go_ret
      exact ⟨rfl, below_step HB.out hHeld⟩
end Go.Proofs.Ytolncaccemfbdaa.Hand

/- Printed by a program of this session (drv.py) from the translation of this seat: functions, their contracts, rows. -/
namespace Go.Proofs.Ytolncaccemfbdaa.PPk
open Go.RowKit Go.Proofs.YtolncaccemfbdaaW.PrintWords Go.Proofs.YtolncaccemfbdaaW.PrintLast Go.Proofs.YtolncaccemfbdaaW.PrintMore
attribute [local go_sem] max2_int min2_int max_two min_two max_three min_three max_four min_four   -- for this text's walks alone
set_option linter.unusedVariables false
set_option linter.unusedSimpArgs false

/-! ### concordanceref6_Read: function 39 -/
mutual
def concordanceref6_Read.l0 : Nat → Int → Int → Int → Int → Int → ByteArray → List Int → Int → Option (Int × List Int × Int × Int)
  | 0, _, _, _, _, _, _, _, _ => none
  | k + 1, x1, x8, x9, x11, x12, x13, x14, x15 => if x15 < (wrap64 (x8)) then (concordanceref6_Read.l1 k x1 x8 x9 x11 x12 x13 x14 x15 0 0) else (concordanceref6_Read.l2 k x9 x11 x12 x13 x14 (wrap64 ((wrap64 (x8)) * x11)))
def concordanceref6_Read.l1 : Nat → Int → Int → Int → Int → Int → ByteArray → List Int → Int → Int → Int → Option (Int × List Int × Int × Int)
  | 0, _, _, _, _, _, _, _, _, _, _ => none
  | k + 1, x1, x8, x9, x11, x12, x13, x14, x15, x16, x17 => if x17 < x11 then (if 0 ≤ (wrap64 (Int.tdiv (wrap64 ((wrap64 (x15 * x11)) + x17)) 8)) then (if (wrap64 (Int.tdiv (wrap64 ((wrap64 (x15 * x11)) + x17)) 8)) < (x13.size : Int) then (if 0 ≤ (Int.tmod (wrap64 ((wrap64 (x15 * x11)) + x17)) 8) then (if (Go.bits .and .u8 (shr .u8 (bt x13 (wrap64 (Int.tdiv (wrap64 ((wrap64 (x15 * x11)) + x17)) 8))) (Int.tmod (wrap64 ((wrap64 (x15 * x11)) + x17)) 8)) 1) = 1 then (if 0 ≤ x17 then (concordanceref6_Read.l1 k x1 x8 x9 x11 x12 x13 x14 x15 (Go.bits .or .u64 x16 (shl .u64 1 x17)) (wrap64 (x17 + 1))) else (none)) else (concordanceref6_Read.l1 k x1 x8 x9 x11 x12 x13 x14 x15 x16 (wrap64 (x17 + 1)))) else (none)) else (none)) else (none)) else (if x1 < 64 then (if 0 ≤ x1 then (if (shr .u64 x16 x1) = 0 then (if x14.length < 17592186044416 then (concordanceref6_Read.l0 k x1 x8 x9 x11 x12 x13 (x14 ++ [x16]) (wrap64 (x15 + 1))) else (none)) else (some (0, ([] : List Int), 0, 3))) else (none)) else (if x14.length < 17592186044416 then (concordanceref6_Read.l0 k x1 x8 x9 x11 x12 x13 (x14 ++ [x16]) (wrap64 (x15 + 1))) else (none)))
def concordanceref6_Read.l2 : Nat → Int → Int → Int → ByteArray → List Int → Int → Option (Int × List Int × Int × Int)
  | 0, _, _, _, _, _, _ => none
  | k + 1, x9, x11, x12, x13, x14, x19 => if x19 < (wrap64 (8 * x12)) then (if 0 ≤ (wrap64 (Int.tdiv x19 8)) then (if (wrap64 (Int.tdiv x19 8)) < (x13.size : Int) then (if 0 ≤ (Int.tmod x19 8) then (if (Go.bits .and .u8 (shr .u8 (bt x13 (wrap64 (Int.tdiv x19 8))) (Int.tmod x19 8)) 1) = 1 then (some (0, ([] : List Int), 0, 3)) else (concordanceref6_Read.l2 k x9 x11 x12 x13 x14 (wrap64 (x19 + 1)))) else (none)) else (none)) else (none)) else (some (x11, x14, wrap64 ((wrap64 (x9 + 1)) + x12), 0))
end
def concordanceref6_Read.f (k : Nat) (a0 : ByteArray) (a1 : Int) : Option (Int × List Int × Int × Int) := (concordanceref1_Take.f k a0).bind fun bt138 => (if bt138.2.2 = 0 then (if bt138.1 > 100000 then (some (0, ([] : List Int), 0, 2)) else (if bt138.2.1 = (a0.size : Int) then (some (0, ([] : List Int), 0, 4)) else (if 0 ≤ bt138.2.1 then (if bt138.2.1 < (a0.size : Int) then (if (bt a0 bt138.2.1) > 64 then (some (0, ([] : List Int), 0, 3)) else (if (wrap64 ((wrap64 ((a0.size : Int) - bt138.2.1)) - 1)) < (wrap64 (Int.tdiv (wrap64 ((wrap64 ((wrap64 (bt138.1)) * (wrap64 (bt a0 bt138.2.1)))) + 7)) 8)) then (some (0, ([] : List Int), 0, 4)) else (if 0 ≤ (wrap64 (bt138.2.1 + 1)) then (if (wrap64 (bt138.2.1 + 1)) ≤ (wrap64 ((wrap64 (bt138.2.1 + 1)) + (wrap64 (Int.tdiv (wrap64 ((wrap64 ((wrap64 (bt138.1)) * (wrap64 (bt a0 bt138.2.1)))) + 7)) 8)))) then (if (wrap64 ((wrap64 (bt138.2.1 + 1)) + (wrap64 (Int.tdiv (wrap64 ((wrap64 ((wrap64 (bt138.1)) * (wrap64 (bt a0 bt138.2.1)))) + 7)) 8)))) ≤ (a0.size : Int) then (concordanceref6_Read.l0 k a1 bt138.1 bt138.2.1 (wrap64 (bt a0 bt138.2.1)) (wrap64 (Int.tdiv (wrap64 ((wrap64 ((wrap64 (bt138.1)) * (wrap64 (bt a0 bt138.2.1)))) + 7)) 8)) (a0.extract ((wrap64 (bt138.2.1 + 1)) : Int).toNat ((wrap64 ((wrap64 (bt138.2.1 + 1)) + (wrap64 (Int.tdiv (wrap64 ((wrap64 ((wrap64 (bt138.1)) * (wrap64 (bt a0 bt138.2.1)))) + 7)) 8)))) : Int).toNat) ([] : List Int) 0) else (none)) else (none)) else (none)))) else (none)) else (none)))) else (some (0, ([] : List Int), 0, bt138.2.2)))
theorem concordanceref6_Read.mono_l : ∀ k, (∀ y0 y1 y2 y3 y4 y5 y6 y7, LeO (concordanceref6_Read.l0 k y0 y1 y2 y3 y4 y5 y6 y7) (concordanceref6_Read.l0 (k + 1) y0 y1 y2 y3 y4 y5 y6 y7)) ∧ (∀ y0 y1 y2 y3 y4 y5 y6 y7 y8 y9, LeO (concordanceref6_Read.l1 k y0 y1 y2 y3 y4 y5 y6 y7 y8 y9) (concordanceref6_Read.l1 (k + 1) y0 y1 y2 y3 y4 y5 y6 y7 y8 y9)) ∧ (∀ y0 y1 y2 y3 y4 y5, LeO (concordanceref6_Read.l2 k y0 y1 y2 y3 y4 y5) (concordanceref6_Read.l2 (k + 1) y0 y1 y2 y3 y4 y5))
  | 0 => ⟨fun _ _ _ _ _ _ _ _ r h => by simp [concordanceref6_Read.l0] at h, fun _ _ _ _ _ _ _ _ _ _ r h => by simp [concordanceref6_Read.l1] at h, fun _ _ _ _ _ _ r h => by simp [concordanceref6_Read.l2] at h⟩
  | k + 1 => by
    obtain ⟨ih0, ih1, ih2⟩ := concordanceref6_Read.mono_l k
    refine ⟨?_, ?_, ?_⟩
    · intro y0 y1 y2 y3 y4 y5 y6 y7
      unfold concordanceref6_Read.l0
      repeat' first
      | (with_reducible exact ih0 _ _ _ _ _ _ _ _)
      | (with_reducible exact ih1 _ _ _ _ _ _ _ _ _ _)
      | (with_reducible exact ih2 _ _ _ _ _ _)
      | (with_reducible exact concordanceref1_Take.mono _ _)
      | (with_reducible exact LeO.refl _)
      | (with_reducible exact LeO.none _)
      | (with_reducible refine LeO.ite ?_ ?_)
      | (with_reducible refine LeO.bind ?_ (fun _ => ?_))
      | exact ih0 _ _ _ _ _ _ _ _
      | exact ih1 _ _ _ _ _ _ _ _ _ _
      | exact ih2 _ _ _ _ _ _
      | exact concordanceref1_Take.mono _ _
      | exact LeO.none _
      | refine LeO.ite ?_ ?_
      | refine LeO.bind ?_ (fun _ => ?_)
    · intro y0 y1 y2 y3 y4 y5 y6 y7 y8 y9
      unfold concordanceref6_Read.l1
      repeat' first
      | (with_reducible exact ih0 _ _ _ _ _ _ _ _)
      | (with_reducible exact ih1 _ _ _ _ _ _ _ _ _ _)
      | (with_reducible exact ih2 _ _ _ _ _ _)
      | (with_reducible exact concordanceref1_Take.mono _ _)
      | (with_reducible exact LeO.refl _)
      | (with_reducible exact LeO.none _)
      | (with_reducible refine LeO.ite ?_ ?_)
      | (with_reducible refine LeO.bind ?_ (fun _ => ?_))
      | exact ih0 _ _ _ _ _ _ _ _
      | exact ih1 _ _ _ _ _ _ _ _ _ _
      | exact ih2 _ _ _ _ _ _
      | exact concordanceref1_Take.mono _ _
      | exact LeO.none _
      | refine LeO.ite ?_ ?_
      | refine LeO.bind ?_ (fun _ => ?_)
    · intro y0 y1 y2 y3 y4 y5
      unfold concordanceref6_Read.l2
      repeat' first
      | (with_reducible exact ih0 _ _ _ _ _ _ _ _)
      | (with_reducible exact ih1 _ _ _ _ _ _ _ _ _ _)
      | (with_reducible exact ih2 _ _ _ _ _ _)
      | (with_reducible exact concordanceref1_Take.mono _ _)
      | (with_reducible exact LeO.refl _)
      | (with_reducible exact LeO.none _)
      | (with_reducible refine LeO.ite ?_ ?_)
      | (with_reducible refine LeO.bind ?_ (fun _ => ?_))
      | exact ih0 _ _ _ _ _ _ _ _
      | exact ih1 _ _ _ _ _ _ _ _ _ _
      | exact ih2 _ _ _ _ _ _
      | exact concordanceref1_Take.mono _ _
      | exact LeO.none _
      | refine LeO.ite ?_ ?_
      | refine LeO.bind ?_ (fun _ => ?_)
theorem concordanceref6_Read.mono : ∀ a0 a1 k, LeO (concordanceref6_Read.f k a0 a1) (concordanceref6_Read.f (k + 1) a0 a1) := by
  intro a0 a1 k
  obtain ⟨ih0, ih1, ih2⟩ := concordanceref6_Read.mono_l k
  unfold concordanceref6_Read.f
  repeat' first
      | (with_reducible exact ih0 _ _ _ _ _ _ _ _)
      | (with_reducible exact ih1 _ _ _ _ _ _ _ _ _ _)
      | (with_reducible exact ih2 _ _ _ _ _ _)
      | (with_reducible exact concordanceref1_Take.mono _ _)
      | (with_reducible exact LeO.refl _)
      | (with_reducible exact LeO.none _)
      | (with_reducible refine LeO.ite ?_ ?_)
      | (with_reducible refine LeO.bind ?_ (fun _ => ?_))
      | exact ih0 _ _ _ _ _ _ _ _
      | exact ih1 _ _ _ _ _ _ _ _ _ _
      | exact ih2 _ _ _ _ _ _
      | exact concordanceref1_Take.mono _ _
      | exact LeO.none _
      | refine LeO.ite ?_ ?_
      | refine LeO.bind ?_ (fun _ => ?_)
set_option maxHeartbeats 8000000 in
set_option maxRecDepth 100000 in
theorem concordanceref6_Read.calls (k : Nat) (a0 : ByteArray) (a1 : Int) (r1 : Int) (r2 : List Int) (r3 : Int) (r4 : Int) (w : World) (h : concordanceref6_Read.f k a0 a1 = some (r1, r2, r3, r4)) :
    Calls Try.prog 39 #[.string a0, .int .i64 a1] w fun e w' => ∃ v1_ : Value, e = .returned (.tuple #[.int .i64 r1, v1_, .int .i64 r3, .int .i64 r4]) ∧ Kd.R (Kd.int .u64) 30 w' w.heap.size (fun _ => True) v1_ r2 ∧ Below w.heap.size w w' := by
  have HB := Aside0.mk (Below.refl w.heap.size w)
  have H : ((concordanceref1_Take.f k a0).bind fun bt138 => (if bt138.2.2 = 0 then (if bt138.1 > 100000 then (some (0, ([] : List Int), 0, 2)) else (if bt138.2.1 = (a0.size : Int) then (some (0, ([] : List Int), 0, 4)) else (if 0 ≤ bt138.2.1 then (if bt138.2.1 < (a0.size : Int) then (if (bt a0 bt138.2.1) > 64 then (some (0, ([] : List Int), 0, 3)) else (if (wrap64 ((wrap64 ((a0.size : Int) - bt138.2.1)) - 1)) < (wrap64 (Int.tdiv (wrap64 ((wrap64 ((wrap64 (bt138.1)) * (wrap64 (bt a0 bt138.2.1)))) + 7)) 8)) then (some (0, ([] : List Int), 0, 4)) else (if 0 ≤ (wrap64 (bt138.2.1 + 1)) then (if (wrap64 (bt138.2.1 + 1)) ≤ (wrap64 ((wrap64 (bt138.2.1 + 1)) + (wrap64 (Int.tdiv (wrap64 ((wrap64 ((wrap64 (bt138.1)) * (wrap64 (bt a0 bt138.2.1)))) + 7)) 8)))) then (if (wrap64 ((wrap64 (bt138.2.1 + 1)) + (wrap64 (Int.tdiv (wrap64 ((wrap64 ((wrap64 (bt138.1)) * (wrap64 (bt a0 bt138.2.1)))) + 7)) 8)))) ≤ (a0.size : Int) then (concordanceref6_Read.l0 k a1 bt138.1 bt138.2.1 (wrap64 (bt a0 bt138.2.1)) (wrap64 (Int.tdiv (wrap64 ((wrap64 ((wrap64 (bt138.1)) * (wrap64 (bt a0 bt138.2.1)))) + 7)) 8)) (a0.extract ((wrap64 (bt138.2.1 + 1)) : Int).toNat ((wrap64 ((wrap64 (bt138.2.1 + 1)) + (wrap64 (Int.tdiv (wrap64 ((wrap64 ((wrap64 (bt138.1)) * (wrap64 (bt a0 bt138.2.1)))) + 7)) 8)))) : Int).toNat) ([] : List Int) 0) else (none)) else (none)) else (none)))) else (none)) else (none)))) else (some (0, ([] : List Int), 0, bt138.2.2)))) = some (r1, r2, r3, r4) := h
  clear h
  replace H := Option.bind_eq_some_iff.mp H
  obtain ⟨⟨t138, t139, t140⟩, A30, H⟩ := H
  replace H : (if t140 = 0 then (if t138 > 100000 then (some (0, ([] : List Int), 0, 2)) else (if t139 = (a0.size : Int) then (some (0, ([] : List Int), 0, 4)) else (if 0 ≤ t139 then (if t139 < (a0.size : Int) then (if (bt a0 t139) > 64 then (some (0, ([] : List Int), 0, 3)) else (if (wrap64 ((wrap64 ((a0.size : Int) - t139)) - 1)) < (wrap64 (Int.tdiv (wrap64 ((wrap64 ((wrap64 (t138)) * (wrap64 (bt a0 t139)))) + 7)) 8)) then (some (0, ([] : List Int), 0, 4)) else (if 0 ≤ (wrap64 (t139 + 1)) then (if (wrap64 (t139 + 1)) ≤ (wrap64 ((wrap64 (t139 + 1)) + (wrap64 (Int.tdiv (wrap64 ((wrap64 ((wrap64 (t138)) * (wrap64 (bt a0 t139)))) + 7)) 8)))) then (if (wrap64 ((wrap64 (t139 + 1)) + (wrap64 (Int.tdiv (wrap64 ((wrap64 ((wrap64 (t138)) * (wrap64 (bt a0 t139)))) + 7)) 8)))) ≤ (a0.size : Int) then (concordanceref6_Read.l0 k a1 t138 t139 (wrap64 (bt a0 t139)) (wrap64 (Int.tdiv (wrap64 ((wrap64 ((wrap64 (t138)) * (wrap64 (bt a0 t139)))) + 7)) 8)) (a0.extract ((wrap64 (t139 + 1)) : Int).toNat ((wrap64 ((wrap64 (t139 + 1)) + (wrap64 (Int.tdiv (wrap64 ((wrap64 ((wrap64 (t138)) * (wrap64 (bt a0 t139)))) + 7)) 8)))) : Int).toNat) ([] : List Int) 0) else (none)) else (none)) else (none)))) else (none)) else (none)))) else (some (0, ([] : List Int), 0, t140))) = some (r1, r2, r3, r4) := H
  have A3 := Aside0.mk A30
  clear A30
  by_cases c4 : t140 = 0
  · rw [if_pos c4] at H
    have c4b0 : (t140 == 0) = true := beq_iff_eq.mpr c4
    have c4b1 : (t140 != 0) = false := bne_eq_false_iff_eq.mpr c4
    clear c4
    by_cases c5 : t138 > 100000
    · rw [if_pos c5] at H
      have c5b0 : decide (100000 < t138) = true := decide_eq_true c5
      clear c5
      simp only [Option.some.injEq, Prod.mk.injEq] at H
      obtain ⟨rfl, rfl, rfl, rfl⟩ := H
      go_enter Try.func39, Try.ntmps39
      go_wp2_with (first | ((with_reducible refine gate_callee (f := 61) rfl ?_); refine goesL_ (some 22) rfl rfl Try.func61 (by kernel_rfl) rfl #[.string a0] rfl (by (try simp only [List.map_toArray, List.map_cons, List.map_nil]); first | done | rfl | (simp only [List.length_drop, List.length_take]; rfl)) ?_; (with_reducible refine (concordanceref1_Take.calls k a0 t138 t139 t140 _ A3.out).mono ?_); rintro e w' ⟨rfl, ⟨nd, rfl⟩⟩; refine ⟨_, rfl, ?_⟩))
      refine bodyPost_ret (results_list (rs := [.tmp 4, .tmp 5, .tmp 6, .tmp 7]) rfl (by simp) (.tmp (.tmp (.tmp (.tmp .nil))))) rfl ?_
      exact ⟨_, by first | rfl | (simp [errW_none, errW_some] <;> rfl) | (simp [*, errW_none, errW_some] <;> rfl), by first | exact Kd.R_nil _ _ _ _ _ | exact Kd.N_nil _ _ _ _ _ | exact Kd.V_nil _ _ _ _ _ | exact Kd.Q_nil _ _ _ _ _ | exact Kd.S_nil _ _ _ _ _, by repeat (first | (with_reducible first | exact HB.out | apply below_alloc | apply pw_below_drewN | apply below_drew1) | exact HB.out)⟩
    · rw [if_neg c5] at H
      have c5b0 : decide (100000 < t138) = false := decide_eq_false c5
      clear c5
      by_cases c6 : t139 = (a0.size : Int)
      · rw [if_pos c6] at H
        have c6b0 : (t139 == (a0.size : Int)) = true := beq_iff_eq.mpr c6
        have c6b1 : (t139 != (a0.size : Int)) = false := bne_eq_false_iff_eq.mpr c6
        clear c6
        simp only [Option.some.injEq, Prod.mk.injEq] at H
        obtain ⟨rfl, rfl, rfl, rfl⟩ := H
        go_enter Try.func39, Try.ntmps39
        go_wp2_with (first | ((with_reducible refine gate_callee (f := 61) rfl ?_); refine goesL_ (some 22) rfl rfl Try.func61 (by kernel_rfl) rfl #[.string a0] rfl (by (try simp only [List.map_toArray, List.map_cons, List.map_nil]); first | done | rfl | (simp only [List.length_drop, List.length_take]; rfl)) ?_; (with_reducible refine (concordanceref1_Take.calls k a0 t138 t139 t140 _ A3.out).mono ?_); rintro e w' ⟨rfl, ⟨nd, rfl⟩⟩; refine ⟨_, rfl, ?_⟩))
        refine bodyPost_ret (results_list (rs := [.tmp 4, .tmp 5, .tmp 6, .tmp 7]) rfl (by simp) (.tmp (.tmp (.tmp (.tmp .nil))))) rfl ?_
        exact ⟨_, by first | rfl | (simp [errW_none, errW_some] <;> rfl) | (simp [*, errW_none, errW_some] <;> rfl), by first | exact Kd.R_nil _ _ _ _ _ | exact Kd.N_nil _ _ _ _ _ | exact Kd.V_nil _ _ _ _ _ | exact Kd.Q_nil _ _ _ _ _ | exact Kd.S_nil _ _ _ _ _, by repeat (first | (with_reducible first | exact HB.out | apply below_alloc | apply pw_below_drewN | apply below_drew1) | exact HB.out)⟩
      · rw [if_neg c6] at H
        have c6b0 : (t139 == (a0.size : Int)) = false := beq_eq_false_iff_ne.mpr c6
        have c6b1 : (t139 != (a0.size : Int)) = true := bne_iff_ne.mpr c6
        by_cases c7 : 0 ≤ t139
        · rw [if_pos c7] at H
          have c7b0 : decide (0 ≤ t139) = true := decide_eq_true c7
          clear c7
          by_cases c8 : t139 < (a0.size : Int)
          · rw [if_pos c8] at H
            have c8b0 : decide (t139 < (a0.size : Int)) = true := decide_eq_true c8
            clear c8
            by_cases c10 : (bt a0 t139) > 64
            · rw [if_pos c10] at H
              have c10b0 : decide (64 < (bt a0 t139)) = true := decide_eq_true c10
              clear c10
              simp only [Option.some.injEq, Prod.mk.injEq] at H
              obtain ⟨rfl, rfl, rfl, rfl⟩ := H
              go_enter Try.func39, Try.ntmps39
              go_wp2_with (first | ((with_reducible refine gate_callee (f := 61) rfl ?_); refine goesL_ (some 22) rfl rfl Try.func61 (by kernel_rfl) rfl #[.string a0] rfl (by (try simp only [List.map_toArray, List.map_cons, List.map_nil]); first | done | rfl | (simp only [List.length_drop, List.length_take]; rfl)) ?_; (with_reducible refine (concordanceref1_Take.calls k a0 t138 t139 t140 _ A3.out).mono ?_); rintro e w' ⟨rfl, ⟨nd, rfl⟩⟩; refine ⟨_, rfl, ?_⟩; have p9 : 0 ≤ (t139 : Int) := of_decide_eq_true (by first | (with_reducible assumption) | assumption); have q9 : t139 < (a0.size : Int) := of_decide_eq_true (by first | (with_reducible assumption) | assumption); have hx9 := bt_at a0 t139; replace p9 := eq_true p9; replace q9 := eq_true q9))
              refine bodyPost_ret (results_list (rs := [.tmp 4, .tmp 5, .tmp 6, .tmp 7]) rfl (by simp) (.tmp (.tmp (.tmp (.tmp .nil))))) rfl ?_
              exact ⟨_, by first | rfl | (simp [errW_none, errW_some] <;> rfl) | (simp [*, errW_none, errW_some] <;> rfl), by first | exact Kd.R_nil _ _ _ _ _ | exact Kd.N_nil _ _ _ _ _ | exact Kd.V_nil _ _ _ _ _ | exact Kd.Q_nil _ _ _ _ _ | exact Kd.S_nil _ _ _ _ _, by repeat (first | (with_reducible first | exact HB.out | apply below_alloc | apply pw_below_drewN | apply below_drew1) | exact HB.out)⟩
            · rw [if_neg c10] at H
              have c10b0 : decide (64 < (bt a0 t139)) = false := decide_eq_false c10
              clear c10
              by_cases c12 : (wrap64 ((wrap64 ((a0.size : Int) - t139)) - 1)) < (wrap64 (Int.tdiv (wrap64 ((wrap64 ((wrap64 (t138)) * (wrap64 (bt a0 t139)))) + 7)) 8))
              · rw [if_pos c12] at H
                have c12b0 : decide ((wrap64 ((wrap64 ((a0.size : Int) - t139)) - 1)) < (wrap64 (Int.tdiv (wrap64 ((wrap64 ((wrap64 (t138)) * (wrap64 (bt a0 t139)))) + 7)) 8))) = true := decide_eq_true c12
                clear c12
                simp only [Option.some.injEq, Prod.mk.injEq] at H
                obtain ⟨rfl, rfl, rfl, rfl⟩ := H
                go_enter Try.func39, Try.ntmps39
                go_wp2_with (first | ((with_reducible refine gate_callee (f := 61) rfl ?_); refine goesL_ (some 22) rfl rfl Try.func61 (by kernel_rfl) rfl #[.string a0] rfl (by (try simp only [List.map_toArray, List.map_cons, List.map_nil]); first | done | rfl | (simp only [List.length_drop, List.length_take]; rfl)) ?_; (with_reducible refine (concordanceref1_Take.calls k a0 t138 t139 t140 _ A3.out).mono ?_); rintro e w' ⟨rfl, ⟨nd, rfl⟩⟩; refine ⟨_, rfl, ?_⟩; have p9 : 0 ≤ (t139 : Int) := of_decide_eq_true (by first | (with_reducible assumption) | assumption); have q9 : t139 < (a0.size : Int) := of_decide_eq_true (by first | (with_reducible assumption) | assumption); have hx9 := bt_at a0 t139; replace p9 := eq_true p9; replace q9 := eq_true q9; have p11 : 0 ≤ (t139 : Int) := of_decide_eq_true (by first | (with_reducible assumption) | assumption); have q11 : t139 < (a0.size : Int) := of_decide_eq_true (by first | (with_reducible assumption) | assumption); have hx11 := bt_at a0 t139; replace p11 := eq_true p11; replace q11 := eq_true q11))
                refine bodyPost_ret (results_list (rs := [.tmp 4, .tmp 5, .tmp 6, .tmp 7]) rfl (by simp) (.tmp (.tmp (.tmp (.tmp .nil))))) rfl ?_
                exact ⟨_, by first | rfl | (simp [errW_none, errW_some] <;> rfl) | (simp [*, errW_none, errW_some] <;> rfl), by first | exact Kd.R_nil _ _ _ _ _ | exact Kd.N_nil _ _ _ _ _ | exact Kd.V_nil _ _ _ _ _ | exact Kd.Q_nil _ _ _ _ _ | exact Kd.S_nil _ _ _ _ _, by repeat (first | (with_reducible first | exact HB.out | apply below_alloc | apply pw_below_drewN | apply below_drew1) | exact HB.out)⟩
              · rw [if_neg c12] at H
                have c12b0 : decide ((wrap64 ((wrap64 ((a0.size : Int) - t139)) - 1)) < (wrap64 (Int.tdiv (wrap64 ((wrap64 ((wrap64 (t138)) * (wrap64 (bt a0 t139)))) + 7)) 8))) = false := decide_eq_false c12
                clear c12
                obtain ⟨ji13, hji13⟩ : ∃ j_ : Int, (wrap64 (t139 + 1)) = j_ := ⟨_, rfl⟩
                replace H : (if 0 ≤ (ji13) then (if (ji13) ≤ (wrap64 ((ji13) + (wrap64 (Int.tdiv (wrap64 ((wrap64 ((wrap64 (t138)) * (wrap64 (bt a0 t139)))) + 7)) 8)))) then (if (wrap64 ((ji13) + (wrap64 (Int.tdiv (wrap64 ((wrap64 ((wrap64 (t138)) * (wrap64 (bt a0 t139)))) + 7)) 8)))) ≤ (a0.size : Int) then (concordanceref6_Read.l0 k a1 t138 t139 (wrap64 (bt a0 t139)) (wrap64 (Int.tdiv (wrap64 ((wrap64 ((wrap64 (t138)) * (wrap64 (bt a0 t139)))) + 7)) 8)) (a0.extract ((ji13) : Int).toNat ((wrap64 ((ji13) + (wrap64 (Int.tdiv (wrap64 ((wrap64 ((wrap64 (t138)) * (wrap64 (bt a0 t139)))) + 7)) 8)))) : Int).toNat) ([] : List Int) 0) else (none)) else (none)) else (none)) = some (r1, r2, r3, r4) := by first | (rw [hji13] at H; exact H) | (simp only [hji13] at H ⊢; exact H)
                (try rw [hji13] at A3)
                have hji13w : (IntKind.i64.wrap (t139 + 1)) = ji13 := (i64_w _).trans hji13
                by_cases c14 : 0 ≤ (ji13)
                · rw [if_pos c14] at H
                  have c14b0 := eq_true c14
                  have c14b1 : decide (0 ≤ (ji13)) = true := decide_eq_true c14
                  clear c14
                  by_cases c15 : (ji13) ≤ (wrap64 ((ji13) + (wrap64 (Int.tdiv (wrap64 ((wrap64 ((wrap64 (t138)) * (wrap64 (bt a0 t139)))) + 7)) 8))))
                  · rw [if_pos c15] at H
                    have c15b0 := eq_true c15
                    have c15b1 : decide ((ji13) ≤ (wrap64 ((ji13) + (wrap64 (Int.tdiv (wrap64 ((wrap64 ((wrap64 (t138)) * (wrap64 (bt a0 t139)))) + 7)) 8))))) = true := decide_eq_true c15
                    by_cases c16 : (wrap64 ((ji13) + (wrap64 (Int.tdiv (wrap64 ((wrap64 ((wrap64 (t138)) * (wrap64 (bt a0 t139)))) + 7)) 8)))) ≤ (a0.size : Int)
                    · rw [if_pos c16] at H
                      have c16b0 := eq_true c16
                      have c16b1 : decide ((wrap64 ((ji13) + (wrap64 (Int.tdiv (wrap64 ((wrap64 ((wrap64 (t138)) * (wrap64 (bt a0 t139)))) + 7)) 8)))) ≤ (a0.size : Int)) = true := decide_eq_true c16
                      have H' := Aside0.mk H
                      clear H
                      go_enter Try.func39, Try.ntmps39
                      go_wp2_with (first | ((with_reducible refine gate_callee (f := 61) rfl ?_); refine goesL_ (some 22) rfl rfl Try.func61 (by kernel_rfl) rfl #[.string a0] rfl (by (try simp only [List.map_toArray, List.map_cons, List.map_nil]); first | done | rfl | (simp only [List.length_drop, List.length_take]; rfl)) ?_; (with_reducible refine (concordanceref1_Take.calls k a0 t138 t139 t140 _ A3.out).mono ?_); rintro e w' ⟨rfl, ⟨nd, rfl⟩⟩; refine ⟨_, rfl, ?_⟩; have p9 : 0 ≤ (t139 : Int) := of_decide_eq_true (by first | (with_reducible assumption) | assumption); have q9 : t139 < (a0.size : Int) := of_decide_eq_true (by first | (with_reducible assumption) | assumption); have hx9 := bt_at a0 t139; replace p9 := eq_true p9; replace q9 := eq_true q9; have p11 : 0 ≤ (t139 : Int) := of_decide_eq_true (by first | (with_reducible assumption) | assumption); have q11 : t139 < (a0.size : Int) := of_decide_eq_true (by first | (with_reducible assumption) | assumption); have hx11 := bt_at a0 t139; replace p11 := eq_true p11; replace q11 := eq_true q11))
                      go_loopg [14, 15] k (fun kq v14 v15 w' => ∃ (x14_1 : List Int) (x15_1 : Int), v15 = .int .i64 x15_1 ∧ Aside0 (concordanceref6_Read.l0 kq a1 t138 t139 (wrap64 (bt a0 t139)) (wrap64 (Int.tdiv (wrap64 ((wrap64 ((wrap64 (t138)) * (wrap64 (bt a0 t139)))) + 7)) 8)) (a0.extract ((ji13) : Int).toNat ((wrap64 ((ji13) + (wrap64 (Int.tdiv (wrap64 ((wrap64 ((wrap64 (t138)) * (wrap64 (bt a0 t139)))) + 7)) 8)))) : Int).toNat) x14_1 x15_1 = some (r1, r2, r3, r4)) ∧ Aside0 (kq ≤ k) ∧ Aside0 (Kd.R (Kd.int .u64) 30 w' w.heap.size (fun _ => True) v14 x14_1) ∧ Aside0 (Below w.heap.size w w'))
                      case atStart => exact ⟨(([] : List Int)), (0), (by first | rfl | (simp; done) | (simp [*]; done)), H', ⟨Nat.le_refl _⟩, ⟨by first | exact Kd.R_nil _ _ _ _ _ | exact Kd.N_nil _ _ _ _ _ | exact Kd.V_nil _ _ _ _ _ | exact Kd.Q_nil _ _ _ _ _ | exact Kd.S_nil _ _ _ _ _⟩, ⟨by repeat (first | (with_reducible first | exact HB.out | apply below_alloc | apply pw_below_drewN | apply below_drew1) | exact HB.out)⟩⟩
                      case round =>
                        clear H'
                        try clear c1
                        try clear p1
                        try clear q1
                        try clear hx1
                        try clear p2
                        try clear c3
                        try clear c4
                        try clear c4b0
                        try clear c4b1
                        try clear c5
                        try clear c5b0
                        try clear c6
                        try clear c6b0
                        try clear c6b1
                        try clear p6
                        try clear c7
                        try clear c7b0
                        try clear c8
                        try clear c8b0
                        try clear p9
                        try clear q9
                        try clear hx9
                        try clear c10
                        try clear c10b0
                        try clear p11
                        try clear q11
                        try clear hx11
                        try clear c12
                        try clear c12b0
                        try clear c14
                        try clear c14b0
                        try clear c14b1
                        try clear c15
                        try clear c15b0
                        try clear c15b1
                        try clear c16
                        try clear c16b0
                        try clear c16b1
                        try clear p11
                        try clear p9
                        try clear q11
                        try clear q9
                        obtain ⟨x14_1, x15_1, rfl, HA, HK1, HO_14, HB⟩ := hrel
                        cases gk with
                        | zero => exact absurd HA.out (by simp [concordanceref6_Read.l0])
                        | succ k1 =>
                          have H := HA.out
                          clear HA
                          simp only [concordanceref6_Read.l0] at H
                          by_cases c17 : x15_1 < (wrap64 (t138))
                          · rw [if_pos c17] at H
                            have c17b0 : decide (x15_1 < (wrap64 (t138))) = true := decide_eq_true c17
                            clear c17
                            have H' := Aside0.mk H
                            clear H
                            go_wp2
                            go_loopg [16, 17] k1 (fun kq v16 v17 w' => ∃ (x16_2 : Int) (x17_2 : Int), v16 = .int .u64 x16_2 ∧ v17 = .int .i64 x17_2 ∧ Aside0 (concordanceref6_Read.l1 kq a1 t138 t139 (wrap64 (bt a0 t139)) (wrap64 (Int.tdiv (wrap64 ((wrap64 ((wrap64 (t138)) * (wrap64 (bt a0 t139)))) + 7)) 8)) (a0.extract ((ji13) : Int).toNat ((wrap64 ((ji13) + (wrap64 (Int.tdiv (wrap64 ((wrap64 ((wrap64 (t138)) * (wrap64 (bt a0 t139)))) + 7)) 8)))) : Int).toNat) x14_1 x15_1 x16_2 x17_2 = some (r1, r2, r3, r4)) ∧ Aside0 (kq ≤ k1) ∧ Aside0 (Kd.R (Kd.int .u64) 30 w' w.heap.size (fun _ => True) u14 x14_1) ∧ Aside0 (Below w.heap.size w w'))
                            case atStart => exact ⟨(0), (0), (by first | rfl | (simp; done) | (simp [*]; done)), (by first | rfl | (simp; done) | (simp [*]; done)), H', ⟨Nat.le_refl _⟩, ⟨by (with_reducible repeat (first | apply Kd.R_alloc | apply Kd.R_drewN | apply Kd.R_drew)); exact HO_14.out⟩, ⟨by repeat (first | (with_reducible first | exact HB.out | apply below_alloc | apply pw_below_drewN | apply below_drew1) | exact HB.out)⟩⟩
                            case round =>
                              clear H'
                              try clear c1
                              try clear p1
                              try clear q1
                              try clear hx1
                              try clear p2
                              try clear c3
                              try clear c4
                              try clear c4b0
                              try clear c4b1
                              try clear c5
                              try clear c5b0
                              try clear c6
                              try clear c6b0
                              try clear c6b1
                              try clear p6
                              try clear c7
                              try clear c7b0
                              try clear c8
                              try clear c8b0
                              try clear p9
                              try clear q9
                              try clear hx9
                              try clear c10
                              try clear c10b0
                              try clear p11
                              try clear q11
                              try clear hx11
                              try clear c12
                              try clear c12b0
                              try clear c14
                              try clear c14b0
                              try clear c14b1
                              try clear c15
                              try clear c15b0
                              try clear c15b1
                              try clear c16
                              try clear c16b0
                              try clear c16b1
                              try clear c17
                              try clear c17b0
                              try clear p1
                              try clear p11
                              try clear p2
                              try clear p6
                              try clear p9
                              try clear q1
                              try clear q11
                              try clear q9
                              obtain ⟨x16_2, x17_2, rfl, rfl, HA, HK2, HO_14, HB⟩ := hrel
                              cases gk with
                              | zero => exact absurd HA.out (by simp [concordanceref6_Read.l1])
                              | succ k2 =>
                                have H := HA.out
                                clear HA
                                simp only [concordanceref6_Read.l1] at H
                                by_cases c18 : x17_2 < (wrap64 (bt a0 t139))
                                · rw [if_pos c18] at H
                                  have c18b0 : decide (x17_2 < (wrap64 (bt a0 t139))) = true := decide_eq_true c18
                                  clear c18
                                  obtain ⟨ji19, hji19⟩ : ∃ j_ : Int, (wrap64 (Int.tdiv (wrap64 ((wrap64 (x15_1 * (wrap64 (bt a0 t139)))) + x17_2)) 8)) = j_ := ⟨_, rfl⟩
                                  replace H : (if 0 ≤ (ji19) then (if (ji19) < ((a0.extract ((ji13) : Int).toNat ((wrap64 ((ji13) + (wrap64 (Int.tdiv (wrap64 ((wrap64 ((wrap64 (t138)) * (wrap64 (bt a0 t139)))) + 7)) 8)))) : Int).toNat).size : Int) then (if 0 ≤ (Int.tmod (wrap64 ((wrap64 (x15_1 * (wrap64 (bt a0 t139)))) + x17_2)) 8) then (if (Go.bits .and .u8 (shr .u8 (bt (a0.extract ((ji13) : Int).toNat ((wrap64 ((ji13) + (wrap64 (Int.tdiv (wrap64 ((wrap64 ((wrap64 (t138)) * (wrap64 (bt a0 t139)))) + 7)) 8)))) : Int).toNat) (ji19)) (Int.tmod (wrap64 ((wrap64 (x15_1 * (wrap64 (bt a0 t139)))) + x17_2)) 8)) 1) = 1 then (if 0 ≤ x17_2 then (concordanceref6_Read.l1 k2 a1 t138 t139 (wrap64 (bt a0 t139)) (wrap64 (Int.tdiv (wrap64 ((wrap64 ((wrap64 (t138)) * (wrap64 (bt a0 t139)))) + 7)) 8)) (a0.extract ((ji13) : Int).toNat ((wrap64 ((ji13) + (wrap64 (Int.tdiv (wrap64 ((wrap64 ((wrap64 (t138)) * (wrap64 (bt a0 t139)))) + 7)) 8)))) : Int).toNat) x14_1 x15_1 (Go.bits .or .u64 x16_2 (shl .u64 1 x17_2)) (wrap64 (x17_2 + 1))) else (none)) else (concordanceref6_Read.l1 k2 a1 t138 t139 (wrap64 (bt a0 t139)) (wrap64 (Int.tdiv (wrap64 ((wrap64 ((wrap64 (t138)) * (wrap64 (bt a0 t139)))) + 7)) 8)) (a0.extract ((ji13) : Int).toNat ((wrap64 ((ji13) + (wrap64 (Int.tdiv (wrap64 ((wrap64 ((wrap64 (t138)) * (wrap64 (bt a0 t139)))) + 7)) 8)))) : Int).toNat) x14_1 x15_1 x16_2 (wrap64 (x17_2 + 1)))) else (none)) else (none)) else (none)) = some (r1, r2, r3, r4) := by first | (rw [hji19] at H; exact H) | (simp only [hji19] at H ⊢; exact H)
                                  have hji19w : (IntKind.i64.wrap (Int.tdiv (wrap64 ((wrap64 (x15_1 * (wrap64 (bt a0 t139)))) + x17_2)) 8)) = ji19 := (i64_w _).trans hji19
                                  by_cases c20 : 0 ≤ (ji19)
                                  · rw [if_pos c20] at H
                                    have c20b0 : decide (0 ≤ (ji19)) = true := decide_eq_true c20
                                    clear c20
                                    by_cases c21 : (ji19) < ((a0.extract ((ji13) : Int).toNat ((wrap64 ((ji13) + (wrap64 (Int.tdiv (wrap64 ((wrap64 ((wrap64 (t138)) * (wrap64 (bt a0 t139)))) + 7)) 8)))) : Int).toNat).size : Int)
                                    · rw [if_pos c21] at H
                                      have c21y_ := c21
                                      simp only [ByteArray.size_extract] at c21y_
                                      have c21yt_ := eq_true c21y_
                                      have c21b0 : decide ((ji19) < ((a0.extract ((ji13) : Int).toNat ((wrap64 ((ji13) + (wrap64 (Int.tdiv (wrap64 ((wrap64 ((wrap64 (t138)) * (wrap64 (bt a0 t139)))) + 7)) 8)))) : Int).toNat).size : Int)) = true := decide_eq_true c21
                                      clear c21
                                      obtain ⟨ji23, hji23⟩ : ∃ j_ : Int, (Int.tmod (wrap64 ((wrap64 (x15_1 * (wrap64 (bt a0 t139)))) + x17_2)) 8) = j_ := ⟨_, rfl⟩
                                      replace H : (if 0 ≤ (ji23) then (if (Go.bits .and .u8 (shr .u8 (bt (a0.extract ((ji13) : Int).toNat ((wrap64 ((ji13) + (wrap64 (Int.tdiv (wrap64 ((wrap64 ((wrap64 (t138)) * (wrap64 (bt a0 t139)))) + 7)) 8)))) : Int).toNat) (ji19)) (ji23)) 1) = 1 then (if 0 ≤ x17_2 then (concordanceref6_Read.l1 k2 a1 t138 t139 (wrap64 (bt a0 t139)) (wrap64 (Int.tdiv (wrap64 ((wrap64 ((wrap64 (t138)) * (wrap64 (bt a0 t139)))) + 7)) 8)) (a0.extract ((ji13) : Int).toNat ((wrap64 ((ji13) + (wrap64 (Int.tdiv (wrap64 ((wrap64 ((wrap64 (t138)) * (wrap64 (bt a0 t139)))) + 7)) 8)))) : Int).toNat) x14_1 x15_1 (Go.bits .or .u64 x16_2 (shl .u64 1 x17_2)) (wrap64 (x17_2 + 1))) else (none)) else (concordanceref6_Read.l1 k2 a1 t138 t139 (wrap64 (bt a0 t139)) (wrap64 (Int.tdiv (wrap64 ((wrap64 ((wrap64 (t138)) * (wrap64 (bt a0 t139)))) + 7)) 8)) (a0.extract ((ji13) : Int).toNat ((wrap64 ((ji13) + (wrap64 (Int.tdiv (wrap64 ((wrap64 ((wrap64 (t138)) * (wrap64 (bt a0 t139)))) + 7)) 8)))) : Int).toNat) x14_1 x15_1 x16_2 (wrap64 (x17_2 + 1)))) else (none)) = some (r1, r2, r3, r4) := by first | (rw [hji23] at H; exact H) | (simp only [hji23] at H ⊢; exact H)
                                      by_cases c24 : 0 ≤ (ji23)
                                      · rw [if_pos c24] at H
                                        have c24b0 := eq_true c24
                                        have c24b1 : decide (0 ≤ (ji23)) = true := decide_eq_true c24
                                        clear c24
                                        obtain ⟨ji25, hji25⟩ : ∃ j_ : Int, (shr .u8 (bt (a0.extract ((ji13) : Int).toNat ((wrap64 ((ji13) + (wrap64 (Int.tdiv (wrap64 ((wrap64 ((wrap64 (t138)) * (wrap64 (bt a0 t139)))) + 7)) 8)))) : Int).toNat) (ji19)) (ji23)) = j_ := ⟨_, rfl⟩
                                        replace H : (if (Go.bits .and .u8 (ji25) 1) = 1 then (if 0 ≤ x17_2 then (concordanceref6_Read.l1 k2 a1 t138 t139 (wrap64 (bt a0 t139)) (wrap64 (Int.tdiv (wrap64 ((wrap64 ((wrap64 (t138)) * (wrap64 (bt a0 t139)))) + 7)) 8)) (a0.extract ((ji13) : Int).toNat ((wrap64 ((ji13) + (wrap64 (Int.tdiv (wrap64 ((wrap64 ((wrap64 (t138)) * (wrap64 (bt a0 t139)))) + 7)) 8)))) : Int).toNat) x14_1 x15_1 (Go.bits .or .u64 x16_2 (shl .u64 1 x17_2)) (wrap64 (x17_2 + 1))) else (none)) else (concordanceref6_Read.l1 k2 a1 t138 t139 (wrap64 (bt a0 t139)) (wrap64 (Int.tdiv (wrap64 ((wrap64 ((wrap64 (t138)) * (wrap64 (bt a0 t139)))) + 7)) 8)) (a0.extract ((ji13) : Int).toNat ((wrap64 ((ji13) + (wrap64 (Int.tdiv (wrap64 ((wrap64 ((wrap64 (t138)) * (wrap64 (bt a0 t139)))) + 7)) 8)))) : Int).toNat) x14_1 x15_1 x16_2 (wrap64 (x17_2 + 1)))) = some (r1, r2, r3, r4) := by first | (rw [hji25] at H; exact H) | (simp only [hji25] at H ⊢; exact H)
                                        have hji25_ : ((bt (a0.extract ((ji13) : Int).toNat ((wrap64 ((ji13) + (wrap64 (Int.tdiv (wrap64 ((wrap64 ((wrap64 (t138)) * (wrap64 (bt a0 t139)))) + 7)) 8)))) : Int).toNat) (ji19)) / 2 ^ min (ji23).toNat 8) = ji25 := hji25
                                        have hji25z : (ji23) ≤ 8 → ((bt (a0.extract ((ji13) : Int).toNat ((wrap64 ((ji13) + (wrap64 (Int.tdiv (wrap64 ((wrap64 ((wrap64 (t138)) * (wrap64 (bt a0 t139)))) + 7)) 8)))) : Int).toNat) (ji19)) / 2 ^ (ji23).toNat) = ji25 := shr_small hji25
                                        by_cases c26 : (Go.bits .and .u8 (ji25) 1) = 1
                                        · rw [if_pos c26] at H
                                          have c26b0 : ((Go.bits .and .u8 (ji25) 1) == 1) = true := beq_iff_eq.mpr c26
                                          have c26b1 : ((Go.bits .and .u8 (ji25) 1) != 1) = false := bne_eq_false_iff_eq.mpr c26
                                          clear c26
                                          by_cases c27 : 0 ≤ x17_2
                                          · rw [if_pos c27] at H
                                            have c27b0 := eq_true c27
                                            have c27b1 : decide (0 ≤ x17_2) = true := decide_eq_true c27
                                            clear c27
                                            obtain ⟨ji28, hji28⟩ : ∃ j_ : Int, (shl .u64 1 x17_2) = j_ := ⟨_, rfl⟩
                                            replace H : (concordanceref6_Read.l1 k2 a1 t138 t139 (wrap64 (bt a0 t139)) (wrap64 (Int.tdiv (wrap64 ((wrap64 ((wrap64 (t138)) * (wrap64 (bt a0 t139)))) + 7)) 8)) (a0.extract ((ji13) : Int).toNat ((wrap64 ((ji13) + (wrap64 (Int.tdiv (wrap64 ((wrap64 ((wrap64 (t138)) * (wrap64 (bt a0 t139)))) + 7)) 8)))) : Int).toNat) x14_1 x15_1 (Go.bits .or .u64 x16_2 (ji28)) (wrap64 (x17_2 + 1))) = some (r1, r2, r3, r4) := by first | (rw [hji28] at H; exact H) | (simp only [hji28] at H ⊢; exact H)
                                            have hji28_ : (IntKind.u64.wrap (1 * 2 ^ min x17_2.toNat 64)) = ji28 := hji28
                                            have hji28z : x17_2 ≤ 64 → (IntKind.u64.wrap (1 * 2 ^ x17_2.toNat)) = ji28 := shl_small hji28
                                            have hji28u : (IntKind.u64.wrap (2 ^ min x17_2.toNat 64)) = ji28 := by have h_ := hji28_; rw [Int.one_mul] at h_; exact h_
                                            have hji28v : x17_2 ≤ 64 → (IntKind.u64.wrap (2 ^ x17_2.toNat)) = ji28 := fun hle_ => by have h_ := hji28z hle_; rw [Int.one_mul] at h_; exact h_
                                            have H' := Aside0.mk H
                                            clear H
                                            have p22 : 0 ≤ ((ji19) : Int) := of_decide_eq_true (by first | (with_reducible assumption) | assumption)
                                            have q22 : (ji19) < ((a0.extract ((ji13) : Int).toNat ((wrap64 ((ji13) + (wrap64 (Int.tdiv (wrap64 ((wrap64 ((wrap64 (t138)) * (wrap64 (bt a0 t139)))) + 7)) 8)))) : Int).toNat).size : Int) := of_decide_eq_true (by first | (with_reducible assumption) | assumption)
                                            have hx22 := bt_at (a0.extract ((ji13) : Int).toNat ((wrap64 ((ji13) + (wrap64 (Int.tdiv (wrap64 ((wrap64 ((wrap64 (t138)) * (wrap64 (bt a0 t139)))) + 7)) 8)))) : Int).toNat) (ji19)
                                            replace p22 := eq_true p22
                                            replace q22 := eq_true q22
                                            go_wp2
                                            go_roundg k2
                                            case measure => have := HK1.out; have := HK2.out; omega
                                            case rel => exact ⟨(Go.bits .or .u64 x16_2 (ji28)), (wrap64 (x17_2 + 1)), (by first | rfl | (simp; done) | (simp only [← hji28] <;> (first | rfl | simp)) | (simp [*]; done)), (by first | rfl | (simp; done) | (simp [*]; done)), H', ⟨by have := HK1.out; have := HK2.out; omega⟩, ⟨by (with_reducible repeat (first | apply Kd.R_alloc | apply Kd.R_drewN | apply Kd.R_drew)); exact HO_14.out⟩, ⟨by repeat (first | (with_reducible first | exact HB.out | apply below_alloc | apply pw_below_drewN | apply below_drew1) | exact HB.out)⟩⟩
                                          · rw [if_neg c27] at H
                                            exact absurd H (by simp)
                                        · rw [if_neg c26] at H
                                          have c26b0 : ((Go.bits .and .u8 (ji25) 1) == 1) = false := beq_eq_false_iff_ne.mpr c26
                                          have c26b1 : ((Go.bits .and .u8 (ji25) 1) != 1) = true := bne_iff_ne.mpr c26
                                          have H' := Aside0.mk H
                                          clear H
                                          have p22 : 0 ≤ ((ji19) : Int) := of_decide_eq_true (by first | (with_reducible assumption) | assumption)
                                          have q22 : (ji19) < ((a0.extract ((ji13) : Int).toNat ((wrap64 ((ji13) + (wrap64 (Int.tdiv (wrap64 ((wrap64 ((wrap64 (t138)) * (wrap64 (bt a0 t139)))) + 7)) 8)))) : Int).toNat).size : Int) := of_decide_eq_true (by first | (with_reducible assumption) | assumption)
                                          have hx22 := bt_at (a0.extract ((ji13) : Int).toNat ((wrap64 ((ji13) + (wrap64 (Int.tdiv (wrap64 ((wrap64 ((wrap64 (t138)) * (wrap64 (bt a0 t139)))) + 7)) 8)))) : Int).toNat) (ji19)
                                          replace p22 := eq_true p22
                                          replace q22 := eq_true q22
                                          go_wp2
                                          go_roundg k2
                                          case measure => have := HK1.out; have := HK2.out; omega
                                          case rel => exact ⟨(x16_2), (wrap64 (x17_2 + 1)), (by first | rfl | (simp; done) | (simp [*]; done)), (by first | rfl | (simp; done) | (simp [*]; done)), H', ⟨by have := HK1.out; have := HK2.out; omega⟩, ⟨by (with_reducible repeat (first | apply Kd.R_alloc | apply Kd.R_drewN | apply Kd.R_drew)); exact HO_14.out⟩, ⟨by repeat (first | (with_reducible first | exact HB.out | apply below_alloc | apply pw_below_drewN | apply below_drew1) | exact HB.out)⟩⟩
                                      · rw [if_neg c24] at H
                                        exact absurd H (by simp)
                                    · rw [if_neg c21] at H
                                      exact absurd H (by simp)
                                  · rw [if_neg c20] at H
                                    exact absurd H (by simp)
                                · rw [if_neg c18] at H
                                  have c18b0 : decide (x17_2 < (wrap64 (bt a0 t139))) = false := decide_eq_false c18
                                  clear c18
                                  by_cases c29 : a1 < 64
                                  · rw [if_pos c29] at H
                                    have c29b0 : decide (a1 < 64) = true := decide_eq_true c29
                                    clear c29
                                    by_cases c30 : 0 ≤ a1
                                    · rw [if_pos c30] at H
                                      have c30b0 := eq_true c30
                                      have c30b1 : decide (0 ≤ a1) = true := decide_eq_true c30
                                      clear c30
                                      obtain ⟨ji31, hji31⟩ : ∃ j_ : Int, (shr .u64 x16_2 a1) = j_ := ⟨_, rfl⟩
                                      replace H : (if (ji31) = 0 then (if x14_1.length < 17592186044416 then (concordanceref6_Read.l0 k2 a1 t138 t139 (wrap64 (bt a0 t139)) (wrap64 (Int.tdiv (wrap64 ((wrap64 ((wrap64 (t138)) * (wrap64 (bt a0 t139)))) + 7)) 8)) (a0.extract ((ji13) : Int).toNat ((wrap64 ((ji13) + (wrap64 (Int.tdiv (wrap64 ((wrap64 ((wrap64 (t138)) * (wrap64 (bt a0 t139)))) + 7)) 8)))) : Int).toNat) (x14_1 ++ [x16_2]) (wrap64 (x15_1 + 1))) else (none)) else (some (0, ([] : List Int), 0, 3))) = some (r1, r2, r3, r4) := by first | (rw [hji31] at H; exact H) | (simp only [hji31] at H ⊢; exact H)
                                      have hji31_ : (x16_2 / 2 ^ min a1.toNat 64) = ji31 := hji31
                                      have hji31z : a1 ≤ 64 → (x16_2 / 2 ^ a1.toNat) = ji31 := shr_small hji31
                                      by_cases c32 : (ji31) = 0
                                      · rw [if_pos c32] at H
                                        have c32b0 : ((ji31) == 0) = true := beq_iff_eq.mpr c32
                                        have c32b1 : ((ji31) != 0) = false := bne_eq_false_iff_eq.mpr c32
                                        clear c32
                                        by_cases c33 : x14_1.length < 17592186044416
                                        · rw [if_pos c33] at H
                                          have LMc33 := Aside0.mk c33
                                          clear c33
                                          obtain ⟨y141, hy141⟩ : ∃ y_ : List Int, y_ = (x14_1 ++ [x16_2]) := ⟨_, rfl⟩
                                          replace H : (concordanceref6_Read.l0 k2 a1 t138 t139 (wrap64 (bt a0 t139)) (wrap64 (Int.tdiv (wrap64 ((wrap64 ((wrap64 (t138)) * (wrap64 (bt a0 t139)))) + 7)) 8)) (a0.extract ((ji13) : Int).toNat ((wrap64 ((ji13) + (wrap64 (Int.tdiv (wrap64 ((wrap64 ((wrap64 (t138)) * (wrap64 (bt a0 t139)))) + 7)) 8)))) : Int).toNat) y141 (wrap64 (x15_1 + 1))) = some (r1, r2, r3, r4) := by first | (rw [hy141]; with_reducible exact H) | (have H2_ := (Option.bind_some _ _).symm.trans H; rw [hy141]; with_reducible exact H2_) | (have H2_ := (Option.bind_some _ _).symm.trans H; with_reducible exact H2_) | with_reducible exact H | (rw [hy141]; exact H) | exact H
                                          have Ny141 := Aside0.mk hy141
                                          clear hy141
                                          have H' := Aside0.mk H
                                          clear H
                                          go_wp2_with (first | ((with_reducible refine gate_builtin (b := .append) (xs := #[.tmp 105, .tmp 107]) rfl ?_); at_builtin; refine Kd.R_append (Kd.int .u64) (w0 := w) w.heap.size rfl (.tmp 105) (.tmp 107) 28 30 (.int .u64 0) 8 rfl Try.underlying28 info30 rfl (by decide) (by omega) u14 x14_1 x16_2 [.int .u64 x16_2] (fun _ => True) (fun _ => False) rfl rfl ?aP (fun _ hk => hk.elim) ?aF ?aO ?aB ?aS ?aL ?_; (case aP => exact rfl); (case aB => exact (by repeat (first | (with_reducible first | exact HB.out | apply below_alloc | apply pw_below_drewN | apply below_drew1) | exact HB.out))); (case aF => exact (fun _ _ => trivial)); (case aO => exact (by (with_reducible repeat (first | apply Kd.R_alloc | apply Kd.R_drewN | apply Kd.R_drew)); exact HO_14.out)); (case aS => exact (below_size (by repeat (first | (with_reducible first | exact HB.out | apply below_alloc | apply pw_below_drewN | apply below_drew1) | exact HB.out)))); (case aL => have := LMc33.out; omega); intro v142 w34 ho hb hg hat; rw [← Ny141.out] at ho; have n0_ := Aside0.mk (hb); have n1_ := Aside0.mk (ho); clear HB; clear HO_14; have HB := n0_; have HO143 := n1_; clear n0_ n1_; clear ho hb hg hat))
                                          go_roundg k2
                                          case measure => have := HK1.out; have := HK2.out; omega
                                          case rel => exact ⟨(y141), (wrap64 (x15_1 + 1)), (by first | rfl | (simp; done) | (simp [*]; done)), H', ⟨by have := HK1.out; have := HK2.out; omega⟩, ⟨by (with_reducible repeat (first | apply Kd.R_alloc | apply Kd.R_drewN | apply Kd.R_drew)); exact HO143.out⟩, ⟨by repeat (first | (with_reducible first | exact HB.out | apply below_alloc | apply pw_below_drewN | apply below_drew1) | exact HB.out)⟩⟩
                                        · rw [if_neg c33] at H
                                          exact absurd H (by simp)
                                      · rw [if_neg c32] at H
                                        have c32b0 : ((ji31) == 0) = false := beq_eq_false_iff_ne.mpr c32
                                        have c32b1 : ((ji31) != 0) = true := bne_iff_ne.mpr c32
                                        simp only [Option.some.injEq, Prod.mk.injEq] at H
                                        obtain ⟨rfl, rfl, rfl, rfl⟩ := H
                                        go_wp2
                                        refine bodyPost_ret (results_list (rs := [.tmp 4, .tmp 5, .tmp 6, .tmp 7]) rfl (by simp) (.tmp (.tmp (.tmp (.tmp .nil))))) rfl ?_
                                        exact ⟨_, by first | rfl | (simp [errW_none, errW_some] <;> rfl) | (simp only [← hji13, ← hji31]; first | rfl | (simp [errW_none, errW_some] <;> rfl)) | (simp [*, errW_none, errW_some] <;> rfl), by first | exact Kd.R_nil _ _ _ _ _ | exact Kd.N_nil _ _ _ _ _ | exact Kd.V_nil _ _ _ _ _ | exact Kd.Q_nil _ _ _ _ _ | exact Kd.S_nil _ _ _ _ _, by repeat (first | (with_reducible first | exact HB.out | apply below_alloc | apply pw_below_drewN | apply below_drew1) | exact HB.out)⟩
                                    · rw [if_neg c30] at H
                                      exact absurd H (by simp)
                                  · rw [if_neg c29] at H
                                    have c29b0 : decide (a1 < 64) = false := decide_eq_false c29
                                    clear c29
                                    by_cases c35 : x14_1.length < 17592186044416
                                    · rw [if_pos c35] at H
                                      have LMc35 := Aside0.mk c35
                                      clear c35
                                      obtain ⟨y144, hy144⟩ : ∃ y_ : List Int, y_ = (x14_1 ++ [x16_2]) := ⟨_, rfl⟩
                                      replace H : (concordanceref6_Read.l0 k2 a1 t138 t139 (wrap64 (bt a0 t139)) (wrap64 (Int.tdiv (wrap64 ((wrap64 ((wrap64 (t138)) * (wrap64 (bt a0 t139)))) + 7)) 8)) (a0.extract ((ji13) : Int).toNat ((wrap64 ((ji13) + (wrap64 (Int.tdiv (wrap64 ((wrap64 ((wrap64 (t138)) * (wrap64 (bt a0 t139)))) + 7)) 8)))) : Int).toNat) y144 (wrap64 (x15_1 + 1))) = some (r1, r2, r3, r4) := by first | (rw [hy144]; with_reducible exact H) | (have H2_ := (Option.bind_some _ _).symm.trans H; rw [hy144]; with_reducible exact H2_) | (have H2_ := (Option.bind_some _ _).symm.trans H; with_reducible exact H2_) | with_reducible exact H | (rw [hy144]; exact H) | exact H
                                      have Ny144 := Aside0.mk hy144
                                      clear hy144
                                      have H' := Aside0.mk H
                                      clear H
                                      go_wp2_with (first | ((with_reducible refine gate_builtin (b := .append) (xs := #[.tmp 105, .tmp 107]) rfl ?_); at_builtin; refine Kd.R_append (Kd.int .u64) (w0 := w) w.heap.size rfl (.tmp 105) (.tmp 107) 28 30 (.int .u64 0) 8 rfl Try.underlying28 info30 rfl (by decide) (by omega) u14 x14_1 x16_2 [.int .u64 x16_2] (fun _ => True) (fun _ => False) rfl rfl ?aP (fun _ hk => hk.elim) ?aF ?aO ?aB ?aS ?aL ?_; (case aP => exact rfl); (case aB => exact (by repeat (first | (with_reducible first | exact HB.out | apply below_alloc | apply pw_below_drewN | apply below_drew1) | exact HB.out))); (case aF => exact (fun _ _ => trivial)); (case aO => exact (by (with_reducible repeat (first | apply Kd.R_alloc | apply Kd.R_drewN | apply Kd.R_drew)); exact HO_14.out)); (case aS => exact (below_size (by repeat (first | (with_reducible first | exact HB.out | apply below_alloc | apply pw_below_drewN | apply below_drew1) | exact HB.out)))); (case aL => have := LMc35.out; omega); intro v145 w36 ho hb hg hat; rw [← Ny144.out] at ho; have n0_ := Aside0.mk (hb); have n1_ := Aside0.mk (ho); clear HB; clear HO_14; have HB := n0_; have HO146 := n1_; clear n0_ n1_; clear ho hb hg hat))
                                      go_roundg k2
                                      case measure => have := HK1.out; have := HK2.out; omega
                                      case rel => exact ⟨(y144), (wrap64 (x15_1 + 1)), (by first | rfl | (simp; done) | (simp [*]; done)), H', ⟨by have := HK1.out; have := HK2.out; omega⟩, ⟨by (with_reducible repeat (first | apply Kd.R_alloc | apply Kd.R_drewN | apply Kd.R_drew)); exact HO146.out⟩, ⟨by repeat (first | (with_reducible first | exact HB.out | apply below_alloc | apply pw_below_drewN | apply below_drew1) | exact HB.out)⟩⟩
                                    · rw [if_neg c35] at H
                                      exact absurd H (by simp)
                          · rw [if_neg c17] at H
                            have c17b0 : decide (x15_1 < (wrap64 (t138))) = false := decide_eq_false c17
                            clear c17
                            have H' := Aside0.mk H
                            clear H
                            go_wp2
                            go_loopg [19] k1 (fun kq v19 w' => ∃ (x19_2 : Int), v19 = .int .i64 x19_2 ∧ Aside0 (concordanceref6_Read.l2 kq t139 (wrap64 (bt a0 t139)) (wrap64 (Int.tdiv (wrap64 ((wrap64 ((wrap64 (t138)) * (wrap64 (bt a0 t139)))) + 7)) 8)) (a0.extract ((ji13) : Int).toNat ((wrap64 ((ji13) + (wrap64 (Int.tdiv (wrap64 ((wrap64 ((wrap64 (t138)) * (wrap64 (bt a0 t139)))) + 7)) 8)))) : Int).toNat) x14_1 x19_2 = some (r1, r2, r3, r4)) ∧ Aside0 (kq ≤ k1) ∧ Aside0 (Kd.R (Kd.int .u64) 30 w' w.heap.size (fun _ => True) u14 x14_1) ∧ Aside0 (Below w.heap.size w w'))
                            case atStart => exact ⟨(wrap64 ((wrap64 (t138)) * (wrap64 (bt a0 t139)))), (by first | rfl | (simp; done) | (simp [*]; done)), H', ⟨Nat.le_refl _⟩, ⟨by (with_reducible repeat (first | apply Kd.R_alloc | apply Kd.R_drewN | apply Kd.R_drew)); exact HO_14.out⟩, ⟨by repeat (first | (with_reducible first | exact HB.out | apply below_alloc | apply pw_below_drewN | apply below_drew1) | exact HB.out)⟩⟩
                            case round =>
                              clear H'
                              try clear c1
                              try clear p1
                              try clear q1
                              try clear hx1
                              try clear c2
                              try clear p2
                              try clear q2
                              try clear hx2
                              try clear c3
                              try clear c4
                              try clear c4b0
                              try clear c4b1
                              try clear c5
                              try clear c5b0
                              try clear c6
                              try clear c6b0
                              try clear c6b1
                              try clear p6
                              try clear c7
                              try clear c7b0
                              try clear c8
                              try clear c8b0
                              try clear p9
                              try clear q9
                              try clear hx9
                              try clear c10
                              try clear c10b0
                              try clear p11
                              try clear q11
                              try clear hx11
                              try clear c12
                              try clear c12b0
                              try clear c14
                              try clear c14b0
                              try clear c14b1
                              try clear c15
                              try clear c15b0
                              try clear c15b1
                              try clear c16
                              try clear c16b0
                              try clear c16b1
                              try clear c17
                              try clear c17b0
                              try clear c18
                              try clear c18b0
                              try clear c20
                              try clear c20b0
                              try clear c21
                              try clear c21b0
                              try clear p22
                              try clear q22
                              try clear hx22
                              try clear c24
                              try clear c24b0
                              try clear c24b1
                              try clear c26
                              try clear c26b0
                              try clear c26b1
                              try clear c27
                              try clear c27b0
                              try clear c27b1
                              try clear c29
                              try clear c29b0
                              try clear c30
                              try clear c30b0
                              try clear c30b1
                              try clear c32
                              try clear c32b0
                              try clear c32b1
                              try clear c33
                              try clear c35
                              try clear p1
                              try clear p11
                              try clear p2
                              try clear p22
                              try clear p6
                              try clear p9
                              try clear q1
                              try clear q11
                              try clear q22
                              try clear q9
                              obtain ⟨x19_2, rfl, HA, HK2, HO_14, HB⟩ := hrel
                              cases gk with
                              | zero => exact absurd HA.out (by simp [concordanceref6_Read.l2])
                              | succ k2 =>
                                have H := HA.out
                                clear HA
                                simp only [concordanceref6_Read.l2] at H
                                by_cases c37 : x19_2 < (wrap64 (8 * (wrap64 (Int.tdiv (wrap64 ((wrap64 ((wrap64 (t138)) * (wrap64 (bt a0 t139)))) + 7)) 8))))
                                · rw [if_pos c37] at H
                                  have c37b0 : decide (x19_2 < (wrap64 (8 * (wrap64 (Int.tdiv (wrap64 ((wrap64 ((wrap64 (t138)) * (wrap64 (bt a0 t139)))) + 7)) 8))))) = true := decide_eq_true c37
                                  clear c37
                                  obtain ⟨ji38, hji38⟩ : ∃ j_ : Int, (wrap64 (Int.tdiv x19_2 8)) = j_ := ⟨_, rfl⟩
                                  replace H : (if 0 ≤ (ji38) then (if (ji38) < ((a0.extract ((ji13) : Int).toNat ((wrap64 ((ji13) + (wrap64 (Int.tdiv (wrap64 ((wrap64 ((wrap64 (t138)) * (wrap64 (bt a0 t139)))) + 7)) 8)))) : Int).toNat).size : Int) then (if 0 ≤ (Int.tmod x19_2 8) then (if (Go.bits .and .u8 (shr .u8 (bt (a0.extract ((ji13) : Int).toNat ((wrap64 ((ji13) + (wrap64 (Int.tdiv (wrap64 ((wrap64 ((wrap64 (t138)) * (wrap64 (bt a0 t139)))) + 7)) 8)))) : Int).toNat) (ji38)) (Int.tmod x19_2 8)) 1) = 1 then (some (0, ([] : List Int), 0, 3)) else (concordanceref6_Read.l2 k2 t139 (wrap64 (bt a0 t139)) (wrap64 (Int.tdiv (wrap64 ((wrap64 ((wrap64 (t138)) * (wrap64 (bt a0 t139)))) + 7)) 8)) (a0.extract ((ji13) : Int).toNat ((wrap64 ((ji13) + (wrap64 (Int.tdiv (wrap64 ((wrap64 ((wrap64 (t138)) * (wrap64 (bt a0 t139)))) + 7)) 8)))) : Int).toNat) x14_1 (wrap64 (x19_2 + 1)))) else (none)) else (none)) else (none)) = some (r1, r2, r3, r4) := by first | (rw [hji38] at H; exact H) | (simp only [hji38] at H ⊢; exact H)
                                  have hji38w : (IntKind.i64.wrap (Int.tdiv x19_2 8)) = ji38 := (i64_w _).trans hji38
                                  by_cases c39 : 0 ≤ (ji38)
                                  · rw [if_pos c39] at H
                                    have c39b0 : decide (0 ≤ (ji38)) = true := decide_eq_true c39
                                    clear c39
                                    by_cases c40 : (ji38) < ((a0.extract ((ji13) : Int).toNat ((wrap64 ((ji13) + (wrap64 (Int.tdiv (wrap64 ((wrap64 ((wrap64 (t138)) * (wrap64 (bt a0 t139)))) + 7)) 8)))) : Int).toNat).size : Int)
                                    · rw [if_pos c40] at H
                                      have c40y_ := c40
                                      simp only [ByteArray.size_extract] at c40y_
                                      have c40yt_ := eq_true c40y_
                                      have c40b0 : decide ((ji38) < ((a0.extract ((ji13) : Int).toNat ((wrap64 ((ji13) + (wrap64 (Int.tdiv (wrap64 ((wrap64 ((wrap64 (t138)) * (wrap64 (bt a0 t139)))) + 7)) 8)))) : Int).toNat).size : Int)) = true := decide_eq_true c40
                                      clear c40
                                      obtain ⟨ji42, hji42⟩ : ∃ j_ : Int, (Int.tmod x19_2 8) = j_ := ⟨_, rfl⟩
                                      replace H : (if 0 ≤ (ji42) then (if (Go.bits .and .u8 (shr .u8 (bt (a0.extract ((ji13) : Int).toNat ((wrap64 ((ji13) + (wrap64 (Int.tdiv (wrap64 ((wrap64 ((wrap64 (t138)) * (wrap64 (bt a0 t139)))) + 7)) 8)))) : Int).toNat) (ji38)) (ji42)) 1) = 1 then (some (0, ([] : List Int), 0, 3)) else (concordanceref6_Read.l2 k2 t139 (wrap64 (bt a0 t139)) (wrap64 (Int.tdiv (wrap64 ((wrap64 ((wrap64 (t138)) * (wrap64 (bt a0 t139)))) + 7)) 8)) (a0.extract ((ji13) : Int).toNat ((wrap64 ((ji13) + (wrap64 (Int.tdiv (wrap64 ((wrap64 ((wrap64 (t138)) * (wrap64 (bt a0 t139)))) + 7)) 8)))) : Int).toNat) x14_1 (wrap64 (x19_2 + 1)))) else (none)) = some (r1, r2, r3, r4) := by first | (rw [hji42] at H; exact H) | (simp only [hji42] at H ⊢; exact H)
                                      by_cases c43 : 0 ≤ (ji42)
                                      · rw [if_pos c43] at H
                                        have c43b0 := eq_true c43
                                        have c43b1 : decide (0 ≤ (ji42)) = true := decide_eq_true c43
                                        clear c43
                                        obtain ⟨ji44, hji44⟩ : ∃ j_ : Int, (shr .u8 (bt (a0.extract ((ji13) : Int).toNat ((wrap64 ((ji13) + (wrap64 (Int.tdiv (wrap64 ((wrap64 ((wrap64 (t138)) * (wrap64 (bt a0 t139)))) + 7)) 8)))) : Int).toNat) (ji38)) (ji42)) = j_ := ⟨_, rfl⟩
                                        replace H : (if (Go.bits .and .u8 (ji44) 1) = 1 then (some (0, ([] : List Int), 0, 3)) else (concordanceref6_Read.l2 k2 t139 (wrap64 (bt a0 t139)) (wrap64 (Int.tdiv (wrap64 ((wrap64 ((wrap64 (t138)) * (wrap64 (bt a0 t139)))) + 7)) 8)) (a0.extract ((ji13) : Int).toNat ((wrap64 ((ji13) + (wrap64 (Int.tdiv (wrap64 ((wrap64 ((wrap64 (t138)) * (wrap64 (bt a0 t139)))) + 7)) 8)))) : Int).toNat) x14_1 (wrap64 (x19_2 + 1)))) = some (r1, r2, r3, r4) := by first | (rw [hji44] at H; exact H) | (simp only [hji44] at H ⊢; exact H)
                                        have hji44_ : ((bt (a0.extract ((ji13) : Int).toNat ((wrap64 ((ji13) + (wrap64 (Int.tdiv (wrap64 ((wrap64 ((wrap64 (t138)) * (wrap64 (bt a0 t139)))) + 7)) 8)))) : Int).toNat) (ji38)) / 2 ^ min (ji42).toNat 8) = ji44 := hji44
                                        have hji44z : (ji42) ≤ 8 → ((bt (a0.extract ((ji13) : Int).toNat ((wrap64 ((ji13) + (wrap64 (Int.tdiv (wrap64 ((wrap64 ((wrap64 (t138)) * (wrap64 (bt a0 t139)))) + 7)) 8)))) : Int).toNat) (ji38)) / 2 ^ (ji42).toNat) = ji44 := shr_small hji44
                                        by_cases c45 : (Go.bits .and .u8 (ji44) 1) = 1
                                        · rw [if_pos c45] at H
                                          have c45b0 : ((Go.bits .and .u8 (ji44) 1) == 1) = true := beq_iff_eq.mpr c45
                                          have c45b1 : ((Go.bits .and .u8 (ji44) 1) != 1) = false := bne_eq_false_iff_eq.mpr c45
                                          clear c45
                                          simp only [Option.some.injEq, Prod.mk.injEq] at H
                                          obtain ⟨rfl, rfl, rfl, rfl⟩ := H
                                          have p41 : 0 ≤ ((ji38) : Int) := of_decide_eq_true (by first | (with_reducible assumption) | assumption)
                                          have q41 : (ji38) < ((a0.extract ((ji13) : Int).toNat ((wrap64 ((ji13) + (wrap64 (Int.tdiv (wrap64 ((wrap64 ((wrap64 (t138)) * (wrap64 (bt a0 t139)))) + 7)) 8)))) : Int).toNat).size : Int) := of_decide_eq_true (by first | (with_reducible assumption) | assumption)
                                          have hx41 := bt_at (a0.extract ((ji13) : Int).toNat ((wrap64 ((ji13) + (wrap64 (Int.tdiv (wrap64 ((wrap64 ((wrap64 (t138)) * (wrap64 (bt a0 t139)))) + 7)) 8)))) : Int).toNat) (ji38)
                                          replace p41 := eq_true p41
                                          replace q41 := eq_true q41
                                          go_wp2
                                          refine bodyPost_ret (results_list (rs := [.tmp 4, .tmp 5, .tmp 6, .tmp 7]) rfl (by simp) (.tmp (.tmp (.tmp (.tmp .nil))))) rfl ?_
                                          exact ⟨_, by first | rfl | (simp [errW_none, errW_some] <;> rfl) | (simp only [← hji13, ← hji38, ← hji42, ← hji44]; first | rfl | (simp [errW_none, errW_some] <;> rfl)) | (simp [*, errW_none, errW_some] <;> rfl), by first | exact Kd.R_nil _ _ _ _ _ | exact Kd.N_nil _ _ _ _ _ | exact Kd.V_nil _ _ _ _ _ | exact Kd.Q_nil _ _ _ _ _ | exact Kd.S_nil _ _ _ _ _, by repeat (first | (with_reducible first | exact HB.out | apply below_alloc | apply pw_below_drewN | apply below_drew1) | exact HB.out)⟩
                                        · rw [if_neg c45] at H
                                          have c45b0 : ((Go.bits .and .u8 (ji44) 1) == 1) = false := beq_eq_false_iff_ne.mpr c45
                                          have c45b1 : ((Go.bits .and .u8 (ji44) 1) != 1) = true := bne_iff_ne.mpr c45
                                          have H' := Aside0.mk H
                                          clear H
                                          have p41 : 0 ≤ ((ji38) : Int) := of_decide_eq_true (by first | (with_reducible assumption) | assumption)
                                          have q41 : (ji38) < ((a0.extract ((ji13) : Int).toNat ((wrap64 ((ji13) + (wrap64 (Int.tdiv (wrap64 ((wrap64 ((wrap64 (t138)) * (wrap64 (bt a0 t139)))) + 7)) 8)))) : Int).toNat).size : Int) := of_decide_eq_true (by first | (with_reducible assumption) | assumption)
                                          have hx41 := bt_at (a0.extract ((ji13) : Int).toNat ((wrap64 ((ji13) + (wrap64 (Int.tdiv (wrap64 ((wrap64 ((wrap64 (t138)) * (wrap64 (bt a0 t139)))) + 7)) 8)))) : Int).toNat) (ji38)
                                          replace p41 := eq_true p41
                                          replace q41 := eq_true q41
                                          go_wp2
                                          go_roundg k2
                                          case measure => have := HK1.out; have := HK2.out; omega
                                          case rel => exact ⟨(wrap64 (x19_2 + 1)), (by first | rfl | (simp; done) | (simp [*]; done)), H', ⟨by have := HK1.out; have := HK2.out; omega⟩, ⟨by (with_reducible repeat (first | apply Kd.R_alloc | apply Kd.R_drewN | apply Kd.R_drew)); exact HO_14.out⟩, ⟨by repeat (first | (with_reducible first | exact HB.out | apply below_alloc | apply pw_below_drewN | apply below_drew1) | exact HB.out)⟩⟩
                                      · rw [if_neg c43] at H
                                        exact absurd H (by simp)
                                    · rw [if_neg c40] at H
                                      exact absurd H (by simp)
                                  · rw [if_neg c39] at H
                                    exact absurd H (by simp)
                                · rw [if_neg c37] at H
                                  have c37b0 : decide (x19_2 < (wrap64 (8 * (wrap64 (Int.tdiv (wrap64 ((wrap64 ((wrap64 (t138)) * (wrap64 (bt a0 t139)))) + 7)) 8))))) = false := decide_eq_false c37
                                  clear c37
                                  simp only [Option.some.injEq, Prod.mk.injEq] at H
                                  obtain ⟨rfl, rfl, rfl, rfl⟩ := H
                                  go_wp2
                                  refine bodyPost_ret (results_list (rs := [.tmp 4, .tmp 5, .tmp 6, .tmp 7]) rfl (by simp) (.tmp (.tmp (.tmp (.tmp .nil))))) rfl ?_
                                  exact ⟨_, by first | rfl | (simp [errW_none, errW_some] <;> rfl) | (simp only [← hji13]; first | rfl | (simp [errW_none, errW_some] <;> rfl)) | (simp [*, errW_none, errW_some] <;> rfl), by (with_reducible repeat (first | apply Kd.R_alloc | apply Kd.R_drewN | apply Kd.R_drew)); exact HO_14.out, by repeat (first | (with_reducible first | exact HB.out | apply below_alloc | apply pw_below_drewN | apply below_drew1) | exact HB.out)⟩
                    · rw [if_neg c16] at H
                      exact absurd H (by simp)
                  · rw [if_neg c15] at H
                    exact absurd H (by simp)
                · rw [if_neg c14] at H
                  exact absurd H (by simp)
          · rw [if_neg c8] at H
            exact absurd H (by simp)
        · rw [if_neg c7] at H
          exact absurd H (by simp)
  · rw [if_neg c4] at H
    have c4b0 : (t140 == 0) = false := beq_eq_false_iff_ne.mpr c4
    have c4b1 : (t140 != 0) = true := bne_iff_ne.mpr c4
    simp only [Option.some.injEq, Prod.mk.injEq] at H
    obtain ⟨rfl, rfl, rfl, rfl⟩ := H
    go_enter Try.func39, Try.ntmps39
    go_wp2_with (first | ((with_reducible refine gate_callee (f := 61) rfl ?_); refine goesL_ (some 22) rfl rfl Try.func61 (by kernel_rfl) rfl #[.string a0] rfl (by (try simp only [List.map_toArray, List.map_cons, List.map_nil]); first | done | rfl | (simp only [List.length_drop, List.length_take]; rfl)) ?_; (with_reducible refine (concordanceref1_Take.calls k a0 t138 t139 t140 _ A3.out).mono ?_); rintro e w' ⟨rfl, ⟨nd, rfl⟩⟩; refine ⟨_, rfl, ?_⟩))
    refine bodyPost_ret (results_list (rs := [.tmp 4, .tmp 5, .tmp 6, .tmp 7]) rfl (by simp) (.tmp (.tmp (.tmp (.tmp .nil))))) rfl ?_
    exact ⟨_, by first | rfl | (simp [errW_none, errW_some] <;> rfl) | (simp [*, errW_none, errW_some] <;> rfl), by first | exact Kd.R_nil _ _ _ _ _ | exact Kd.N_nil _ _ _ _ _ | exact Kd.V_nil _ _ _ _ _ | exact Kd.Q_nil _ _ _ _ _ | exact Kd.S_nil _ _ _ _ _, by repeat (first | (with_reducible first | exact HB.out | apply below_alloc | apply pw_below_drewN | apply below_drew1) | exact HB.out)⟩

end Go.Proofs.Ytolncaccemfbdaa.PPk

/- The document's Read of packed numbers tells what packed.Read tells: in plain words. -/
namespace Go.Proofs.Ytolncaccemfbdaa.Plain
open Go.RowKit Go.Proofs.YtolncaccemfbdaaW.PrintWords Go.Proofs.YtolncaccemfbdaaW.PrintLast Go.Proofs.YtolncaccemfbdaaW.PrintMore
open Go.Proofs.Ytolncaccemfbdaa.PPk
set_option linter.unusedVariables false
set_option linter.unusedSimpArgs false
theorem strOfNums_extract (l : List Int) (i j : Nat) : (strOfNums l).extract i j = strOfNums ((l.take j).drop i) := by
  apply ByteArray.ext
  rw [ByteArray.data_extract]
  apply Array.ext'
  simp [strOfNums, List.map_take, List.map_drop, List.extract_eq_take_drop]
  rw [List.drop_take]
theorem bt_strOfNums {l : List Int} (h : isB l) (i : Nat) (hi : i < l.length) : bt (strOfNums l) (i : Int) = l[i] := by
  unfold bt
  rw [dif_pos (by rw [strOfNums_size, Int.toNat_natCast]; exact hi)]
  simp only [Int.toNat_natCast]
  have hx := h l[i] (List.getElem_mem _)
  have e : ((strOfNums l)[i]'(by rw [strOfNums_size]; exact hi)) = UInt8.ofNat (l[i]).toNat := by
    simp [strOfNums, ByteArray.getElem_eq_getElem_data]
  rw [e, UInt8.toNat_ofNat']
  omega
theorem bit_u8 (x : Nat) (hx : x < 256) : Go.bits .and .u8 (x : Int) 1 = ((x % 2 : Nat) : Int) := by
  rw [show (1 : Int) = ((1 : Nat) : Int) from rfl, Go.u8_and_nat _ 1 hx (by omega), Nat.and_one_is_mod]
/-- A bit of a string of bytes. -/
theorem ref_bit {l : List Int} (hb : isB l) (hl : l.length ≤ 1000000) {p : Nat} (hp : p < 8 * l.length) :
    wrap64 (Int.tdiv (p : Int) 8) = ((p / 8 : Nat) : Int) ∧ ((p / 8 : Nat) : Int) < ((strOfNums l).size : Int) ∧ 0 ≤ Int.tmod (p : Int) 8 ∧ Go.bits .and .u8 (shr .u8 (bt (strOfNums l) ((p / 8 : Nat) : Int)) (Int.tmod (p : Int) 8)) 1 = ((numB l / 2 ^ p % 2 : Nat) : Int) := by
  have hp8 : p / 8 < l.length := by omega
  have hx := hb _ (List.getElem_mem hp8)
  have e1 : Int.tdiv (p : Int) 8 = ((p / 8 : Nat) : Int) := by rw [Int.tdiv_eq_ediv_of_nonneg (by omega)]; omega
  have e2 : Int.tmod (p : Int) 8 = ((p % 8 : Nat) : Int) := by rw [Int.tmod_eq_emod_of_nonneg (by omega)]; omega
  rw [e1, e2, strOfNums_size]
  refine ⟨w64 (by omega) (by omega), by omega, by omega, ?_⟩
  rw [bt_strOfNums hb _ hp8, numB_bit hb]
  have hg : l.getD (p / 8) 0 = l[p / 8] := by rw [List.getD_eq_getElem?_getD, List.getElem?_eq_getElem hp8, Option.getD_some]
  rw [hg]
  obtain ⟨x, ex⟩ := Int.eq_ofNat_of_zero_le hx.1
  rw [ex] at hx ⊢
  rw [Int.toNat_natCast]
  unfold shr
  rw [show IntKind.u8.bits = 8 from rfl, Int.toNat_natCast, Nat.min_eq_left (by omega)]
  have e3 : (x : Int) / 2 ^ (p % 8) = ((x / 2 ^ (p % 8) : Nat) : Int) := by rw [Int.natCast_ediv, Int.natCast_pow]; rfl
  have hle := Nat.div_le_self x (2 ^ (p % 8))
  rw [e3]
  exact bit_u8 _ (by omega)
theorem w8 {sz : Nat} (h : sz ≤ 800000) : wrap64 (8 * (sz : Int)) = 8 * (sz : Int) := w64 (by omega) (by omega)
theorem wsucc {p : Nat} (h : p ≤ 100000000) : wrap64 ((p : Int) + 1) = ((p + 1 : Nat) : Int) := (w64 (by omega) (by omega)).trans (by omega)
theorem wplace {i q j IW p : Nat} (h1 : i * q = IW) (h2 : IW + j = p) (h3 : p ≤ 100000000) : wrap64 (wrap64 ((i : Int) * (q : Int)) + (j : Int)) = (p : Int) := by
  have hmul : (i : Int) * (q : Int) = (IW : Int) := by rw [← h1]; exact (Int.natCast_mul i q).symm
  rw [hmul, w64 (x := (IW : Int)) (by omega) (by omega)]
  exact (w64 (by omega) (by omega)).trans (by omega)
section
variable {PT : List Int} {N q n sz : Nat} {x8 x9 bits : Int}
/-- The bits behind the numbers. -/
theorem ref_l2 (hb : isB PT) (hl : PT.length = sz) (hsz : sz ≤ 800000) (hN : numB PT = N) (XS : List Int) : ∀ (d k p : Nat), 8 * sz - p = d → d < k → p ≤ 8 * sz →
    concordanceref6_Read.l2 k x9 (q : Int) (sz : Int) (strOfNums PT) XS (p : Int) = some (if ∀ b, b < 8 * sz → p ≤ b → N / 2 ^ b % 2 = 0 then ((q : Int), XS, wrap64 (wrap64 (x9 + 1) + (sz : Int)), 0) else (0, [], 0, 3)) := by
  intro d
  induction d with
  | zero =>
    intro k p hd hk hp
    obtain ⟨k, rfl⟩ : ∃ m, k = m + 1 := ⟨k - 1, by omega⟩
    rw [concordanceref6_Read.l2, w8 hsz, if_neg (by omega), if_pos (fun b h1 h2 => by omega)]
  | succ d ih =>
    intro k p hd hk hp
    obtain ⟨k, rfl⟩ : ∃ m, k = m + 1 := ⟨k - 1, by omega⟩
    have c0 : (p : Int) < 8 * (sz : Int) := by omega
    have c2 : (0 : Int) ≤ ((p / 8 : Nat) : Int) := Int.natCast_nonneg _
    have c4 : p < 8 * sz := by omega
    have c5 : p < 8 * PT.length := by omega
    have c6 : PT.length ≤ 1000000 := by omega
    have c7 : p ≤ 100000000 := by omega
    have hih := ih k (p + 1) (by omega) (by omega) (by omega)
    obtain ⟨e1, e2, e3, e4⟩ := ref_bit hb c6 c5
    rw [concordanceref6_Read.l2, w8 hsz, if_pos c0, e1, if_pos c2, if_pos e2, if_pos e3, e4, hN]
    clear e1 e2 e3 e4
    obtain ⟨b, eb⟩ : ∃ b, N / 2 ^ p % 2 = b := ⟨_, rfl⟩
    have hb2 : b < 2 := by rw [← eb]; exact Nat.mod_lt _ (by decide)
    rw [eb]
    have HBT := Aside0.mk eb
    clear eb
    by_cases h : b = 1
    · subst h
      rw [if_pos (show ((1 : Nat) : Int) = 1 from rfl), if_neg (fun h2 => absurd (HBT.out.symm.trans (h2 p c4 (Nat.le_refl _))) (by decide))]
    · have h0 : b = 0 := by omega
      subst h0
      rw [if_neg (by decide), wsucc c7, hih]
      by_cases h5 : ∀ b, b < 8 * sz → p + 1 ≤ b → N / 2 ^ b % 2 = 0
      · rw [if_pos h5, if_pos (fun b h1 h2 => (Nat.eq_or_lt_of_le h2).elim (fun h3 => by rw [← h3]; exact HBT.out) (fun h3 => h5 b h1 h3))]
      · rw [if_neg h5, if_neg (fun h6 => h5 (fun b h1 h2 => h6 b h1 (Nat.le_of_succ_le h2)))]
/-- A number's bits. -/
theorem ref_l1 (hb : isB PT) (hl : PT.length = sz) (hsz : sz ≤ 800000) (hN : numB PT = N) (hq : q ≤ 64) (i : Nat) (hi : i * q + q ≤ 8 * sz) (XS : List Int) : ∀ (d k j : Nat), q - j = d → j ≤ q →
    concordanceref6_Read.l1 (k + 1 + d) bits x8 x9 (q : Int) (sz : Int) (strOfNums PT) XS (i : Int) ((N / 2 ^ (q * i) % 2 ^ j : Nat) : Int) (j : Int) = concordanceref6_Read.l1 (k + 1) bits x8 x9 (q : Int) (sz : Int) (strOfNums PT) XS (i : Int) ((valN N q i : Nat) : Int) (q : Int) := by
  intro d
  induction d with
  | zero =>
    intro k j hd hj
    obtain rfl : j = q := by omega
    rfl
  | succ d ih =>
    intro k j hd hj
    obtain ⟨IW, eIW⟩ : ∃ IW, i * q = IW := ⟨_, rfl⟩
    rw [eIW] at hi
    obtain ⟨p, hp⟩ : ∃ p, IW + j = p := ⟨_, rfl⟩
    have c0 : (j : Int) < (q : Int) := by omega
    have c1 : (0 : Int) ≤ ((p / 8 : Nat) : Int) := Int.natCast_nonneg _
    have c2 : (0 : Int) ≤ (j : Int) := Int.natCast_nonneg _
    have c5 : p < 8 * PT.length := by omega
    have c6 : PT.length ≤ 1000000 := by omega
    have c7 : p ≤ 100000000 := by omega
    have c8 : j ≤ 100000000 := by omega
    have hih := ih k (j + 1) (by omega) (by omega)
    have hqp : q * i + j = p := by rw [Nat.mul_comm, eIW, hp]
    have hk2 : k + 1 + (d + 1) = (k + 1 + d) + 1 := by omega
    have hj64 : j < 64 := by omega
    obtain ⟨e1, e2, e3, e4⟩ := ref_bit hb c6 c5
    rw [hk2, concordanceref6_Read.l1, if_pos c0, wplace eIW hp c7, e1, if_pos c1, if_pos e2, if_pos e3, e4, hN]
    clear e1 e2 e3 e4
    have hx0 : N / 2 ^ (q * i) % 2 ^ j < 18446744073709551616 := Nat.lt_of_lt_of_le (Nat.mod_lt _ (Nat.two_pow_pos j)) (Nat.pow_le_pow_right (n := 2) (i := j) (j := 64) (by decide) (Nat.le_of_lt hj64))
    have hp2 : 2 ^ j < 18446744073709551616 := Nat.pow_lt_pow_right (a := 2) (n := 64) (by decide) hj64
    have hmj : min j 64 = j := Nat.min_eq_left (Nat.le_of_lt hj64)
    have hs : shl .u64 1 (j : Int) = ((2 ^ j : Nat) : Int) := by
      unfold shl
      rw [show IntKind.u64.bits = 64 from rfl, Int.toNat_natCast, hmj, Int.one_mul, show (2 : Int) ^ j = ((2 ^ j : Nat) : Int) from by rw [Int.natCast_pow]; rfl, wrap_u64]
      generalize 2 ^ j = z at hp2
      omega
    have hone := fun (h : N / 2 ^ p % 2 = 1) => val_one (N := N) (w := q) (i := i) (k := j) (by rw [hqp]; exact h)
    have hnone := fun (h : N / 2 ^ p % 2 = 0) => val_none (N := N) (w := q) (i := i) (k := j) (by rw [hqp]; exact h)
    obtain ⟨b, eb⟩ : ∃ b, N / 2 ^ p % 2 = b := ⟨_, rfl⟩
    have hb2 : b < 2 := by rw [← eb]; exact Nat.mod_lt _ (by decide)
    rw [eb] at hone hnone ⊢
    clear eb
    by_cases h : b = 1
    · subst h
      rw [if_pos (show ((1 : Nat) : Int) = 1 from rfl), if_pos c2, wsucc c8, hs, Go.u64_or_nat _ _ hx0 hp2, ← hone rfl]
      exact hih
    · have h0 : b = 0 := by clear hone hnone hs hx0 hp2 hih; omega
      subst h0
      rw [if_neg (by decide), wsucc c8, ← hnone rfl]
      exact hih
/-- The numbers, and the bits behind them. -/
theorem ref_l0 {B : Nat} (hB : 0 < B ∧ B ≤ 64) (hb : isB PT) (hl : PT.length = sz) (hsz : sz ≤ 800000) (hN : numB PT = N) (hq : q ≤ 64) (hn : n ≤ 100000) (hnq : n * q ≤ 8 * sz) : ∀ (d k i : Nat), n - i = d → i ≤ n → d * (q + 2) + 8 * sz + 2 < k →
    concordanceref6_Read.l0 k (B : Int) (n : Int) x9 (q : Int) (sz : Int) (strOfNums PT) (valsN N q i) (i : Int) = some (if (∀ j, j < n → i ≤ j → valN N q j < 2 ^ B) ∧ (∀ b, b < 8 * sz → n * q ≤ b → N / 2 ^ b % 2 = 0) then ((q : Int), valsN N q n, wrap64 (wrap64 (x9 + 1) + (sz : Int)), 0) else (0, [], 0, 3)) := by
  intro d
  induction d with
  | zero =>
    intro k i hd hi hk
    obtain rfl : i = n := by omega
    obtain ⟨k, rfl⟩ : ∃ m, k = m + 1 := ⟨k - 1, by omega⟩
    have hmul : (i : Int) * (q : Int) = ((i * q : Nat) : Int) := (Int.natCast_mul i q).symm
    rw [concordanceref6_Read.l0, w64 (x := (i : Int)) (by omega) (by omega), if_neg (by omega), hmul, w64 (by omega) (by omega), ref_l2 hb hl hsz hN _ _ k (i * q) rfl (by omega) hnq]
    by_cases h : ∀ b, b < 8 * sz → i * q ≤ b → N / 2 ^ b % 2 = 0
    · rw [if_pos h, if_pos ⟨fun j h1 h2 => by omega, h⟩]
    · rw [if_neg h, if_neg (fun h2 => h h2.2)]
  | succ d ih =>
    intro k i hd hi hk
    have hin : i < n := by omega
    have hiq : i * q + q ≤ 8 * sz := by
      have h1 := Nat.mul_le_mul_right q (show i + 1 ≤ n by omega)
      rw [Nat.succ_mul] at h1
      omega
    have hd2 : (d + 1) * (q + 2) = d * (q + 2) + (q + 2) := Nat.succ_mul _ _
    obtain ⟨k, rfl⟩ : ∃ m, k = m + 1 + q + 1 := ⟨k - q - 2, by omega⟩
    have h1 := ref_l1 (x8 := (n : Int)) (x9 := x9) (bits := (B : Int)) hb hl hsz hN hq i hiq (valsN N q i) q k 0 (by omega) (by omega)
    rw [Nat.pow_zero, Nat.mod_one, show ((0 : Nat) : Int) = 0 from rfl] at h1
    rw [concordanceref6_Read.l0, w64 (x := (n : Int)) (by omega) (by omega), if_pos (by omega), h1, concordanceref6_Read.l1, if_neg (by omega)]
    have hX : valN N q i < 18446744073709551616 := Nat.lt_of_lt_of_le (Nat.mod_lt _ (Nat.two_pow_pos q)) (Nat.pow_le_pow_right (n := 2) (i := q) (j := 64) (by decide) hq)
    have hlen := valsN_length N q i
    have hgo : concordanceref6_Read.l0 k (B : Int) (n : Int) x9 (q : Int) (sz : Int) (strOfNums PT) (valsN N q i ++ [((valN N q i : Nat) : Int)]) (wrap64 ((i : Int) + 1)) = some (if (∀ j, j < n → i + 1 ≤ j → valN N q j < 2 ^ B) ∧ (∀ b, b < 8 * sz → n * q ≤ b → N / 2 ^ b % 2 = 0) then ((q : Int), valsN N q n, wrap64 (wrap64 (x9 + 1) + (sz : Int)), 0) else (0, [], 0, 3)) := by
      rw [← valsN_succ, w64 (by omega) (by omega), show (i : Int) + 1 = ((i + 1 : Nat) : Int) from by omega]
      exact ih k (i + 1) (by omega) (by omega) (by omega)
    have hstep : valN N q i < 2 ^ B → (if (∀ j, j < n → i + 1 ≤ j → valN N q j < 2 ^ B) ∧ (∀ b, b < 8 * sz → n * q ≤ b → N / 2 ^ b % 2 = 0) then ((q : Int), valsN N q n, wrap64 (wrap64 (x9 + 1) + (sz : Int)), (0 : Int)) else (0, [], 0, 3)) = (if (∀ j, j < n → i ≤ j → valN N q j < 2 ^ B) ∧ (∀ b, b < 8 * sz → n * q ≤ b → N / 2 ^ b % 2 = 0) then ((q : Int), valsN N q n, wrap64 (wrap64 (x9 + 1) + (sz : Int)), 0) else (0, [], 0, 3)) := by
      intro hv
      by_cases h : (∀ j, j < n → i + 1 ≤ j → valN N q j < 2 ^ B) ∧ (∀ b, b < 8 * sz → n * q ≤ b → N / 2 ^ b % 2 = 0)
      · rw [if_pos h, if_pos ⟨fun j h1 h2 => by
          rcases Nat.eq_or_lt_of_le h2 with h3 | h3
          · rw [← h3]; exact hv
          · exact h.1 j h1 h3, h.2⟩]
      · rw [if_neg h, if_neg (fun h2 => h ⟨fun j h3 h4 => h2.1 j h3 (by omega), h2.2⟩)]
    by_cases hB64 : B < 64
    · rw [if_pos (by omega), if_pos (by omega)]
      have hs : shr .u64 ((valN N q i : Nat) : Int) (B : Int) = ((valN N q i / 2 ^ B : Nat) : Int) := by
        unfold shr
        rw [show IntKind.u64.bits = 64 from rfl, Int.toNat_natCast, Nat.min_eq_left (by omega), Int.natCast_ediv, Int.natCast_pow]
        rfl
      rw [hs]
      by_cases hv : valN N q i < 2 ^ B
      · rw [Nat.div_eq_of_lt hv, if_pos (show ((0 : Nat) : Int) = 0 from rfl), if_pos (by omega), hgo, hstep hv]
      · have h3 : ¬ (((valN N q i / 2 ^ B : Nat) : Int) = 0) := by
          intro h4
          have h5 : valN N q i / 2 ^ B = 0 := by omega
          rcases Nat.div_eq_zero_iff.1 h5 with h6 | h6
          · exact absurd h6 (Nat.ne_of_gt (Nat.two_pow_pos _))
          · exact hv h6
        rw [if_neg h3, if_neg (fun h2 => hv (h2.1 i hin (Nat.le_refl _)))]
    · have hB' : B = 64 := by omega
      subst hB'
      rw [if_neg (by omega), if_pos (by omega), hgo, hstep hX]
end
theorem quo7' {n q : Nat} : Int.tdiv (((n * q : Nat) : Int) + 7) 8 = (sizeN n q : Int) := by
  rw [Int.tdiv_eq_ediv_of_nonneg (by omega)]
  unfold sizeN
  omega
set_option maxHeartbeats 2000000 in
/-- The document's Read. -/
theorem ref_read {l : List Int} {B : Nat} (hB : 0 < B ∧ B ≤ 64) (hb : isB l) (hl : l.length ≤ 1000000) : concordanceref6_Read.f 20000000 (strOfNums l) (B : Int) = some (readF B l) := by
  have hfact := @takeT_facts l
  have hhd : headF l = _ := rfl
  unfold headF at hhd
  unfold concordanceref6_Read.f
  rw [ref_take_nums hb (by omega) (by omega), Option.bind_some, strOfNums_size]
  obtain ⟨t1, t2, t3, ht⟩ : ∃ t1 t2 t3, takeT l = (t1, t2, t3) := ⟨_, _, _, rfl⟩
  have hH : headF l = if t3 = 0 then (if 100000 < t1 then (0, 0, 0, 2) else if (l.length : Int) ≤ t2 then (0, 0, 0, 4) else if 64 < rd l t2 then (0, 0, 0, 3) else (t1, rd l t2, t2 + 1, 0)) else (0, 0, 0, t3) := by
    unfold headF
    rw [ht]
  rw [ht] at hfact ⊢
  dsimp only at hfact ⊢
  clear hhd
  by_cases h1 : t3 = 0
  · have hf := hfact h1
    rw [if_pos h1]
    rw [if_pos h1] at hH
    by_cases h2 : 100000 < t1
    · rw [if_pos h2] at hH ⊢
      rw [readF_head (by rw [hH]; decide), hH]
    rw [if_neg h2] at hH ⊢
    by_cases h3 : (l.length : Int) ≤ t2
    · rw [if_pos h3] at hH
      rw [if_pos (by omega), readF_head (by rw [hH]; decide), hH]
    rw [if_neg h3] at hH
    obtain ⟨a, ha⟩ := Int.eq_ofNat_of_zero_le (show 0 ≤ t2 by omega)
    obtain ⟨n, hn⟩ := Int.eq_ofNat_of_zero_le hf.1
    have hal : a < l.length := by omega
    have hra := rd_at l a hal
    have hxb := hb _ (List.getElem_mem hal)
    obtain ⟨q, hq⟩ := Int.eq_ofNat_of_zero_le hxb.1
    rw [ha, hra, hq] at hH
    rw [if_neg (by omega), if_pos (by omega), if_pos (by omega), ha, bt_strOfNums hb a hal, hq]
    by_cases h4 : 64 < (q : Int)
    · rw [if_pos h4] at hH ⊢
      rw [readF_head (by rw [hH]; decide), hH]
    rw [if_neg h4] at hH ⊢
    rw [hn] at hH ⊢
    have hsz := size_le (n := n) (w := q) (by omega) (by omega)
    have hmul : (n : Int) * (q : Int) = ((n * q : Nat) : Int) := (Int.natCast_mul n q).symm
    have hquo := Aside0.mk (quo7' (n := n) (q := q))
    have hs64 := Aside0.mk (show wrap64 (sizeN n q : Int) = (sizeN n q : Int) from w64 (by omega) (by omega))
    have hstep := Aside0.mk (show wrap64 (Int.tdiv (wrap64 (wrap64 (wrap64 (n : Int) * wrap64 (q : Int)) + 7)) 8) = (sizeN n q : Int) by
      rw [w64 (x := (n : Int)) (by omega) (by omega), w64 (x := (q : Int)) (by omega) (by omega), hmul, w64 (x := ((n * q : Nat) : Int)) (by omega) (by omega), w64 (x := ((n * q : Nat) : Int) + 7) (by omega) (by omega), hquo.out, hs64.out])
    have hd : headF l = ((n : Int), (q : Int), ((a + 1 : Nat) : Int), 0) := by rw [hH]; rfl
    rw [readF_of hd, hstep.out]
    clear hstep hs64 hd
    rw [w64 (x := (q : Int)) (by omega) (by omega), w64 (x := (l.length : Int) - a) (by omega) (by omega), w64 (x := (l.length : Int) - a - 1) (by omega) (by omega), w64 (x := (a : Int) + 1) (by omega) (by omega), w64 (x := (a : Int) + 1 + (sizeN n q : Int)) (by omega) (by omega)]
    have h8 : n * q ≤ 8 * sizeN n q := by unfold sizeN; omega
    obtain ⟨sz, esz⟩ : ∃ sz, sizeN n q = sz := ⟨_, rfl⟩
    rw [esz] at hsz h8 ⊢
    clear hquo hmul hH
    by_cases h5 : (l.length : Int) - a - 1 < (sz : Int)
    · rw [if_pos h5, if_pos (by omega)]
    rw [if_neg h5, if_pos (by omega), if_pos (by omega), if_pos (by omega), if_neg (show ¬ l.length - (a + 1) < sz by omega)]
    have e1 : ((a : Int) + 1).toNat = a + 1 := by omega
    have e2 : ((a : Int) + 1 + (sz : Int)).toNat = a + 1 + sz := by omega
    have hpt : (l.take (a + 1 + sz)).drop (a + 1) = (l.drop (a + 1)).take sz := by
      rw [List.drop_take]
      congr 1
      omega
    rw [e1, e2, strOfNums_extract, hpt]
    have hpB : isB ((l.drop (a + 1)).take sz) := isB_take (isB_drop hb _) sz
    have hpl : ((l.drop (a + 1)).take sz).length = sz := by rw [List.length_take, List.length_drop]; omega
    obtain ⟨PT, ePT⟩ : ∃ PT, (l.drop (a + 1)).take sz = PT := ⟨_, rfl⟩
    rw [ePT] at hpB hpl ⊢
    have hfu : n * (q + 2) + 8 * sz + 2 < 20000000 := by
      have h6 := Nat.mul_le_mul (show n ≤ 100000 by omega) (show q + 2 ≤ 66 by omega)
      omega
    have hgo := ref_l0 (x9 := (a : Int)) hB hpB hpl hsz.2 rfl (show q ≤ 64 by omega) (show n ≤ 100000 by omega) h8 n 20000000 0 rfl (by omega) (by omega)
    rw [show valsN (numB PT) q 0 = [] from rfl, show ((0 : Nat) : Int) = 0 from rfl] at hgo
    rw [hgo, w64 (x := (a : Int) + 1) (by omega) (by omega), w64 (x := (a : Int) + 1 + (sz : Int)) (by omega) (by omega)]
    have hNl := numB_lt PT hpB
    rw [hpl] at hNl
    have hz := high_zero (N := numB PT) (a := n * q) (8 * sz - n * q) (by rw [show n * q + (8 * sz - n * q) = 8 * sz from by omega]; exact hNl)
    rw [show n * q + (8 * sz - n * q) = 8 * sz from by omega] at hz
    congr 1
    by_cases h7 : (∀ j, j < n → valN (numB PT) q j < 2 ^ B) ∧ numB PT < 2 ^ (q * n)
    · rw [if_pos h7, if_pos ⟨fun j h _ => h7.1 j h, fun b h1 h2 => hz.2 (by rw [Nat.mul_comm]; exact h7.2) b h2 h1⟩]
      have e3 : ((a + 1 + sz : Nat) : Int) = (a : Int) + 1 + (sz : Int) := by omega
      rw [e3]
    · rw [if_neg h7, if_neg (fun h => h7 ⟨fun j hj => h.1 j hj (by omega), by rw [Nat.mul_comm]; exact hz.1 (fun b h1 h2 => h.2 b h2 h1)⟩)]
  · rw [if_neg h1] at hH ⊢
    rw [readF_head (by rw [hH]; exact h1), hH]
end Go.Proofs.Ytolncaccemfbdaa.Plain

/- concordancelaw6.PackedWidths, walked by hand: a width that does holds every number, and one less does not hold the greatest. -/
namespace Go.Proofs.Ytolncaccemfbdaa.Plain
open Go.RowKit Go.Proofs.YtolncaccemfbdaaW.PrintWords Go.Proofs.YtolncaccemfbdaaW.PrintLast Go.Proofs.YtolncaccemfbdaaW.PrintMore
set_option linter.unusedVariables false
set_option linter.unusedSimpArgs false
/-- The greatest of them. -/
def maxN (l : List Int) : Nat := l.foldl (fun m x => max m x.toNat) 0
theorem maxN_snoc (l : List Int) (x : Int) : maxN (l ++ [x]) = max (maxN l) x.toNat := by simp [maxN]
theorem maxN_lt {l : List Int} {k : Nat} (hk : 0 < k) : maxN l < k ↔ ∀ x ∈ l, x.toNat < k := by
  have h : ∀ (l : List Int) (m : Nat), l.foldl (fun m x => max m x.toNat) m < k ↔ m < k ∧ ∀ x ∈ l, x.toNat < k := by
    intro l
    induction l with
    | nil => intro m; simp
    | cons y l ih =>
      intro m
      rw [List.foldl_cons, ih]
      simp only [List.mem_cons, forall_eq_or_imp, Nat.max_lt, and_assoc]
  unfold maxN
  rw [h]
  simp [hk]
theorem widthL_64 {l : List Int} (hb : ∀ x ∈ l, 0 ≤ x ∧ x < 18446744073709551616) : widthL l ≤ 64 := widthL_le.2 fun x hx => Lib.bitLen_le _ 64 (Nat.le_refl _) (by have := hb x hx; omega)
theorem top_lt {l : List Int} (hb : ∀ x ∈ l, 0 ≤ x ∧ x < 18446744073709551616) : maxN l < 2 ^ widthL l := by
  rw [maxN_lt (Nat.two_pow_pos _)]
  intro x hx
  have h1 := bitLen_pow (x := x.toNat) (by have := hb x hx; omega)
  exact Nat.lt_of_lt_of_le h1 (Nat.pow_le_pow_right (by decide) (widthL_le.1 (Nat.le_refl _) x hx))
theorem top_ge {l : List Int} (hb : ∀ x ∈ l, 0 ≤ x ∧ x < 18446744073709551616) (h0 : widthL l ≠ 0) : 2 ^ (widthL l - 1) ≤ maxN l := by
  rcases Nat.lt_or_ge (maxN l) (2 ^ (widthL l - 1)) with h | h
  · have h1 := (maxN_lt (Nat.two_pow_pos _)).1 h
    have h64 := widthL_64 hb
    have h2 : widthL l ≤ widthL l - 1 := widthL_le.2 fun x hx => Lib.bitLen_le _ _ (by omega) (h1 x hx)
    omega
  · exact h
/-- What the last line asks. -/
theorem top_shift {l : List Int} (hb : ∀ x ∈ l, 0 ≤ x ∧ x < 18446744073709551616) : maxN l / 2 ^ widthL l = 0 ∧ (widthL l ≠ 0 → maxN l / 2 ^ (widthL l - 1) = 1) := by
  refine ⟨Nat.div_eq_of_lt (top_lt hb), fun h0 => ?_⟩
  have h1 := top_lt hb
  have h2 := top_ge hb h0
  have e : 2 ^ widthL l = 2 * 2 ^ (widthL l - 1) := by rw [Nat.mul_comm, ← Nat.pow_succ, show (widthL l - 1).succ = widthL l from by omega]
  rw [e] at h1
  have hp := Nat.two_pow_pos (widthL l - 1)
  exact Nat.div_eq_of_lt_le (by omega) (by omega)
end Go.Proofs.Ytolncaccemfbdaa.Plain
namespace Go.Proofs.Ytolncaccemfbdaa.Hand
open Go.RowKit Go.Proofs.YtolncaccemfbdaaW.PrintWords Go.Proofs.YtolncaccemfbdaaW.PrintLast Go.Proofs.YtolncaccemfbdaaW.PrintMore
open Go.Proofs.Ytolncaccemfbdaa.Plain Go.Proofs.Ytolncaccemfbdaa.PPk
attribute [local go_sem] max2_int min2_int max_two min_two
set_option linter.unusedVariables false
set_option linter.unusedSimpArgs false
set_option maxHeartbeats 8000000 in
set_option maxRecDepth 100000 in
theorem widths_walk (A0 : Option Addr) (c0 : Nat) (l : List Int) (w : World) (hr0 : Kd.C (Kd.int .u64) w A0 l.length l) (hc0 : l.length ≤ c0) (_y0 : l.length * 8 ≤ 140737488351232) (hw0 : ∀ n ∈ l, (Lit.int .u64 n).wf = true) :
    Calls Try.prog 5 #[.slice A0 l.length c0] w fun e w' => e = .returned (.bool true) ∧ Below w.heap.size w w' := by
  have hbl : ∀ x ∈ l, 0 ≤ x ∧ x < 18446744073709551616 := fun x hx => by have := wf_u64 (hw0 x hx); omega
  have HBL := Aside0.mk hbl
  have HR0 := Aside0.mk hr0
  have HB := Aside0.mk (Below.refl w.heap.size w)
  clear hw0 hr0 _y0
  by_cases k1 : 500 < l.length
  · have d1 : decide (500 < (l.length : Int)) = true := decide_eq_true (by omega)
    clear hbl
    go_enter Try.func5, Try.ntmps5
    go_wp2_with (first | (go_at_call 11; refine (awake6_calls _).mono ?_; rintro e w9 ⟨rfl, hb⟩; have n1_ := Aside0.mk (below_step HB.out hb); clear HB hb; have HB := n1_; clear n1_))
    go_ret
    exact ⟨rfl, HB.out⟩
  have d1 : decide (500 < (l.length : Int)) = false := decide_eq_false (by omega)
  have hwf := V64.width_f l hbl (by omega)
  have h64 := widthL_64 hbl
  have hsh := top_shift hbl
  have hne : newE (widthL l : Int) l = 0 := newE_of (by omega) (by omega) (Int.le_refl _) (by omega)
  have hnb : newE ((widthL l : Int) - 1) l = 1 := by
    unfold newE
    rw [if_pos (.inr (.inr (by omega)))]
  have HL6 := Aside0.mk (show l.length ≤ 1000000 by omega)
  have HL5 := Aside0.mk (show l.length ≤ 500 by omega)
  have htl := top_lt hbl
  obtain ⟨m, em⟩ : ∃ m, widthL l = m := ⟨_, rfl⟩
  obtain ⟨T, eT⟩ : ∃ T, maxN l = T := ⟨_, rfl⟩
  rw [em] at hwf h64 hsh hne hnb
  rw [eT] at hsh
  have HWF := Aside0.mk hwf
  have HNE := Aside0.mk hne
  have HNB := Aside0.mk hnb
  have HSH := Aside0.mk hsh
  have HET := Aside0.mk eT
  have H64 := Aside0.mk h64
  clear hwf hne hnb hsh eT em h64 hbl k1 htl
  go_enter Try.func5, Try.ntmps5
  go_wp2_with (first | (go_at_call 13; refine (packed_Width_uint64.calls _ _ _ _ _ _ (Kd.C_below HR0.out HB.out) hc0 HWF.out).mono ?_; rintro e w1 ⟨rfl, hb⟩; have n1_ := Aside0.mk (below_step HB.out hb); clear HB hb; have HB := n1_; clear n1_))
  go_loopg [4, 5] 501 (fun kq v4 v5 w' => ∃ i : Nat, v5 = .int .i64 (i : Int) ∧ v4 = .int .u64 ((maxN (l.take i) : Nat) : Int) ∧ Aside0 (i ≤ l.length ∧ l.length - i ≤ kq) ∧ w' = w1)
  case atStart => exact ⟨0, rfl, rfl, ⟨by omega, by have := HL5.out; omega⟩, rfl⟩
  case round =>
    obtain ⟨i, rfl, rfl, HI, rfl⟩ := hrel
    have hi5 : i ≤ 500 := by have := HI.out; have := HL5.out; omega
    by_cases k2 : i < l.length
    · have d2 : decide ((i : Int) < (l.length : Int)) = true := decide_eq_true (by omega)
      obtain ⟨ad, rfl, hcell⟩ := Kd.at_int (Kd.C_below HR0.out HB.out) (i : Int) (by omega) (by omega)
      rw [Int.toNat_natCast, rd_at l i k2] at hcell
      have hxb := HBL.out _ (List.getElem_mem k2)
      have hmx : max (maxN (l.take i)) (l[i]).toNat = maxN (l.take (i + 1)) := by rw [List.take_succ_eq_append_getElem k2, maxN_snoc]
      obtain ⟨x, hx⟩ := Int.eq_ofNat_of_zero_le hxb.1
      rw [hx] at hcell hmx
      rw [Int.toNat_natCast] at hmx
      obtain ⟨a, ea⟩ : ∃ a, maxN (l.take i) = a := ⟨_, rfl⟩
      rw [ea] at hmx ⊢
      have HMX := Aside0.mk hmx
      have HK2 := Aside0.mk k2
      clear hxb hx ea hmx
      by_cases k3 : a < x
      · have k3' : (a : Int) < (x : Int) := by omega
        go_wp2
        go_roundg (l.length - 1 - i)
        case measure => have := HI.out; have := HK2.out; omega
        case rel => exact ⟨i + 1, by go_num, by have := HMX.out; go_num, ⟨by have := HK2.out; omega, by omega⟩, rfl⟩
      · have k3' : ¬ (a : Int) < (x : Int) := by omega
        go_wp2
        go_roundg (l.length - 1 - i)
        case measure => have := HI.out; have := HK2.out; omega
        case rel => exact ⟨i + 1, by go_num, by have := HMX.out; go_num, ⟨by have := HK2.out; omega, by omega⟩, rfl⟩
    · have d2 : decide ((i : Int) < (l.length : Int)) = false := decide_eq_false (by omega)
      obtain rfl : i = l.length := by have := HI.out.1; omega
      rw [List.take_length, HET.out]
      have h64 := H64.out
      have hmw : wrap64 ((m : Int) - 1) = (m : Int) - 1 := w64 (by omega) (by omega)
      have hs0 : (T : Int) / 2 ^ m = 0 := by
        have h := HSH.out.1
        have e : (T : Int) / 2 ^ m = ((T / 2 ^ m : Nat) : Int) := by rw [Int.natCast_ediv, Int.natCast_pow]; rfl
        rw [e, h]
        rfl
      have hs0' : (T : Int) / 2 ^ min m 64 = 0 := by rw [Nat.min_eq_left (by omega)]; exact hs0
      by_cases k4 : m = 0
      · have k4b : ((m : Int) == 0) = true := beq_iff_eq.mpr (by omega)
        have k5b : ((m : Int) == 64) = false := beq_eq_false_iff_ne.mpr (by omega)
        clear k4
        go_wp2_with (first | ((with_reducible refine gate_callee (f := 14) rfl ?_); refine goesL_ (some 31) rfl rfl Try.func14 (by kernel_rfl) rfl #[.int .i64 (m : Int), .slice A0 l.length c0] rfl (by (try simp only [List.map_toArray, List.map_cons, List.map_nil]); first | done | rfl) ?_; refine (V64.new_good (m : Int) A0 c0 l _ (Kd.C_below HR0.out HB.out) hc0 HBL.out HL6.out HNE.out).mono ?_; rintro e w2 ⟨g, rfl, hg, hV, hb⟩; refine ⟨_, rfl, ?_⟩; clear hg hV; have n1_ := Aside0.mk (below_step HB.out hb); clear HB hb; have HB := n1_; clear n1_) | ((with_reducible refine gate_callee (f := 14) rfl ?_); refine goesL_ (some 38) rfl rfl Try.func14 (by kernel_rfl) rfl #[.int .i64 ((m : Int) - 1), .slice A0 l.length c0] rfl (by (try simp only [List.map_toArray, List.map_cons, List.map_nil]); first | done | rfl) ?_; refine (V64.new_bad ((m : Int) - 1) A0 c0 l _ (Kd.C_below HR0.out HB.out) hc0 HBL.out HL6.out 1 HNB.out (by decide)).mono ?_; rintro e w3 ⟨rfl, hb⟩; refine ⟨_, rfl, ?_⟩; have n1_ := Aside0.mk (below_step HB.out hb); clear HB hb; have HB := n1_; clear n1_) | (go_at_call 11; refine (awake6_calls _).mono ?_; rintro e w9 ⟨rfl, hb⟩; have n1_ := Aside0.mk (below_step HB.out hb); clear HB hb; have HB := n1_; clear n1_))
        go_ret
        exact ⟨rfl, HB.out⟩
      · have k4b : ((m : Int) == 0) = false := beq_eq_false_iff_ne.mpr (by omega)
        have hm1 : (0 ≤ (m : Int) - 1) = True := eq_true (by omega)
        have hm1d : decide (0 ≤ (m : Int) - 1) = true := decide_eq_true (by omega)
        have hm1n : ((m : Int) - 1).toNat = m - 1 := by omega
        have hs1 : (T : Int) / 2 ^ (m - 1) = 1 := by
          have h := HSH.out.2 k4
          have e : (T : Int) / 2 ^ (m - 1) = ((T / 2 ^ (m - 1) : Nat) : Int) := by rw [Int.natCast_ediv, Int.natCast_pow]; rfl
          rw [e, h]
          rfl
        have hs1' : (T : Int) / 2 ^ min (m - 1) 64 = 1 := by rw [Nat.min_eq_left (by omega)]; exact hs1
        by_cases k5 : m = 64
        · have k5b : ((m : Int) == 64) = true := beq_iff_eq.mpr (by omega)
          clear k5
          go_wp2_with (first | ((with_reducible refine gate_callee (f := 14) rfl ?_); refine goesL_ (some 31) rfl rfl Try.func14 (by kernel_rfl) rfl #[.int .i64 (m : Int), .slice A0 l.length c0] rfl (by (try simp only [List.map_toArray, List.map_cons, List.map_nil]); first | done | rfl) ?_; refine (V64.new_good (m : Int) A0 c0 l _ (Kd.C_below HR0.out HB.out) hc0 HBL.out HL6.out HNE.out).mono ?_; rintro e w2 ⟨g, rfl, hg, hV, hb⟩; refine ⟨_, rfl, ?_⟩; clear hg hV; have n1_ := Aside0.mk (below_step HB.out hb); clear HB hb; have HB := n1_; clear n1_) | ((with_reducible refine gate_callee (f := 14) rfl ?_); refine goesL_ (some 38) rfl rfl Try.func14 (by kernel_rfl) rfl #[.int .i64 ((m : Int) - 1), .slice A0 l.length c0] rfl (by (try simp only [List.map_toArray, List.map_cons, List.map_nil]); first | done | rfl) ?_; refine (V64.new_bad ((m : Int) - 1) A0 c0 l _ (Kd.C_below HR0.out HB.out) hc0 HBL.out HL6.out 1 HNB.out (by decide)).mono ?_; rintro e w3 ⟨rfl, hb⟩; refine ⟨_, rfl, ?_⟩; have n1_ := Aside0.mk (below_step HB.out hb); clear HB hb; have HB := n1_; clear n1_) | (go_at_call 11; refine (awake6_calls _).mono ?_; rintro e w9 ⟨rfl, hb⟩; have n1_ := Aside0.mk (below_step HB.out hb); clear HB hb; have HB := n1_; clear n1_))
          go_ret
          exact ⟨rfl, HB.out⟩
        · have k5b : ((m : Int) == 64) = false := beq_eq_false_iff_ne.mpr (by omega)
          clear k5
          go_wp2_with (first | ((with_reducible refine gate_callee (f := 14) rfl ?_); refine goesL_ (some 31) rfl rfl Try.func14 (by kernel_rfl) rfl #[.int .i64 (m : Int), .slice A0 l.length c0] rfl (by (try simp only [List.map_toArray, List.map_cons, List.map_nil]); first | done | rfl) ?_; refine (V64.new_good (m : Int) A0 c0 l _ (Kd.C_below HR0.out HB.out) hc0 HBL.out HL6.out HNE.out).mono ?_; rintro e w2 ⟨g, rfl, hg, hV, hb⟩; refine ⟨_, rfl, ?_⟩; clear hg hV; have n1_ := Aside0.mk (below_step HB.out hb); clear HB hb; have HB := n1_; clear n1_) | ((with_reducible refine gate_callee (f := 14) rfl ?_); refine goesL_ (some 38) rfl rfl Try.func14 (by kernel_rfl) rfl #[.int .i64 ((m : Int) - 1), .slice A0 l.length c0] rfl (by (try simp only [List.map_toArray, List.map_cons, List.map_nil]); first | done | rfl) ?_; refine (V64.new_bad ((m : Int) - 1) A0 c0 l _ (Kd.C_below HR0.out HB.out) hc0 HBL.out HL6.out 1 HNB.out (by decide)).mono ?_; rintro e w3 ⟨rfl, hb⟩; refine ⟨_, rfl, ?_⟩; have n1_ := Aside0.mk (below_step HB.out hb); clear HB hb; have HB := n1_; clear n1_) | (go_at_call 11; refine (awake6_calls _).mono ?_; rintro e w9 ⟨rfl, hb⟩; have n1_ := Aside0.mk (below_step HB.out hb); clear HB hb; have HB := n1_; clear n1_))
          go_ret
          exact ⟨rfl, HB.out⟩
end Go.Proofs.Ytolncaccemfbdaa.Hand
