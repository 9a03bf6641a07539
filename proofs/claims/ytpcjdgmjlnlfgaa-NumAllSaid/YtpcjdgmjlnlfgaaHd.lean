/- The contract, proved by hand, of told over num.All: the places and the numbers that num.All tells, at most so many. -/
import Derived.RangeFuncBox
import Derived.RangeFuncLeaves
import Derived.RangeFuncNested
import Derived.Shelf.Abstract
import Derived.OwnWalkIn
import Derived.TacticsInMore
import Derived.LoopNIn
import Derived.LoopIn
import Derived.Maps.AppendAt
import Derived.Test.YtpcjdgmjlnlfgaaHa
import Derived.Test.YtpcjdgmjlnlfgaaTk
import Derived.Outline
namespace Go.Proofs.Ytpcjdgmjlnlfgaa.Hand
open Go.RowKit Go.Shelf Go.Proofs.YtpcjdgmjlnlfgaaW.PrintWords Go.Proofs.YtpcjdgmjlnlfgaaW.PrintLast Go.Proofs.YtpcjdgmjlnlfgaaW.PrintMore
open Go.Proofs.Ytpcjdgmjlnlfgaa.PNum
attribute [local go_sem] Oper.semAt_some
set_option linter.unusedVariables false
set_option linter.unusedSimpArgs false

/-- num.All: the bytes, cloned, lie in a box; the function value captures it. -/
theorem all_calls (A0 : Option Addr) (c0 : Nat) (l0 : List Int) (w : World) (hr0 : Kd.C (Kd.int .u8) w A0 l0.length l0) (hl : l0.length ≤ 140737488355328) :
    Calls Try.prog 26 #[.slice A0 l0.length c0] w fun e w' => ∃ (g : Nat) (v : Value), e = .returned (.func (.func 27) #[] #[.pointer (some ⟨g, 0, none⟩)]) ∧ Boxed w' g 23 v ∧ Kd.R (Kd.int .u8) 5 w' w.heap.size (fun _ => True) v l0 ∧ w.heap.size ≤ g ∧ Below w.heap.size w w' := by
  have HR0 := Aside0.mk hr0
  have HL := Aside0.mk hl
  clear hr0 hl
  go_enter Try.func26, Try.ntmps26
  have b0 := Boxed.new w 23 (.slice A0 l0.length c0)
  have B0 := Aside0.mk b0
  clear b0
  go_wp2_with (go_at_call 24; refine (clone_calls _ _ l0 _ (Kd.C_alloc HR0.out _) HL.out).mono ?_; rintro e w1 ⟨v, rfl, ho, hb⟩; obtain ⟨A1, c1, rfl⟩ := Kd.R_slice ho; have HO := Aside0.mk ho; have b1 := B0.out.kept (grown_of_below hb none) (by simp); have hc1 := b1.cell; have hf1 := b1.frozen; have B1 := Aside0.mk b1; have HB := Aside0.mk hb; clear ho hb b1)
  go_ret
  have hs : w.heap.size < w1.heap.size := B1.out.lt
  refine ⟨w.heap.size, .slice A1 l0.length c1, rfl, B1.out.set _, ?_, Nat.le_refl _, ?_⟩
  · have hne : ∀ k, k < w1.heap.size → k ≠ w.heap.size → (w1.setCell ⟨w.heap.size, 0, none⟩ (.slice A1 l0.length c1)).heap[k]? = w1.heap[k]? := fun k _ hk => Below.heap_setCell _ _ _ k hk
    have h1 := Kd.R_bound HO.out
    have h2 := Kd.R_step h1 (w1 := w1.setCell ⟨w.heap.size, 0, none⟩ (.slice A1 l0.length c1)) (fun k hk hlt => hne k hlt (by have := hk.2.1; simp at this; omega))
    exact Kd.R_mono (Kd.R_lower h2 (by simp)) (fun _ _ => trivial)
  · have hb : Below w.heap.size w w1 := below_then ((Below.refl _ w).alloc (Nat.le_refl _) _) (by simp) HB.out
    exact hb.setCell (p := ⟨w.heap.size, 0, none⟩) (Nat.le_refl _) _

/-- What must lie as it lay: the blocks from lo to hi. -/
def Mid (lo hi : Nat) (W W' : World) : Prop := ∀ k, lo ≤ k → k < hi → W'.heap[k]? = W.heap[k]?
theorem Mid.refl (lo hi : Nat) (W : World) : Mid lo hi W W := fun _ _ _ => rfl
theorem Mid.trans {lo hi : Nat} {A B C : World} (h : Mid lo hi A B) (k : Mid lo hi B C) : Mid lo hi A C := fun i h1 h2 => (k i h1 h2).trans (h i h1 h2)
abbrev encs2 (x : Int × Int) : Array Value := #[.int .i64 x.1, .int .u64 x.2]

set_option maxRecDepth 100000 in
set_option maxHeartbeats 2000000 in
theorem all1_in (n : Nat) (hn : 1 ≤ n) (l g lo hi : Nat) (A : Option Addr) (c : Nat) (l0 : List Int) (hg : lo ≤ g ∧ g < hi) (hlen : l0.length ≤ 140737488355328) (J Jx : List (Int × Int) → World → Prop)
    (hY : ∀ pre x W, J pre W → pre.length < l0.length + 1 → YieldAt Fence.wide (n - 1) Try.prog l (encs2 x) W fun e W' =>
      (e = .returned (.bool true) ∧ J (pre ++ [x]) W' ∧ Mid lo hi W W') ∨ (e = .returned (.bool false) ∧ Jx (pre ++ [x]) W'))
    (W : World) (hJa : AbidesFrom W.heap.size J) (hb : Boxed W g 23 (.slice A l0.length c)) (hF : Kd.F (Kd.int .u8) W (fun k => lo ≤ k ∧ k < hi) A l0.length l0) (hlc : l0.length ≤ c) (h0 : J [] W) :
    CallsIn Fence.wide n Try.prog 27 #[.func (.yield l) #[] #[], .pointer (some ⟨g, 0, none⟩)] W fun e W' => (∃ v, e = .returned v) ∧
      ((∃ ys, ys = items l0 ∧ J ys W') ∨ (∃ pre, pre <+: items l0 ∧ Jx pre W')) := by
  refine callsIn_of_wp Try.func27 rfl trivial ?_ rfl
  simp only [Try.ntmps27, List.size_toArray, List.length_cons, List.length_nil, Nat.reduceAdd, Nat.reduceSub, Array.replicate_succ, Array.replicate_zero, List.push_toArray, List.append_toArray, List.nil_append, List.cons_append]
  have HB := Aside0.mk hb
  have HF := Aside0.mk hF
  have hJa' : ∀ pre A (_ : Unit), J pre A → ∀ nd : Nat, J pre (A.drewN nd) := fun pre A _ h nd => hJa pre A _ none h ⟨rfl, rfl, rfl, Nat.le_refl _, fun _ _ _ => rfl⟩ (fun r e => by cases e)
  clear hb hF
  gi_wp2
  gi_loopw [3] (fun v3 wr => ∃ (a : Int) (kq : Nat) (pre : List (Int × Int)), v3 = .int .i64 a ∧ Aside0 (0 ≤ a ∧ a ≤ l0.length) ∧ Aside0 (items l0 = pre ++ itemsF kq a (l0.drop a.toNat) ∧ (l0.length : Int) - a < kq ∧ pre.length + kq = l0.length + 1) ∧ Aside0 (J pre wr) ∧ Aside0 (Mid lo hi W wr))
    (fun v3 _ => l0.length - (intOf v3).toNat)
  case atStart => exact ⟨0, l0.length + 1, [], rfl, ⟨by omega, by omega⟩, ⟨by simp [items], by omega, by simp⟩, ⟨h0⟩, ⟨Mid.refl _ _ _⟩⟩
  case round =>
    obtain ⟨a, kq, pre, rfl, HA, HI, HJ, HM⟩ := hrel
    have ha0 := HA.out.1
    have ha1 := HA.out.2
    have bB : Boxed wr g 23 (.slice A l0.length c) := (HM.out g hg.1 hg.2).trans HB.out
    have hcB := bB.cell
    by_cases hlt : a < l0.length
    · obtain ⟨i0, hi0, _, hsz, _⟩ := info_parts hinfo_u8
      obtain ⟨A', hcut, hA', hC'⟩ := print_drop_of (P := Try.prog) (Value.int .u8) 0 23 5 .i64 Try.underlying23 hi0 hsz A c l0 a ha0 ha1 hlc
      have hCw : Kd.C (Kd.int .u8) wr A l0.length l0 := Kd.F_now (Kd.F_step HF.out (W1 := wr) (fun k hk _ => HM.out k hk.1 hk.2))
      have hCx := Kd.C_of_reads (h1 := fun _ => rfl) (hA' _ (Kd.reads_of_C hCw))
      obtain ⟨xs, hxs⟩ : ∃ xs, xs = l0.drop a.toNat := ⟨_, rfl⟩
      rw [← hxs] at hcut hC' hCx
      have hxl : xs.length = l0.length - a.toNat := by rw [hxs, List.length_drop]
      obtain ⟨r1, r2, r3, ht, hpos⟩ := take_some xs (by omega)
      have HCX := Aside0.mk hCx
      have HC' := Aside0.mk hC'
      have HT := Aside0.mk ht
      have HX := Aside0.mk hxs
      have HXL := Aside0.mk hxl
      have HPOS := Aside0.mk hpos
      clear hCx hC' ht hpos hA' hCw hi0 hsz hxs hxl
      by_cases h3 : r3 = 0
      · have h3b : (r3 == 0) = true := beq_iff_eq.mpr h3
        have h3c : (r3 != 0) = false := bne_eq_false_iff_eq.mpr h3
        have H3 := Aside0.mk h3
        clear h3
        gi_wp2_with fail
        refine ⟨trivial, ?_⟩
        refine (callsIn_wide.2 (num_Take.calls 30 A' (c - a.toNat) xs r1 r2 r3 _ HCX.out HC'.out HT.out)).mono ?_
        rintro e w' ⟨rfl, ⟨nd, rfl⟩⟩
        have hJd : J pre (wr.drewN nd) := hJa' pre wr () HJ.out nd
        obtain ⟨fn, tmps, assign, body, hy, hR⟩ := hY pre (a, r1) (wr.drewN nd) hJd (by have := HI.out.2.2; have := HI.out.2.1; omega)
        dsimp only [encs2] at hy
        have hp := HPOS.out H3.out
        have hp1 := hp.1
        have hp2 : a + r2 ≤ l0.length := by have := hp.2.1; have := HXL.out; omega
        clear hp
        gi_wp2
        refine hR.mono ?_
        rintro e W3 (⟨rfl, hJ3, hk3⟩ | ⟨rfl, hJx3⟩)
        · have HJ3 := Aside0.mk hJ3
          have HK3 := Aside0.mk hk3
          clear hJ3 hk3 hJd hR hy
          gi_wp2
          go_roundw
          case rel =>
            have hii := HI.out
            have hmid : Mid lo hi W (wr.drewN nd) := HM.out
            have hxn : (l0.drop a.toNat).length ≠ 0 := by rw [List.length_drop]; omega
            obtain ⟨kq, rfl⟩ : ∃ m, kq = m + 1 := ⟨kq - 1, by omega⟩
            have ht := HT.out
            rw [HX.out, H3.out] at ht
            rw [itemsF_step kq a _ hxn ht, List.drop_drop] at hii
            exact ⟨a + r2, kq, pre ++ [(a, r1)], rfl, ⟨by omega, by omega⟩, ⟨by rw [hii.1, show (a + r2).toNat = a.toNat + r2.toNat from by omega]; simp, by omega, by simp only [List.length_append, List.length_singleton]; omega⟩, ⟨HJ3.out⟩, ⟨hmid.trans HK3.out⟩⟩
          case measure => simp [intOf]; omega
        · have hii := HI.out
          have hxn : (l0.drop a.toNat).length ≠ 0 := by rw [List.length_drop]; omega
          obtain ⟨kq, rfl⟩ : ∃ m, kq = m + 1 := ⟨kq - 1, by omega⟩
          have ht := HT.out
          rw [HX.out, H3.out] at ht
          rw [itemsF_step kq a _ hxn ht] at hii
          have hpre : pre ++ [(a, r1)] <+: items l0 := ⟨_, by rw [hii.1, List.append_assoc]; rfl⟩
          have HP := Aside0.mk hpre
          have HJX := Aside0.mk hJx3
          clear hii ht hpre hJx3 hJd hR hy
          gi_wp2
          refine bodyPost_ret (results_none rfl _ _ _) rfl ?_
          exact ⟨⟨_, rfl⟩, .inr ⟨_, HP.out, HJX.out⟩⟩
      · have h3b : (r3 == 0) = false := beq_eq_false_iff_ne.mpr h3
        have h3c : (r3 != 0) = true := bne_iff_ne.mpr h3
        have H3 := Aside0.mk h3
        clear h3
        gi_wp2_with fail
        refine ⟨trivial, ?_⟩
        refine (callsIn_wide.2 (num_Take.calls 30 A' (c - a.toNat) xs r1 r2 r3 _ HCX.out HC'.out HT.out)).mono ?_
        rintro e w' ⟨rfl, ⟨nd, rfl⟩⟩
        have hJd : J pre (wr.drewN nd) := hJa' pre wr () HJ.out nd
        have HJD := Aside0.mk hJd
        clear hJd
        gi_wp2
        refine ⟨fun _ h => (by cases h), ?_⟩
        gi_wp2
        refine bodyPost_ret (results_none rfl _ _ _) rfl ?_
        have ht := HT.out
        rw [HX.out] at ht
        have hii := HI.out.1
        rw [itemsF_stop kq a _ ht H3.out, List.append_nil] at hii
        exact ⟨⟨_, rfl⟩, .inl ⟨_, rfl, by rw [hii]; exact HJD.out⟩⟩
    · gi_wp2
      go_end0
      have hii := HI.out.1
      rw [itemsF_nil kq a _ (by rw [List.length_drop]; omega), List.append_nil] at hii
      have hj : J (items l0) wr := by rw [hii]; exact HJ.out
      first | exact ⟨⟨_, rfl⟩, .inl ⟨_, rfl, hj⟩⟩ | exact ⟨⟨_, rfl⟩, .inl hj⟩

theorem all_stops (n : Nat) (hn : 1 ≤ n) (g lo hi : Nat) (A : Option Addr) (c : Nat) (l0 : List Int) (w : World) (hg : lo ≤ g ∧ g < hi) (hlen : l0.length ≤ 140737488355328) (hb : Boxed w g 23 (.slice A l0.length c)) (hF : Kd.F (Kd.int .u8) w (fun k => lo ≤ k ∧ k < hi) A l0.length l0) (hlc : l0.length ≤ c) (hhi : hi ≤ w.heap.size) :
    SeqStopsK Fence.wide n Try.prog 27 #[.pointer (some ⟨g, 0, none⟩)] encs2 (Mid lo hi) (fun ys => ys = items l0) (fun pre => pre <+: items l0) (l0.length + 1) w := fun l J Jx W hW hJ _ hY h0 =>
  all1_in n hn l g lo hi A c l0 hg hlen J Jx hY W hJ ((hW.block g (by omega)).trans hb) (Kd.F_step hF (fun k hk _ => hW.block k (by omega))) hlc h0

theorem info3i : (Try.prog.info? 3).map (fun i => (i.zero, i.size, i.bytes)) = some (some (.int .i64 0), 1, 8) := by kernel_rfl
theorem info64 : (Try.prog.info? 22).map (fun i => (i.zero, i.size, i.bytes)) = some (some (.int .u64 0), 1, 8) := by kernel_rfl

theorem eql_nilFunc (cs : Array Value) (W : World) : (binOp .eql 54 (.func (.func 27) #[] cs) .nilFunc).run Try.prog W = .ok (.bool false) W := by kernel_rfl

theorem size_set (W : World) (p : Addr) (u : Value) : (W.setCell p u).heap.size = W.heap.size := by simp [World.setCell]
theorem cell_one_new' (W : World) (p : Addr) (u : Value) (v : Value) (t : TypeId) : ∀ j u', [v][j]? = some u' → ((W.setCell p u).alloc (.cells #[v] t)).cell? (Addr.add ⟨W.heap.size, 0, none⟩ j) = some u' := by
  have h := cell_one_new (W.setCell p u) v t
  rwa [size_set] at h
theorem gate_dst_in {F : Fence} {n : Nat} {P : Program} {ops : Array Oper} {rest : List Oper} {o : Oper} {a : Act} {W : World} {Q : Exit → Act → World → Prop} {N : Tmp} (_hN : o.dst = some N) (h : wpListIn F n P ops Q (o :: rest) a W) : wpListIn F n P ops Q (o :: rest) a W := h

/-- What has been gathered so far lies in the two boxes. -/
def Gath (B N : Nat) (most : Int) (pre : List (Int × Int)) (W : World) : Prop :=
  Boxed W B 3 (.int .i64 most) ∧ (∃ v, Boxed W (B + 1) 39 v ∧ W.ownsRow N 3 1 v pre.length (nums .i64 (pre.map (·.1)))) ∧ (∃ v, Boxed W (B + 2) 40 v ∧ W.ownsRow N 22 1 v pre.length (nums .u64 (pre.map (·.2))))

/-- 'xs = append(xs, v)', xs a variable in a box: all that is left of the world. -/
theorem push_box {W w1 : World} {N B : Nat} {t e : TypeId} {v v' : Value} {k m : Nat} {xs ys : List Value} {tmp : Obj} (hb : Boxed W B t v) (hte : t ≠ e) (hrow : W.ownsRow N e 1 v k xs) (hown' : w1.ownsRow N e 1 v' m ys) (hgrow : (W.alloc tmp).grownBy w1 v.ownBlock) :
    Boxed w1 B t v ∧ Boxed (w1.setCell ⟨B, 0, none⟩ v') B t v' ∧ (w1.setCell ⟨B, 0, none⟩ v').ownsRow N e 1 v' m ys ∧ KeepsOthers W (w1.setCell ⟨B, 0, none⟩ v') ∧
    (∀ n₀, n₀ ≤ B → n₀ ≤ N → N ≤ W.heap.size → Below n₀ W (w1.setCell ⟨B, 0, none⟩ v')) ∧ (∀ lo, B < lo → N ≤ W.heap.size → Mid lo N W (w1.setCell ⟨B, 0, none⟩ v')) ∧ W.heap.size ≤ w1.heap.size ∧
    (∀ B' t' u, Boxed W B' t' u → B' < N → Boxed w1 B' t' u) ∧ (∀ B' t' u, Boxed W B' t' u → B' < N → B' ≠ B → Boxed (w1.setCell ⟨B, 0, none⟩ v') B' t' u) ∧
    (∀ e' u k' zs, W.ownsRow N e' 1 u k' zs → e' ≠ e → t ≠ e' → (w1.setCell ⟨B, 0, none⟩ v').ownsRow N e' 1 u k' zs) := by
  obtain ⟨h1, h2, h3, h4, h5⟩ := hb.appended (n₀ := 0) hte (own_weaken hrow (Nat.zero_le _)) (Nat.zero_le _) (Nat.zero_le _) (own_weaken hown' (Nat.zero_le _)) hgrow
  have h6 : (w1.setCell ⟨B, 0, none⟩ v').ownsRow N e 1 v' m ys := hown'.kept (grownBy_setCell' w1 B v') (.inr (h1.not_row hte hown').symm)
  have hsz : W.heap.size ≤ w1.heap.size := Nat.le_trans (by simp) hgrow.size
  have hob : ∀ B' t' u, Boxed W B' t' u → B' < N → Boxed w1 B' t' u := fun B' t' u hu ht => (hu.alloc tmp).kept hgrow (fun he => by have := own_base hrow B' he.symm; omega)
  have hbl : ∀ i, i < W.heap.size → i ≠ B → some i ≠ v.ownBlock → (w1.setCell ⟨B, 0, none⟩ v').heap[i]? = W.heap[i]? := fun i hi hne hno =>
    (Below.heap_setCell w1 ⟨B, 0, none⟩ v' i hne).trans ((hgrow.block i (by simp; omega) hno).trans (Below.heap_alloc W tmp i hi))
  refine ⟨h1, h2, h6, h4, fun n₀ hnB hnN hnW => ⟨h5.os, h5.tape, h5.output, by have := (KeepsWalks.setCell w1 ⟨B, 0, none⟩ v').size; omega, fun i hi => hbl i (by omega) (by omega) (fun he => by have := own_base hrow i he.symm; omega)⟩,
    fun lo hlo hnW i hi1 hi2 => hbl i (by omega) (by omega) (fun he => by have := own_base hrow i he.symm; omega), hsz, hob,
    fun B' t' u hu ht hne => (hob B' t' u hu ht).kept (grownBy_setCell' w1 B v') (by simpa using hne), fun e' u k' zs hz hee htt => ?_⟩
  have hz1 : (W.alloc tmp).ownsRow N e' 1 u k' zs := hz.alloc _
  have hz2 : w1.ownsRow N e' 1 u k' zs := own_other hz1 hgrow (own_type_ne hz1 (hrow.alloc _) hee)
  exact hz2.kept (grownBy_setCell' w1 B v') (.inr (h1.not_row htt hz2).symm)
theorem Gath.own (B N : Nat) (most : Int) : Own (fun pre W => Gath B N most pre W) := by
  rintro pre X Y row ⟨h1, ⟨va, h2, h3⟩, ⟨vl, h4, h5⟩⟩ hg hr
  have k1 := boxed_own (β := Unit) B 3 (fun _ => .int .i64 most) () X Y row h1 hg hr
  obtain ⟨va', k2, k3, _⟩ := holdsRow_own (β := Unit) N (B + 1) 39 3 1 (fun _ => pre.length) (fun _ => nums .i64 (pre.map (·.1))) (fun _ _ => True) () X Y row ⟨va, h2, h3, trivial⟩ hg hr
  obtain ⟨vl', k4, k5, _⟩ := holdsRow_own (β := Unit) N (B + 2) 40 22 1 (fun _ => pre.length) (fun _ => nums .u64 (pre.map (·.2))) (fun _ _ => True) () X Y row ⟨vl, h4, h5, trivial⟩ hg hr
  exact ⟨k1, ⟨va', k2, k3⟩, ⟨vl', k4, k5⟩⟩

/-- What was gathered, handed back: at the function's return, behind the block for the rounds' deferred calls. -/
theorem gath_ends {w W : World} {N D : Nat} {va vl : Value} {pre : List (Int × Int)} (hN : w.heap.size ≤ N) (hra : W.ownsRow N 3 1 va pre.length (nums .i64 (pre.map (·.1)))) (hrl : W.ownsRow N 22 1 vl pre.length (nums .u64 (pre.map (·.2)))) (hB : Below w.heap.size w W) (hK : W.heap[D]? = some (.deferred (some []))) (hD : w.heap.size ≤ D) :
    Kd.R (Kd.int .i64) 3 (W.drew.putObj D (.deferred none)) w.heap.size (fun _ => True) va (pre.map (·.1)) ∧ Kd.R (Kd.int .u64) 22 (W.drew.putObj D (.deferred none)) w.heap.size (fun _ => True) vl (pre.map (·.2)) ∧ Below w.heap.size w (W.drew.putObj D (.deferred none)) := by
  have hK' : W.drew.heap[D]? = some (.deferred (some [])) := hK
  refine ⟨?_, ?_, ?_⟩
  · have h := ownsRow_putObj (show W.drew.ownsRow N 3 1 va pre.length _ from hra) (.deferred none) hK' rfl
    exact Kd.R_of_own (by have h2 := own_weaken h hN; simpa [nums, encs] using h2) (fun _ _ => trivial)
  · have h := ownsRow_putObj (show W.drew.ownsRow N 22 1 vl pre.length _ from hrl) (.deferred none) hK' rfl
    exact Kd.R_of_own (by have h2 := own_weaken h hN; simpa [nums, encs] using h2) (fun _ _ => trivial)
  · exact (below_drew hB).trans (belowK_b (w := w) (Nat.le_refl _) W.drew D _ _ hD hK' rfl rfl)

set_option maxRecDepth 100000 in
set_option maxHeartbeats 2000000 in
theorem told_calls (A0 : Option Addr) (c0 : Nat) (l0 : List Int) (a1 : Int) (r1 r2 : List Int) (w : World) (hr0 : Kd.C (Kd.int .u8) w A0 l0.length l0) (hc0 : l0.length ≤ c0) (h : toldF l0 a1 = some (r1, r2)) :
    Calls Try.prog 21 #[.slice A0 l0.length c0, .int .i64 a1] w fun e w' => ∃ v0_ v1_ : Value, e = .returned (.tuple #[v0_, v1_]) ∧ Kd.R (Kd.int .i64) 3 w' w.heap.size (fun _ => True) v0_ r1 ∧ Kd.R (Kd.int .u64) 22 w' w.heap.size (fun _ => True) v1_ r2 ∧ Below w.heap.size w w' := by
  unfold toldF at h
  by_cases hl : l0.length ≤ 1000000
  · rw [if_pos hl] at h
    injection h with h
    injection h with e1 e2
    subst e1 e2
    refine (callsIn_wide (n := 4)).1 ?_
    refine callsIn_of_wp_marks Try.func21 rfl trivial ?_ rfl
    simp only [Try.ntmps21, List.size_toArray, List.length_cons, List.length_nil, Nat.reduceAdd, Nat.reduceSub, Array.replicate_succ, Array.replicate_zero, List.push_toArray, List.append_toArray, List.nil_append, List.cons_append]
    have HR0 := Aside0.mk hr0
    have HL := Aside0.mk hl
    clear hr0 hl
    have bM := Boxed.new w 3 (.int .i64 a1)
    have bA := Boxed.new (w.alloc (.cells #[.int .i64 a1] 3)) 39 (.slice none 0 0)
    have bL := Boxed.new ((w.alloc (.cells #[.int .i64 a1] 3)).alloc (.cells #[.slice none 0 0] 39)) 40 (.slice none 0 0)
    rw [World.size_alloc] at bA
    rw [World.size_alloc, World.size_alloc] at bL
    have bM' := (bM.alloc (.cells #[.slice none 0 0] 39)).alloc (.cells #[.slice none 0 0] 40)
    have bA' := bA.alloc (.cells #[.slice none 0 0] 40)
    have HBM := Aside0.mk bM'
    have HBA := Aside0.mk bA'
    have HBL := Aside0.mk bL
    clear bM bA bL bM' bA'
    have hbw : Below w.heap.size w (((w.alloc (.cells #[.int .i64 a1] 3)).alloc (.cells #[.slice none 0 0] 39)).alloc (.cells #[.slice none 0 0] 40)) := (((Below.refl _ w).alloc (Nat.le_refl _) _).alloc (by simp) _).alloc (by simp; omega) _
    have HBW := Aside0.mk hbw
    clear hbw
    gi_wp2_with fail
    refine ⟨trivial, ?_⟩
    refine (callsIn_wide.2 (all_calls A0 c0 l0 _ (Kd.C_alloc (Kd.C_alloc (Kd.C_alloc HR0.out _) _) _) (by have := HL.out; omega))).mono ?_
    rintro e wL ⟨g, v, rfl, hbx, hR, hlo, hB⟩
    obtain ⟨A1, c1, rfl⟩ := Kd.R_slice hR
    have hlt : g < wL.heap.size := hbx.lt
    have hF : Kd.F (Kd.int .u8) wL (fun k => w.heap.size + 3 ≤ k ∧ k < wL.heap.size) A1 l0.length l0 := Kd.R_F (Kd.R_mono (Kd.R_bound hR) (fun k hk => ⟨by have := hk.2.1; simp at this; omega, hk.2.2.1⟩))
    have hlc : l0.length ≤ c1 := (Kd.R_reads' hR).2.1
    have hlo' : w.heap.size + 3 ≤ g := by simp at hlo; omega
    have hsz : w.heap.size + 3 ≤ wL.heap.size := by omega
    have bM := HBM.out.kept (grown_of_below hB none) (by simp)
    have bA := HBA.out.kept (grown_of_below hB none) (by simp)
    have bL := HBL.out.kept (grown_of_below hB none) (by simp)
    have hBL : Below w.heap.size w wL := below_then HBW.out (by simp; omega) hB
    have HX := Aside0.mk hbx
    have HF := Aside0.mk hF
    have HM := Aside0.mk bM
    have HA := Aside0.mk bA
    have HLL := Aside0.mk bL
    have HBB := Aside0.mk hBL
    clear hbx hR hB hF bM bA bL hBL HBM HBA HBL HBW hlo
    have hnf := eql_nilFunc #[.pointer (some ⟨g, 0, none⟩)]
    gi_wp2
    refine wpIn_rangeFunc_ownG (n := 4) rfl (by omega) (gf := 27) (lb := #[.pointer (some ⟨g, 0, none⟩)]) rfl trivial (enters_of Try.func27 (by kernel_rfl) rfl)
      (all_stops 3 (by omega) g (w.heap.size + 3) wL.heap.size A1 c1 l0 wL ⟨hlo', hlt⟩ (by have := HL.out; omega) HX.out HF.out hlc (Nat.le_refl _)) (fun h k => Mid.trans h k) (fun W l o o' hle hl _ _ k hk1 hk2 => (grownBy_putObj' W l o').block k (by have := (Array.getElem?_eq_some_iff.1 hl).1; omega) (fun e => by cases e; omega)) (Below.refl _ _) (fun _ => rfl)
      (fun pre W => (Gath w.heap.size wL.heap.size a1 pre W ∧ pre.length ≤ a1.toNat) ∧ Below w.heap.size w W ∧ wL.heap.size ≤ W.heap.size)
      (fun c pre W => (c = .exit 0 ∧ ∃ ini x, pre = ini ++ [x] ∧ Gath w.heap.size wL.heap.size a1 ini W ∧ ini.length = a1.toNat) ∧ Below w.heap.size w W)
      ?hI ?hIx ?h0
      (fun x => { tmps := #[.slice A0 l0.length c0, .int .i64 a1, undef, .pointer (some ⟨w.heap.size, 0, none⟩), .slice none 0 0, .slice none 0 0, .pointer (some ⟨w.heap.size + 1, 0, none⟩), .pointer (some ⟨w.heap.size + 1 + 1, 0, none⟩), .func (.func 27) #[] #[.pointer (some ⟨g, 0, none⟩)], .int .i64 x.1, .int .u64 x.2, .slice A0 l0.length c0, .func (.func 27) #[] #[.pointer (some ⟨g, 0, none⟩)], .func (.func 27) #[] #[.pointer (some ⟨g, 0, none⟩)], .bool false, .func (.func 27) #[] #[.pointer (some ⟨g, 0, none⟩)], .int .i64 x.1, .int .u64 x.2, undef, undef, undef, undef, undef, undef, undef, undef, undef, undef, undef, undef, undef, undef], defers := [] }) ?assign ?body ?done ?stop
    case hI =>
      refine OwnFrom.and (OwnFrom.and (Own.from (Gath.own _ _ _) _) (ownFrom_pure _ _)) (OwnFrom.and (ownFrom_below (Nat.le_refl _) (by omega)) ?_)
      intro s X Y row hs hg hr
      exact Nat.le_trans hs hg.size
    case hIx =>
      intro c
      refine OwnFrom.and ?_ (ownFrom_below (Nat.le_refl _) (by omega))
      rintro s X Y row ⟨hc, ini, x, e1, hgt, e2⟩ hg hr
      exact ⟨hc, ini, x, e1, Gath.own _ _ _ ini X Y row hgt hg (fun r e => (hr r e).2), e2⟩
    case h0 =>
      exact ⟨⟨⟨HM.out, ⟨_, HA.out, World.ownsRow_nil _ _ _ _⟩, ⟨_, HLL.out, World.ownsRow_nil _ _ _ _⟩⟩, Nat.zero_le _⟩, HBB.out, Nat.le_refl _⟩
    case assign =>
      intro l x W K hK
      gi_wp2
      exact hK
    case body =>
      rintro l pre x W ⟨⟨⟨hM, ⟨va, hva, hra⟩, ⟨vl, hvl, hrl⟩⟩, hlen⟩, hB, hsW⟩ hN
      have hl6 := HL.out
      obtain ⟨Aa, ca, rfl⟩ := own_slice hra
      obtain ⟨Al, cl, rfl⟩ := own_slice hrl
      have hcM := hM.cell
      have hcA := hva.cell
      have hcL := hvl.cell
      by_cases hb : a1 ≤ (pre.length : Int)
      · have hbb : decide (a1 ≤ (pre.length : Int)) = true := decide_eq_true hb
        gi_wp2
        exact ⟨KeepsFrom.refl _ _, ⟨rfl, pre, x, rfl, ⟨hM, ⟨_, hva, hra⟩, ⟨_, hvl, hrl⟩⟩, by omega⟩, hB⟩
      · have hbb : decide (a1 ≤ (pre.length : Int)) = false := decide_eq_false hb
        have hp1 : pre.length + 1 ≤ 2000000 := by omega
        have HP1 := Aside0.mk hp1
        have HNB := Aside0.mk hb
        clear hb hp1 hN hlen
        obtain ⟨i3, hi3, hz30, hz31, hz32⟩ := info_parts info3i
        obtain ⟨i6, hi6, hz60, hz61, hz62⟩ := info_parts info64
        gi_wp2_with (first | ((with_reducible refine gate_dst_in (N := 25) rfl ?_); gi_at_builtin; refine wpListIn_append_own _ rfl _ _ 39 rfl wL.heap.size 3 i3 (.int .i64 0) 1 8 Try.underlying39 hi3 hz30 hz31 hz32 rfl (by decide) _ _ _ rfl (hra.alloc _) ⟨W.heap.size, 0, none⟩ 1 1 [.int .i64 x.1] rfl rfl (cell_one_new _ _ _) (by simp [Value.oneCell']) (by have := HP1.out; unfold maxLen; omega) (by have := HP1.out; omega) (by simp; omega) ?_; intro v' w1 hown' hgrow _; obtain ⟨g', cap', rfl⟩ := ownsRow_succ hown'; obtain ⟨p1, p2, p3, p4, p5, p6, p7, p8, p9, p10⟩ := push_box hva (by decide) hra hown' hgrow; have hcA1 := p1.cell; have hfA1 := p1.frozen; have hvl2 := p9 _ _ _ hvl (by omega) (by omega); have hcL2 := hvl2.cell; have hrl2 := p10 _ _ _ _ hrl (by decide) (by decide); have hM2 := p9 _ _ _ hM (by omega) (by omega); have hsW2 : wL.heap.size ≤ w1.heap.size := Nat.le_trans hsW p7) | ((with_reducible refine gate_dst_in (N := 29) rfl ?_); gi_at_builtin; refine wpListIn_append_own _ rfl _ _ 40 rfl wL.heap.size 22 i6 (.int .u64 0) 1 8 Try.underlying40 hi6 hz60 hz61 hz62 rfl (by decide) _ _ _ rfl (hrl2.alloc _) ⟨w1.heap.size, 0, none⟩ 1 1 [.int .u64 x.2] rfl rfl (cell_one_new' _ _ _ _ _) (by simp [Value.oneCell']) (by have := HP1.out; unfold maxLen; omega) (by have := HP1.out; omega) (by simp; omega) ?_; intro v'' w2 hown'' hgrow2 _; obtain ⟨g'', cap'', rfl⟩ := ownsRow_succ hown''; obtain ⟨q1, q2, q3, q4, q5, q6, q7, q8, q9, q10⟩ := push_box hvl2 (by decide) hrl2 hown'' hgrow2; have hcL3 := q1.cell; have hfL3 := q1.frozen))
        have hs2 : wL.heap.size ≤ (w1.setCell ⟨w.heap.size + 1, 0, none⟩ (.slice (some ⟨g', 0, none⟩) (pre.length + 1) cap')).heap.size := by rw [size_set]; exact hsW2
        have hln : (pre ++ [x]).length = pre.length + 1 := by simp
        refine ⟨(p4.trans q4).from _, (p6 _ (by omega) hsW).trans (q6 _ (by omega) hs2), ⟨⟨q9 _ _ _ hM2 (by omega) (by omega), ⟨_, q9 _ _ _ p2 (by omega) (by omega), ?_⟩, ⟨_, q2, ?_⟩⟩, by rw [hln]; have := HNB.out; omega⟩, (hB.trans (p5 _ (by omega) (by omega) hsW)).trans (q5 _ (by omega) (by omega) hs2), ?_⟩
        · rw [hln]; have h := q10 _ _ _ _ p3 (by decide) (by decide); simpa [nums] using h
        · rw [hln]; simpa [nums] using q3
        · rw [size_set]; exact Nat.le_trans hs2 q7
    case done =>
      rintro D ys W hD rfl ⟨⟨⟨hM, ⟨va, hva, hra⟩, ⟨vl, hvl, hrl⟩⟩, hlen⟩, hB, hsW⟩ hK
      have hcA := hva.cell
      have hcL := hvl.cell
      gi_wp2
      gi_region
      all_goals
        try gi_wp2
        refine ⟨by simp, .inl ⟨_, _, rfl, run_takeDeferred (w := W.drew) hK, ?_⟩⟩
        refine ⟨_, results_tmp2 rfl _ _ _, va, vl, rfl, ?_⟩
        rw [List.take_of_length_le hlen]
        exact gath_ends (by omega) hra hrl hB hK (by omega)
    case stop =>
      rintro D c pre W hD hpre ⟨⟨rfl, ini, x, rfl, ⟨hM, ⟨va, hva, hra⟩, ⟨vl, hvl, hrl⟩⟩, hlen⟩, hB⟩ hK
      have hcA := hva.cell
      have hcL := hvl.cell
      obtain ⟨rest, hrest⟩ := hpre
      have htk : (items l0).take a1.toNat = ini := by
        rw [← hrest, List.append_assoc, ← hlen, List.take_left]
      have HTK := Aside0.mk htk
      clear htk hrest hlen
      gi_wp2
      gi_region
      all_goals
        try gi_wp2
        refine ⟨by simp, .inl ⟨_, _, rfl, run_takeDeferred (w := W.drew) hK, ?_⟩⟩
        refine ⟨_, results_tmp2 rfl _ _ _, va, vl, rfl, ?_⟩
        rw [HTK.out]
        exact gath_ends (by omega) hra hrl hB hK (by omega)
  · rw [if_neg hl] at h
    cases h
end Go.Proofs.Ytpcjdgmjlnlfgaa.Hand
