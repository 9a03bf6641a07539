/- An append to a row of bytes that is full (its capacity is its length), told once for the walks: what comes of it reads as both rows together; memory that was there before stays as it was. -/
import Derived.Test.YtpcjdgmjlnlfgaaHa
import Derived.ArgAppend
namespace Go.Proofs.Ytpcjdgmjlnlfgaa.Hand
open Go.RowKit Go.Proofs.YtpcjdgmjlnlfgaaW.PrintWords Go.Proofs.YtpcjdgmjlnlfgaaW.PrintLast Go.Proofs.YtpcjdgmjlnlfgaaW.PrintMore
set_option linter.unusedVariables false
set_option linter.unusedSimpArgs false

section
variable {P : Program}
theorem run_append_none (w : World) (t ty e : TypeId) (i : TypeInfo) (ht : P.underlying t = some (.slice e)) (hi : P.info? e = some i) (b A2 : Option Addr) (n cap c2 : Nat) (hle : n ≤ cap) :
    (Builtin.append_ #[t, t] ty #[.slice b n cap, .slice A2 0 c2]).run P w = .ok (.slice b n cap) w := by
  cases b <;> cases A2 <;> simp [Builtin.append_, run_underlying ht, sizeOf, typeInfo, hi, Builtin.lenOf, hle, Builtin.firstCells, loadCells, loadCellsFrom, storeCells]

theorem C_cells {w : World} {ad : Addr} {n : Nat} {xs : List Int} (h : Kd.C (Kd.int .u8) w (some ad) n xs) : ∀ j u, (nums .u8 xs)[j]? = some u → w.cell? (ad.add j) = some u := by
  intro j u hu
  have hn := Kd.C_len h
  obtain ⟨hj, he⟩ := List.getElem?_eq_some_iff.1 hu
  rw [nums_length] at hj
  obtain ⟨ad', e', hc⟩ := Kd.at_int h (j : Int) (by omega) (by omega)
  injection e' with e'
  subst e'
  rw [Int.toNat_natCast] at hc
  rw [hc, ← he]
  simp [nums, rd, hj]

theorem append_full {ops : Array Oper} {rest : List Oper} {o : Oper} {a : Act} {Q : Exit → Act → World → Prop} {w0 W : World} (base : Nat) (hgd : o.guard = none) (s x : Operand) (t e : TypeId)
    (ho : o.op = .call { callee := .builtin .append, args := #[s, x], argTypes := #[t, t] }) (ht : P.underlying t = some (.slice e)) (hinfo : (P.info? e).map (fun i => (i.zero, i.size, i.bytes)) = some (some (.int .u8 0), 1, 1))
    (A : Option Addr) (xs : List Int) (hs : a.eval s = .slice A xs.length xs.length) (HC : Kd.C (Kd.int .u8) W A xs.length xs) (A2 : Option Addr) (c2 : Nat) (ys : List Int) (hx : a.eval x = .slice A2 ys.length c2) (HC2 : Kd.C (Kd.int .u8) W A2 ys.length ys)
    (HB : Below base w0 W) (hbase : base ≤ W.heap.size) (hl : xs.length + ys.length ≤ 140737488355328)
    (h : ∀ A1 c1 w1, (xs ++ ys).length ≤ c1 → Kd.C (Kd.int .u8) w1 A1 (xs ++ ys).length (xs ++ ys) → Below base w0 w1 → Below W.heap.size W w1 → wpList P ops Q rest (a.put o.dst (.slice A1 (xs ++ ys).length c1)) w1) :
    wpList P ops Q (o :: rest) a W := by
  obtain ⟨i, hi, hz, h1, h2⟩ : ∃ i, P.info? e = some i ∧ i.zero = some (.int .u8 0) ∧ i.size = 1 ∧ i.bytes = 1 := by
    cases hc : P.info? e with
    | none => rw [hc] at hinfo; cases hinfo
    | some i =>
      rw [hc] at hinfo
      injection hinfo with hinfo
      injection hinfo with q1 q2
      injection q2 with q2 q3
      exact ⟨i, rfl, q1, q2, q3⟩
  cases ys with
  | nil =>
    refine wpList_plain hgd fun K hK' => ?_
    have hrun := run_append_none W t o.type e i ht hi A A2 xs.length xs.length c2 (Nat.le_refl _)
    have hfin := h A xs.length W (by simp) (by simpa using HC) HB (Below.refl _ _)
    rw [List.append_nil] at hfin
    unfold Oper.wp
    rw [List.length_nil] at hx
    simp [execOp, ho, resolve, invoke, builtin, hs, hx, hrun, Result.andThen]
    exact hK' _ _ hfin
  | cons y ys =>
    obtain ⟨ad, rfl, _⟩ := Kd.at_int HC2 0 (by omega) (by simp only [List.length_cons]; omega)
    refine wpList_append_grows W hgd s x t ho e i (.int .u8 0) 1 1 ht hi hz h1 h2 rfl (by omega) A xs.length xs.length (nums .u8 xs) hs (fun hn => ?_) (by simp [nums_length]) (fun b hb => ?_) ad (y :: ys).length c2 (nums .u8 (y :: ys)) hx (by simp [nums_length]) (C_cells HC2) (fun u hu => ?_) (by simp) (by simp only [maxLen]; omega) (by omega) ?_
    · subst hn
      have := C_none HC
      exact ⟨this, this⟩
    · subst hb
      exact C_cells HC
    · obtain ⟨q, _, rfl⟩ := List.mem_map.1 hu
      rfl
    · intro v' w' hown hg
      rw [← nums_append] at hown
      have hb' : Below W.heap.size W w' := pw_below_grown (Below.refl _ _) none (Nat.le_refl _) hg (fun k hk => by cases hk)
      obtain ⟨A1, c1, rfl, hrd⟩ := own_reads hown
      have hle := own_le hown
      rw [← List.length_append] at hrd hle ⊢
      exact h A1 c1 w' hle (Kd.C_of_reads (d := (0 : Int)) (h1 := fun _ => rfl) hrd) (below_then HB hbase hb') hb'
theorem C_box (W : World) (e : TypeId) (y : Int) : Kd.C (Kd.int .u8) (W.alloc (.cells [.int .u8 y].toArray e)) (some ⟨W.heap.size, 0, none⟩) 1 [y] := by
  have h := own_lit W 0 e .u8 [y] (by omega) (by simp)
  obtain ⟨A, c, hv, hr⟩ := own_reads h
  injection hv with h1 h2 h3
  subst h1
  exact Kd.C_of_reads (d := (0 : Int)) (h1 := fun _ => rfl) hr
theorem append1_full {ops : Array Oper} {rest : List Oper} {o : Oper} {a : Act} {Q : Exit → Act → World → Prop} {w0 W : World} (base : Nat) (hgd : o.guard = none) (s x : Operand) (t e : TypeId)
    (ho : o.op = .call { callee := .builtin .append, args := #[s, x], argTypes := #[t, t] }) (ht : P.underlying t = some (.slice e)) (hinfo : (P.info? e).map (fun i => (i.zero, i.size, i.bytes)) = some (some (.int .u8 0), 1, 1))
    (A : Option Addr) (n : Nat) (xs : List Int) (y : Int) (hn : n = xs.length) (hs : a.eval s = .slice A n n) (HC : Kd.C (Kd.int .u8) W A xs.length xs) (hx : a.eval x = .slice (some ⟨W.heap.size, 0, none⟩) 1 1)
    (HB : Below base w0 W) (hbase : base ≤ W.heap.size) (hl : xs.length + 1 ≤ 140737488355328)
    (h : ∀ A1 c1 w1, (xs ++ [y]).length ≤ c1 → Kd.C (Kd.int .u8) w1 A1 (xs ++ [y]).length (xs ++ [y]) → Below base w0 w1 → wpList P ops Q rest (a.put o.dst (.slice A1 (xs ++ [y]).length c1)) w1) :
    wpList P ops Q (o :: rest) a (W.alloc (.cells [.int .u8 y].toArray e)) := by
  subst hn
  exact append_full base hgd s x t e ho ht hinfo A xs hs (Kd.C_alloc HC _) _ 1 [y] hx (C_box W e y) (below_then HB hbase (below_alloc (Below.refl _ _) _)) (Nat.le_trans hbase (below_alloc (Below.refl _ _) _).size) hl (fun A1 c1 w1 h1 h2 h3 _ => h A1 c1 w1 h1 h2 h3)
end
end Go.Proofs.Ytpcjdgmjlnlfgaa.Hand
