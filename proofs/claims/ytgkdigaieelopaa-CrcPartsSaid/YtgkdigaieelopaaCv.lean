/- The bytes of a constant string: the conversion of their row to its own type marks the row's block and leaves its cells as they are. -/
import Derived.Test.YtgkdigaieelopaaHa
import Derived.Lib.SlBytesConst
namespace Go.Proofs.Ytgkdigaieelopaa.Hand
open Go.RowKit Go.Proofs.YtgkdigaieelopaaW.PrintWords Go.Proofs.YtgkdigaieelopaaW.PrintLast Go.Proofs.YtgkdigaieelopaaW.PrintMore
set_option linter.unusedVariables false
set_option linter.unusedSimpArgs false
theorem cell_freeze (W : World) (a : Addr) (n : Nat) (x : Addr) : (W.freeze a n).cell? x = W.cell? x := by
  unfold World.freeze
  split
  · rfl
  · simp only [World.cell?, Array.getElem?_modify]
    by_cases h : a.block = x.block
    · rw [if_pos h]
      cases W.heap[x.block]? with
      | none => rfl
      | some o => cases o <;> rfl
    · rw [if_neg h]
theorem below_freeze {B : Nat} {w W : World} (h : Below B w W) {a : Addr} (ha : B ≤ a.block) (n : Nat) : Below B w (W.freeze a n) := by
  refine h.trans ?_
  unfold World.freeze
  split
  · exact Below.refl _ _
  · exact ⟨rfl, rfl, rfl, by simp, fun k hk => by simp only [Array.getElem?_modify]; rw [if_neg (by omega)]⟩
theorem conv_mark {W : World} {base : Nat} {ok : Nat → Prop} {A : Option Addr} {c : Nat} {xs : List Int} (h : Kd.R (Kd.int .u8) 5 W base ok (.slice A xs.length c) xs) (hp : 0 < xs.length) :
    ∃ w', (convert 22 22 (.slice A xs.length c)).run Try.prog W = .ok (.slice A xs.length c) w' ∧ (xs.length ≤ c ∧ Kd.C (Kd.int .u8) w' A xs.length xs) ∧ ∀ B w0, B ≤ base → Below B w0 W → Below B w0 w' := by
  obtain ⟨g, cap, he, hg, hlt, cells, hcells⟩ := Kd.R_form h hp
  have hrd := Kd.R_reads' h
  injection he with h1 h2 h3
  subst h1
  refine ⟨W.freeze ⟨g, cells.size, none⟩ 1, ?_, ⟨hrd.2.1, ?_⟩, fun B w0 hB hb => below_freeze hb (by show B ≤ g; omega) 1⟩
  · have hsh : W.shape? g = some (5, cells.size) := by
      unfold World.shape?
      rw [hcells]
    simp [convert, run_underlying Try.underlying22, run_underlying Try.underlying5, markStringish, hsh]
  · have h9 := Kd.reads_of_C (d := (0 : Int)) hrd.2.2
    refine Kd.C_of_reads (d := (0 : Int)) (h1 := fun _ => rfl) ?_
    unfold ReadsOf at h9 ⊢
    simpa only [cell_freeze] using h9
section
variable {P : Program} {ops : Array Oper} {rest : List Oper} {o : Oper} {a : Act} {Q : Exit → Act → World → Prop}
theorem C_alloc_nums (W : World) (e : TypeId) (f : Nat × Nat) (xs : List Int) (hm : xs.length ≤ 9223372036854775807) : Kd.C (Kd.int .u8) (W.alloc (.cells (nums .u8 xs).toArray e f)) (some ⟨W.heap.size, 0, none⟩) xs.length xs := by
  refine Kd.C_of_reads (d := (0 : Int)) (h1 := fun _ => rfl) ⟨rfl, hm, fun _ => ⟨_, rfl, fun j hj => ?_⟩⟩
  rw [add_plain, cell_of_row _ W.heap.size j (nums .u8 xs).toArray e f (blk_new W _)]
  simp [nums, hj]
/-- The bytes of a constant string, behind their conversion: they read as they are written. -/
theorem lit_conv {W : World} {t e : TypeId} {x : Operand} {xs ys : List Int} (hgd : o.guard = none) (ho : o.op = .convert t t x) (hx : a.eval x = .slice (some ⟨W.heap.size, 0, none⟩) xs.length xs.length) (hy : ys = xs) (hm : xs.length ≤ 9223372036854775807)
    (ht : P.underlying t = some (.slice e)) (he : P.underlying e = some (.int .u8))
    (h : ∀ A w1, Kd.C (Kd.int .u8) w1 A ys.length ys → Below W.heap.size W w1 → wpList P ops Q rest (a.put o.dst (.slice A ys.length ys.length)) w1) :
    wpList P ops Q (o :: rest) a (W.alloc (.cells (nums .u8 xs).toArray e)) := by
  subst hy
  have hr := Lib.run_convert_bytes_const (P := P) W t e (nums .u8 ys).toArray ys.length ys.length ht he
  refine Kd.event_run hgd ?_ (h (some ⟨W.heap.size, 0, none⟩) (W.alloc (.cells (nums .u8 ys).toArray e ((nums .u8 ys).toArray.size, (nums .u8 ys).toArray.size + 1))) (C_alloc_nums W e _ ys hm) ((Below.refl _ _).alloc (Nat.le_refl _) _))
  simp [execOp, ho, hx, hr]
end
end Go.Proofs.Ytgkdigaieelopaa.Hand
