/- Contracts, proved by hand, of crc.table and crc.More: the table of what four bits make of a sum; the sum of what a sum is of, and more (moreN). -/
import Derived.Test.YtgkdigaieelopaaHa
import Derived.Test.YtgkdigaieelopaaCa
import Derived.Laws.IdiomCopy
namespace Go.Proofs.Ytgkdigaieelopaa.Hand
open Go.RowKit Go.Proofs.YtgkdigaieelopaaW.PrintWords Go.Proofs.YtgkdigaieelopaaW.PrintLast Go.Proofs.YtgkdigaieelopaaW.PrintMore
open Go.Proofs.Ytgkdigaieelopaa.Plain
set_option linter.unusedVariables false
set_option linter.unusedSimpArgs false

/-- What cells that are stored in a row leave in their block. -/
theorem heap_setCells_go (b : Nat) (t : TypeId) : ∀ (vs : List Value) (pre old post : List Value) (W : World), old.length = vs.length → W.heap[b]? = some (.cells (pre ++ old ++ post).toArray t (0, 0)) →
    (W.setCells b pre.length vs).heap[b]? = some (.cells (pre ++ vs ++ post).toArray t (0, 0))
  | [], pre, old, post, W, hl, h => by
    obtain rfl : old = [] := List.length_eq_zero_iff.1 hl
    exact h
  | v :: vs, pre, old, post, W, hl, h => by
    obtain ⟨u, old, rfl⟩ : ∃ u r, old = u :: r := by
      cases old with
      | nil => simp at hl
      | cons u r => exact ⟨u, r, rfl⟩
    rw [World.setCells]
    have h2 : (W.setCell ⟨b, pre.length, none⟩ v).heap[b]? = some (.cells ((pre ++ [v]) ++ old ++ post).toArray t (0, 0)) := by
      rw [blk_set h]
      congr 2
      apply Array.ext'
      simp
    have := heap_setCells_go b t vs (pre ++ [v]) old post _ (by simpa using hl) h2
    rw [List.length_append, List.length_singleton] at this
    rw [this]
    simp
theorem heap_setCells (b : Nat) (t : TypeId) (vs : List Value) (cs : Array Value) (W : World) (hl : cs.size = vs.length) (h : W.heap[b]? = some (.cells cs t (0, 0))) : (W.setCells b 0 vs).heap[b]? = some (.cells vs.toArray t (0, 0)) := by
  have := heap_setCells_go b t vs [] cs.toList [] W (by simpa using hl) (by simpa using h)
  simpa using this
theorem heap_setCells_other (b : Nat) : ∀ (vs : List Value) (o : Nat) (W : World) (g : Nat), g ≠ b → (W.setCells b o vs).heap[g]? = W.heap[g]?
  | [], _, _, _, _ => rfl
  | v :: vs, o, W, g, hg => by
    rw [World.setCells, heap_setCells_other b vs _ _ g hg]
    exact Below.heap_setCell W ⟨b, o, none⟩ v g hg
theorem below_setCells {B : Nat} {w : World} (b : Nat) (hb : B ≤ b) : ∀ (vs : List Value) (o : Nat) (W : World), Below B w W → Below B w (W.setCells b o vs)
  | [], _, _, h => h
  | v :: vs, o, W, h => by
    rw [World.setCells]
    exact below_setCells b hb vs _ _ (h.setCell (p := ⟨b, o, none⟩) hb v)
theorem blk_cell16 {W : World} {b : Nat} {t : TypeId} {xs : List Int} (h : W.heap[b]? = some (.cells (nums .u32 xs).toArray t (0, 0))) (j : Nat) (hj : j < xs.length) : W.cell? ⟨b, j, none⟩ = some (.int .u32 xs[j]) := by
  rw [blk_cell h j]
  simp [nums, hj]

theorem alloc_size (w : World) (o : Obj) : (w.alloc o).heap.size = w.heap.size + 1 := by simp
/-- The table, filled as far as i. -/
def tabL (i : Nat) : List Int := (List.range 16).map fun j => if j < i then ((bitsN 4 j : Nat) : Int) else 0
theorem tabL_length (i : Nat) : (tabL i).length = 16 := by simp [tabL]
def tabO (i : Nat) : Obj := .cells (nums .u32 (tabL i)).toArray 45 (0, 0)

theorem tabO_zero : tabO 0 = .cells #[.int .u32 0, .int .u32 0, .int .u32 0, .int .u32 0, .int .u32 0, .int .u32 0, .int .u32 0, .int .u32 0, .int .u32 0, .int .u32 0, .int .u32 0, .int .u32 0, .int .u32 0, .int .u32 0, .int .u32 0, .int .u32 0] 45 (0, 0) := by kernel_rfl

theorem load_tab (W : World) (b i : Nat) (h : W.heap[b]? = some (tabO i)) : (Instr.loadAt 45 (.pointer (some ⟨b, 0, none⟩))).run Try.prog W = .ok (.agg (nums .u32 (tabL i)).toArray) W := by
  have hc : (loadCells ⟨b, 0, none⟩ 16).run Try.prog W = .ok (nums .u32 (tabL i)).toArray W := by
    have := run_loadCells_list (P := Try.prog) W ⟨b, 0, none⟩ (nums .u32 (tabL i)) (fun j v hv => by
      obtain ⟨hj, rfl⟩ := List.getElem?_eq_some_iff.1 hv
      rw [add_plain, blk_cell h j]
      simp [hj])
    rwa [nums_length, tabL_length] at this
  simp [Instr.loadAt, Instr.sureAddr, loadVar, isAgg, run_underlying Try.underlying45, sizeOf, typeInfo, show Try.prog.info? 45 = some Try.t45 from rfl, show (Try.t45).size = 16 from rfl, hc]
theorem cells_tab {i : Nat} (W : World) (b : Nat) (cs : Array Value) (hn : cs.size = 16) (h : W.heap[b]? = some (.cells cs 45 (0, 0))) :
    (storeCells ⟨b, 0, none⟩ (nums .u32 (tabL i))).run Try.prog W = .ok () (W.setCells b 0 (nums .u32 (tabL i))) := by
  have hl : (nums .u32 (tabL i)).length = 16 := by rw [nums_length, tabL_length]
  have hs := run_storeCells_cells (P := Try.prog) b 0 (nums .u32 (tabL i)) 0 W (fun j hj => by rw [blk_cell h, Array.getElem?_eq_getElem (by omega)]; rfl) (fun j _ => blk_frozen h _) (fun v hv => by
    obtain ⟨q, _, rfl⟩ := List.mem_map.1 hv
    rfl)
  simpa using hs
theorem store_tab (W : World) (b i : Nat) (cs : Array Value) (hn : cs.size = 16) (h : W.heap[b]? = some (.cells cs 45 (0, 0))) :
    (Instr.storeAt 45 (.pointer (some ⟨b, 0, none⟩)) (.agg (nums .u32 (tabL i)).toArray)).run Try.prog W = .ok () (W.setCells b 0 (nums .u32 (tabL i))) := by
  have hl : (nums .u32 (tabL i)).length = 16 := by rw [nums_length, tabL_length]
  have hs := run_storeCells_cells (P := Try.prog) b 0 (nums .u32 (tabL i)) 0 W (fun j hj => by rw [blk_cell h, Array.getElem?_eq_getElem (by omega)]; rfl) (fun j _ => blk_frozen h _) (fun v hv => by
    obtain ⟨q, _, rfl⟩ := List.mem_map.1 hv
    rfl)
  simp [Instr.storeAt, Instr.sureAddr, storeVar, Value.cells, sizeOf, typeInfo, show Try.prog.info? 45 = some Try.t45 from rfl, show (Try.t45).size = 16 from rfl, hl, hs]
theorem exec_load_tab {W : World} {b i : Nat} {ρ : Operand → Value} {o : Oper} {p : Tmp} (h : W.heap[b]? = some (tabO i)) (ho : o.op = .load 45 (.tmp p)) (hp : ρ (.tmp p) = .pointer (some ⟨b, 0, none⟩)) : (execOp ρ o).run Try.prog W = .ok (.value (.agg (nums .u32 (tabL i)).toArray)) W := by
  simp [execOp, ho, hp, load_tab W b i h]
theorem exec_store_tab {W : World} {b i : Nat} {cs : Array Value} {ρ : Operand → Value} {o : Oper} {p : Tmp} {v : Operand} (hn : cs.size = 16) (h : W.heap[b]? = some (.cells cs 45 (0, 0))) (ho : o.op = .store 45 (.tmp p) v) (hp : ρ (.tmp p) = .pointer (some ⟨b, 0, none⟩)) (hv : ρ v = .agg (nums .u32 (tabL i)).toArray) :
    (execOp ρ o).run Try.prog W = .ok .skip (W.setCells b 0 (nums .u32 (tabL i))) := by
  simp [execOp, ho, hp, hv, store_tab W b i cs hn h]

theorem tab_set (i : Nat) (hi : i < 16) : ((nums .u32 (tabL i)).toArray.setIfInBounds i (.int .u32 ((bitsN 4 i : Nat) : Int))) = (nums .u32 (tabL (i + 1))).toArray := by
  apply Array.ext'
  simp only [Array.toList_setIfInBounds]
  apply List.ext_getElem?
  intro j
  rw [List.getElem?_set]
  simp only [nums, tabL, List.getElem?_map, List.length_map, List.length_range]
  by_cases h : i = j
  · subst h
    simp [hi]
  · rw [if_neg h]
    by_cases hj : j < 16
    · simp [hj, show (j < i + 1) ↔ (j < i) from by omega]
    · simp [hj]
theorem bit_int (n : Nat) (h : n < 4294967296) : Go.bits .xor .u32 ((n : Int) / 2) (Go.bits .and .u32 2197175160 (-(Go.bits .and .u32 (n : Int) 1) % 4294967296)) = ((bitN n : Nat) : Int) := by
  have e1 : Go.bits .and .u32 (n : Int) 1 = ((n % 2 : Nat) : Int) := by
    rw [show (1 : Int) = ((1 : Nat) : Int) from rfl, Go.u32_and_nat n 1 h (by omega), Go.nat_mask1]
  have e2 : (n : Int) / 2 = ((n / 2 : Nat) : Int) := by omega
  rw [e1, e2]
  unfold bitN
  rcases Nat.mod_two_eq_zero_or_one n with h2 | h2
  · rw [h2, show Go.bits .and .u32 2197175160 (-((0 : Nat) : Int) % 4294967296) = ((0 : Nat) : Int) from by decide +kernel, Go.u32_xor_nat _ 0 (by omega) (by omega)]
    simp
  · rw [h2, show Go.bits .and .u32 2197175160 (-((1 : Nat) : Int) % 4294967296) = ((polyN : Nat) : Int) from by decide +kernel, Go.u32_xor_nat _ polyN (by omega) (by decide)]
    simp

theorem table_results {W : World} {g : Nat} (h : W.heap[g]? = some (.cells (nums .u32 (tabL 16)).toArray 45 (0, 0))) (tmps : Array Value) (hp : tmps.getD 0 undef = .pointer (some ⟨g, 0, none⟩)) :
    (results Try.f20 tmps).run Try.prog W = .ok (.agg (nums .u32 (tabL 16)).toArray) W := by
  have hi : (Try.prog.info? 45).map (·.size) = some (nums .u32 (tabL 16)).toArray.size := by
    rw [List.size_toArray, nums_length, tabL_length]
    rfl
  generalize (nums .u32 (tabL 16)).toArray = cs at h hi
  exact results_cell_row rfl tmps W g 45 cs (0, 0) _ hp h Try.underlying45 rfl hi
set_option maxHeartbeats 400000 in
set_option maxRecDepth 100000 in
theorem table_calls (w : World) : Calls Try.prog 20 #[] w fun e w' => e = .returned (.agg (nums .u32 (tabL 16)).toArray) ∧ Below w.heap.size w w' := by
  go_enter Try.func20, Try.ntmps20
  go_wp2
  go_loopg [4] 16 (fun kq v4 w' => ∃ (i : Nat), v4 = .int .i64 (i : Int) ∧ Aside0 (i ≤ 16 ∧ 16 - i ≤ kq) ∧ Aside0 (w'.heap[w.heap.size]? = some (tabO 0)) ∧ Aside0 (w'.heap[w.heap.size + 1]? = some (tabO i)) ∧ Aside0 (Below w.heap.size w w'))
  case atStart =>
    refine ⟨0, rfl, ⟨by omega, by omega⟩, ⟨?_⟩, ⟨?_⟩, ⟨?_⟩⟩
    · rw [tabO_zero]; exact blk_alloc (blk_new _ _) _
    · have h2 := fun X Y => blk_new (w.alloc X) Y
      simp only [alloc_size] at h2
      rw [tabO_zero]; exact h2 _ _
    · exact below_alloc (below_alloc (Below.refl _ _) _) _
  case round =>
    obtain ⟨i, rfl, HI, HC, HT, HB⟩ := hrel
    by_cases c1 : (i : Int) < 16
    · have d1 : decide ((i : Int) < 16) = true := decide_eq_true c1
      have hi16 : i < 16 := by omega
      go_wp2
      go_loopg [3, 9] 4 (fun kq v3 v9 w' => ∃ (j : Nat), v9 = .int .i64 (j : Int) ∧ v3 = .int .u32 ((bitsN j i : Nat) : Int) ∧ Aside0 (j ≤ 4 ∧ 4 - j ≤ kq) ∧ w' = wr)
      case atStart => exact ⟨0, rfl, rfl, ⟨by omega, by omega⟩, rfl⟩
      case round =>
        obtain ⟨j, rfl, rfl, HJ, rfl⟩ := hrel
        by_cases c2 : (j : Int) < 4
        · have d2 : decide ((j : Int) < 4) = true := decide_eq_true c2
          go_wp2
          have hlt : bitsN j i < 4294967296 := bitsN_lt j (by omega)
          rw [bit_int _ hlt, ← bitsN_snoc]
          go_roundg (3 - j)
          case measure => have := HJ.out; omega
          case rel => exact ⟨j + 1, by simp, rfl, ⟨by omega, by omega⟩, rfl⟩
        · have d2 : decide ((j : Int) < 4) = false := decide_eq_false c2
          have hj4 : j = 4 := by have := HJ.out; omega
          subst hj4
          have hcl := blk_cell16 HT.out i (by rw [tabL_length]; exact hi16)
          have hfr := blk_frozen HT.out i
          go_wp2
          go_roundg (15 - i)
          case measure => have := HI.out; omega
          case rel =>
            refine ⟨i + 1, by simp, ⟨by omega, by omega⟩, ⟨?_⟩, ⟨?_⟩, ⟨?_⟩⟩
            · exact (Below.heap_setCell _ ⟨w.heap.size + 1, i, none⟩ _ _ (by simp)).trans HC.out
            · have := blk_set HT.out i (.int .u32 ((bitsN 4 i : Nat) : Int))
              rw [tab_set i hi16] at this
              exact this
            · exact HB.out.setCell (p := ⟨w.heap.size + 1, i, none⟩) (by simp) _
    · have d1 : decide ((i : Int) < 16) = false := decide_eq_false c1
      have hi16 : i = 16 := by have := HI.out; omega
      subst hi16
      go_wp2_with (first | ((with_reducible refine gate_dst (N := 23) rfl ?_); refine Kd.event_run (v := .agg (nums .u32 (tabL 16)).toArray) (w1 := wr) ?hg ?hr ?_; (case hg => rfl); (case hr => exact exec_load_tab HT.out rfl rfl)) | ((with_reducible refine gate_store (t := 45) (p := 0) rfl ?_); refine store_event (t := 45) (p := 0) (v := ?vo_) (w1 := wr.setCells w.heap.size 0 (nums .u32 (tabL 16))) ?hg ?ho ?hn ?hr ?_; (case ho => rfl); (case hg => rfl); (case hn => rfl); (case hr => exact exec_store_tab (by simp [nums, tabL]) HC.out rfl rfl rfl); intro w48 hw; subst hw))
      have hfin : (wr.setCells w.heap.size 0 (nums .u32 (tabL 16))).heap[w.heap.size]? = some (.cells (nums .u32 (tabL 16)).toArray 45 (0, 0)) := heap_setCells _ _ _ _ _ (by simp [nums, tabL]) HC.out
      have hbel : Below w.heap.size w (wr.setCells w.heap.size 0 (nums .u32 (tabL 16))) := below_setCells _ (Nat.le_refl _) _ _ _ HB.out
      refine bodyPost_ret (v := .agg (nums .u32 (tabL 16)).toArray) ?_ ?_ ?_
      · exact table_results hfin _ (by simp)
      · rfl
      · exact ⟨rfl, hbel⟩

theorem tab_get (j : Nat) (hj : j < (tabL 16).length) : (tabL 16)[j] = ((bitsN 4 j : Nat) : Int) := by
  have : j < 16 := by rw [tabL_length] at hj; exact hj
  simp [tabL, this]
/-- Four bits at once, by the table. -/
theorem nibble {W : World} {g : Nat} (h : W.heap[g]? = some (tabO 16)) (X : Nat) (hX : X < 4294967296) :
    ∃ y t m : Nat, Go.bits .and .u32 (X : Int) 15 = (y : Int) ∧ y < 16 ∧ W.cell? ⟨g, y, none⟩ = some (.int .u32 (t : Int)) ∧ Go.bits .xor .u32 ((X : Int) / 16) (t : Int) = (m : Int) ∧ m = bitsN 4 X := by
  refine ⟨X % 16, bitsN 4 (X % 16), bitsN 4 X, ?_, by omega, ?_, ?_, rfl⟩
  · rw [show (15 : Int) = ((15 : Nat) : Int) from rfl, Go.u32_and_nat X 15 hX (by omega), Go.nat_mask4]
  · rw [blk_cell16 h (X % 16) (by rw [tabL_length]; omega), tab_get]
  · rw [show (X : Int) / 16 = ((X / 16 : Nat) : Int) from by omega, Go.u32_xor_nat _ _ (by omega) (bitsN_lt 4 (by omega)), bitsN_low 4 X]
/-- crc.More. -/
def moreF (s : Int) (l : List Int) : Option Int := if (0 ≤ s ∧ s < 4294967296) ∧ (∀ x ∈ l, 0 ≤ x ∧ x < 256) ∧ l.length ≤ 140737488355328 then some ((moreN s.toNat l : Nat) : Int) else none

set_option maxHeartbeats 800000 in
set_option maxRecDepth 100000 in
theorem more_calls (a0 : Int) (A1 : Option Addr) (c1 : Nat) (l1 : List Int) (r : Int) (w : World) (hr1 : Kd.C (Kd.int .u8) w A1 l1.length l1) (hc1 : l1.length ≤ c1) (h : moreF a0 l1 = some r) :
    Calls Try.prog 16 #[.int .u32 a0, .slice A1 l1.length c1] w fun e w' => e = .returned (.int .u32 r) ∧ Below w.heap.size w w' := by
  unfold moreF at h
  by_cases hc : (0 ≤ a0 ∧ a0 < 4294967296) ∧ (∀ x ∈ l1, 0 ≤ x ∧ x < 256) ∧ l1.length ≤ 140737488355328
  · rw [if_pos hc] at h
    obtain ⟨⟨h0, h1⟩, hl, hm⟩ := hc
    obtain rfl := Option.some.inj h
    clear h
    obtain ⟨s, rfl⟩ := Int.eq_ofNat_of_zero_le h0
    have HS := Aside0.mk h1
    have HL := Aside0.mk hl
    have HM := Aside0.mk hm
    clear h0 h1 hl hm
    rw [Int.toNat_natCast]
    go_enter Try.func16, Try.ntmps16
    go_wp2_with (first | (go_at_call 20; refine (table_calls _).mono ?_; rintro e w1 ⟨rfl, hb⟩; have HB1 := Aside0.mk hb; clear hb; have hst1 := cells_tab (i := 16) (w1.alloc (.cells #[.int .u32 0, .int .u32 0, .int .u32 0, .int .u32 0, .int .u32 0, .int .u32 0, .int .u32 0, .int .u32 0, .int .u32 0, .int .u32 0, .int .u32 0, .int .u32 0, .int .u32 0, .int .u32 0, .int .u32 0, .int .u32 0] 45 (0, 0))) w1.heap.size #[.int .u32 0, .int .u32 0, .int .u32 0, .int .u32 0, .int .u32 0, .int .u32 0, .int .u32 0, .int .u32 0, .int .u32 0, .int .u32 0, .int .u32 0, .int .u32 0, .int .u32 0, .int .u32 0, .int .u32 0, .int .u32 0] rfl (blk_new w1 _)))
    clear hst1
    have hT : ((w1.alloc (.cells #[.int .u32 0, .int .u32 0, .int .u32 0, .int .u32 0, .int .u32 0, .int .u32 0, .int .u32 0, .int .u32 0, .int .u32 0, .int .u32 0, .int .u32 0, .int .u32 0, .int .u32 0, .int .u32 0, .int .u32 0, .int .u32 0] 45 (0, 0))).setCells w1.heap.size 0 (nums .u32 (tabL 16))).heap[w1.heap.size]? = some (tabO 16) := heap_setCells _ _ _ #[.int .u32 0, .int .u32 0, .int .u32 0, .int .u32 0, .int .u32 0, .int .u32 0, .int .u32 0, .int .u32 0, .int .u32 0, .int .u32 0, .int .u32 0, .int .u32 0, .int .u32 0, .int .u32 0, .int .u32 0, .int .u32 0] _ (by rw [nums_length, tabL_length]; rfl) (blk_new w1 _)
    have hB : Below w.heap.size w ((w1.alloc (.cells #[.int .u32 0, .int .u32 0, .int .u32 0, .int .u32 0, .int .u32 0, .int .u32 0, .int .u32 0, .int .u32 0, .int .u32 0, .int .u32 0, .int .u32 0, .int .u32 0, .int .u32 0, .int .u32 0, .int .u32 0, .int .u32 0] 45 (0, 0))).setCells w1.heap.size 0 (nums .u32 (tabL 16))) := below_setCells _ HB1.out.size _ _ _ (HB1.out.alloc HB1.out.size _)
    generalize (w1.alloc (.cells #[.int .u32 0, .int .u32 0, .int .u32 0, .int .u32 0, .int .u32 0, .int .u32 0, .int .u32 0, .int .u32 0, .int .u32 0, .int .u32 0, .int .u32 0, .int .u32 0, .int .u32 0, .int .u32 0, .int .u32 0, .int .u32 0] 45 (0, 0))).setCells w1.heap.size 0 (nums .u32 (tabL 16)) = W2 at hT hB ⊢
    have HR := Aside0.mk (Kd.C_below hr1 hB)
    have HT := Aside0.mk hT
    have HB := Aside0.mk hB
    clear hT hB hr1
    go_loopg [6, 14] l1.length (fun kq v6 v14 w' => ∃ (i n : Nat), v14 = .int .i64 (i : Int) ∧ v6 = .int .u32 (n : Int) ∧ Aside0 (i ≤ l1.length ∧ l1.length - i ≤ kq ∧ n < 4294967296 ∧ sumN n (l1.drop i) = sumN (s ^^^ ones) l1) ∧ w' = W2)
    case atStart =>
      refine ⟨0, s ^^^ ones, rfl, ?_, ⟨by omega, by omega, Nat.xor_lt_two_pow (n := 32) (by have := HS.out; omega) (by decide), by rw [List.drop_zero]⟩, rfl⟩
      rw [show IntKind.u32.max = ((ones : Nat) : Int) from by decide, Go.u32_xor_nat ones s (by decide) (by have := HS.out; omega), Nat.xor_comm]
    case round =>
      obtain ⟨i, n, rfl, rfl, HI, rfl⟩ := hrel
      by_cases c2 : (i : Int) < (l1.length : Int)
      · have d2 : decide ((i : Int) < (l1.length : Int)) = true := decide_eq_true c2
        have hlt : i < l1.length := by omega
        obtain ⟨ad, rfl, hcell⟩ := Kd.at_int HR.out (i : Int) (by omega) c2
        obtain ⟨c, hce⟩ := Int.eq_ofNat_of_zero_le (HL.out l1[i] (List.getElem_mem hlt)).1
        have hc2 := (HL.out l1[i] (List.getElem_mem hlt)).2
        rw [hce] at hc2
        have hrd : rd l1 (i : Int) = (c : Int) := by
          unfold rd
          rw [Int.toNat_natCast, List.getD_eq_getElem?_getD, List.getElem?_eq_getElem hlt, hce]
          rfl
        rw [hrd, Int.toNat_natCast] at hcell
        have hdr := List.drop_eq_getElem_cons hlt
        rw [hce] at hdr
        have HD := Aside0.mk hdr
        have HC2 := Aside0.mk hc2
        have hn := HI.out.2.2.1
        have e1 : Go.bits .xor .u32 (n : Int) ((c : Int) % 4294967296) = ((n ^^^ c : Nat) : Int) := by
          rw [show (c : Int) % 4294967296 = (c : Int) from by omega, Go.u32_xor_nat n c hn (by omega)]
        have hX : n ^^^ c < 4294967296 := Nat.xor_lt_two_pow (n := 32) hn (by omega)
        obtain ⟨X, hXe⟩ : ∃ X, n ^^^ c = X := ⟨_, rfl⟩
        rw [hXe] at e1 hX
        obtain ⟨y, t, m, f1, f2, f3, f4, f5⟩ := nibble HT.out X hX
        have hm : m < 4294967296 := by rw [f5]; exact bitsN_lt 4 hX
        obtain ⟨y2, t2, m2, k1, k2, k3, k4, k5⟩ := nibble HT.out m hm
        have HM2 := Aside0.mk (show m2 = stepN n c from by rw [k5, f5, ← bitsN_add, ← hXe]; rfl)
        have HM3 := Aside0.mk (show m2 < 4294967296 from by rw [k5]; exact bitsN_lt 4 hm)
        have f2' : decide ((y : Int) < 16) = true := decide_eq_true (by omega)
        have k2' : decide ((y2 : Int) < 16) = true := decide_eq_true (by omega)
        clear hce hc2 hrd hdr hn hX hXe hm f5 k5 hlt
        go_wp2
        have hM := HM.out
        have hlt2 : i < l1.length := by omega
        rw [show wrap64 ((i : Int) + 1) = ((i + 1 : Nat) : Int) from by unfold wrap64; omega]
        go_roundg (l1.length - 1 - i)
        case measure => have := HI.out; omega
        case rel =>
          refine ⟨i + 1, m2, rfl, rfl, ⟨by omega, by omega, HM3.out, ?_⟩, rfl⟩
          have h9 := HI.out.2.2.2
          rw [HD.out] at h9
          rw [← h9, HM2.out]
          rfl
      · have d2 : decide ((i : Int) < (l1.length : Int)) = false := decide_eq_false c2
        go_wp2
        go_ret
        refine ⟨?_, HB.out⟩
        have h9 := HI.out.2.2.2
        have hn := HI.out.2.2.1
        rw [List.drop_of_length_le (by omega)] at h9
        rw [show IntKind.u32.max = ((ones : Nat) : Int) from by decide, Go.u32_xor_nat ones n (by decide) hn, Nat.xor_comm]
        unfold moreN
        rw [← h9]
        rfl
  · rw [if_neg hc] at h
    cases h
end Go.Proofs.Ytgkdigaieelopaa.Hand
