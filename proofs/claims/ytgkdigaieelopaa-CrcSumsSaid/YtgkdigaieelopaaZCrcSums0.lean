/- Texts of this seat, one behind the other: what concordance's CrcSums reaches. -/
import Derived.Test.YtgkdigaieelopaaProg
import Derived.Below
import Derived.Deep.Draws
import Derived.Deep.AppendLies
import Derived.Maps.AppendAt
import Derived.OwnWalk
import Derived.Laws.BytesArg
import Derived.Laws.MakeOwn
import Derived.Laws.OwnMore
import Derived.Deep.OwnRows
import Derived.Tactics
import Derived.Lib.ConvBytes
import Derived.Laws.Slices
import Derived.WalkKit
import Derived.KernelRfl
import Derived.RowKit3
import Derived.Deep.LoopGhost
import Derived.Deep.QuietTactic
import Derived.BigQuiet
import Derived.WideLaws
import Derived.Deep.DeepCutAuto
import Derived.Deep.CutBlock
import Derived.Deep.RegionHeld3
import Derived.Laws.Rows
import Derived.Lib.AppendStr
import Derived.ArgAppend
import Derived.Laws.IdiomCopy
import Derived.OrdersHeld
import Derived.Laws.BitsLemmas
import Derived.RowKit
import Derived.Test.YtgkdigaieelopaaWWords
import Derived.Test.YtgkdigaieelopaaWLast
import Derived.Test.YtgkdigaieelopaaWTab
import Derived.Test.YtgkdigaieelopaaWFour
import Derived.Test.YtgkdigaieelopaaWQPut
import Derived.Test.YtgkdigaieelopaaWApart
import Derived.Test.YtgkdigaieelopaaWArr
import Derived.Test.YtgkdigaieelopaaWZeros
import Derived.Test.YtgkdigaieelopaaWFoot
import Derived.Test.YtgkdigaieelopaaWKept
import Derived.Test.YtgkdigaieelopaaWShare
import Derived.Test.YtgkdigaieelopaaWN
import Derived.Test.YtgkdigaieelopaaWFootNe
import Derived.Test.YtgkdigaieelopaaWAt
import Derived.Test.YtgkdigaieelopaaWEqStruct
import Derived.Test.YtgkdigaieelopaaWRepsOne
import Derived.Test.YtgkdigaieelopaaWInv
import Derived.Test.YtgkdigaieelopaaWInvWords
import Derived.Test.YtgkdigaieelopaaWGuard
import Derived.Test.YtgkdigaieelopaaWNEv
import Derived.Test.YtgkdigaieelopaaWMore
import Derived.WalkSpells
import Derived.Laws.BitsAllLaws
import Derived.Lib.SlBytesConst
import Derived.Outline
/- Printed by a program of this session (drv.py) from the translation of this seat: functions, their contracts, rows. -/
namespace Go.Proofs.Ytgkdigaieelopaa.PCrc
open Go.RowKit Go.Proofs.YtgkdigaieelopaaW.PrintWords Go.Proofs.YtgkdigaieelopaaW.PrintLast Go.Proofs.YtgkdigaieelopaaW.PrintMore
attribute [local go_sem] max2_int min2_int max_two min_two max_three min_three max_four min_four   -- for this text's walks alone
set_option linter.unusedVariables false
set_option linter.unusedSimpArgs false



def errW : Option Int → Value
  | none => .nilIface
  | some c => .iface 0 (.int .i64 c)
theorem errW_none : errW none = .nilIface := rfl
theorem errW_some (c : Int) : errW (some c) = .iface 0 (.int .i64 c) := rfl

theorem info5 : (Try.prog.info? 5).map (fun i => (i.zero, i.size, i.bytes)) = some (some (.int .u8 0), 1, 1) := by kernel_rfl
-- the values' own types
def rd_L1 (xs : List (List Int)) (i : Int) : (List Int) := xs.getD i.toNat ([] : List Int)
theorem at_L1 {w : World} {A : Option Addr} {n : Nat} {xs : List (List Int)} (h : Kd.C (Kd.slice 5 (Kd.int .u8)) w A n xs) (i : Int) (h0 : 0 ≤ i) (h1 : i < n) : ∃ ad A0 c0, A = some ad ∧ w.cell? (ad.add i.toNat) = some (.slice A0 (rd_L1 xs i).length c0) ∧ (rd_L1 xs i).length ≤ c0 ∧ (Kd.int .u8).C w A0 (rd_L1 xs i).length (rd_L1 xs i) := by
  obtain ⟨ad, c, e, _, hK, hc0⟩ := Kd.C_get h ([] : List Int) i h0 h1
  have hc : ∀ j u, c[j]? = some u → w.cell? (ad.add (i.toNat * 1 + j)) = some u := hc0
  obtain ⟨A0, c0, rfl, l0, g0⟩ := hK
  exact ⟨ad, A0, c0, e, by have hq := hc 0 _ rfl; rwa [Nat.mul_one, Nat.add_zero] at hq, l0, g0⟩

end Go.Proofs.Ytgkdigaieelopaa.PCrc

/- Contracts, proved by hand, of slices.Clone and slices.Clip at bytes: Clone hands back a row of the call's own with the same bytes (no more than 2^47 of them); Clip hands back what it is given, its capacity cut to its length. -/
namespace Go.Proofs.Ytgkdigaieelopaa.Hand
open Go.RowKit Go.Proofs.YtgkdigaieelopaaW.PrintWords Go.Proofs.YtgkdigaieelopaaW.PrintLast Go.Proofs.YtgkdigaieelopaaW.PrintMore
set_option linter.unusedVariables false
set_option linter.unusedSimpArgs false

theorem hinfo_u8 : (Try.prog.info? 5).map (fun i => (i.zero, i.size, i.bytes)) = some (some (.int .u8 0), 1, 1) := by kernel_rfl

theorem C_none {α : Type} {d : Kd α} {w : World} {n : Nat} {xs : List α} (h : d.C w none n xs) : n = 0 := by
  rcases Nat.eq_zero_or_pos n with h0 | h0
  · exact h0
  · obtain ⟨ad, e, _⟩ := h.2.2 h0
    cases e

set_option maxHeartbeats 800000 in
set_option maxRecDepth 100000 in
theorem clone_calls (A0 : Option Addr) (c0 : Nat) (l0 : List Int) (w : World) (hr0 : Kd.C (Kd.int .u8) w A0 l0.length l0) (hl : l0.length ≤ 140737488355328) :
    Calls Try.prog 23 #[.slice A0 l0.length c0] w fun e w' => ∃ v0_ : Value, e = .returned v0_ ∧ Kd.R (Kd.int .u8) 5 w' w.heap.size (fun _ => True) v0_ l0 ∧ Below w.heap.size w w' := by
  cases A0 with
  | none =>
    have h0 := C_none hr0
    obtain rfl : l0 = [] := List.eq_nil_of_length_eq_zero h0
    clear h0
    have hnil := fun W => Lib.run_eql_slice_nil (P := Try.prog) W 22 5 none 0 c0 0 0 Try.underlying22
    go_enter Try.func23, Try.ntmps23
    go_wp2
    go_ret
    exact ⟨_, rfl, Kd.R_nil _ _ _ _ _, Below.refl _ _⟩
  | some ad =>
    have hnil := fun W => Lib.run_eql_slice_nil (P := Try.prog) W 22 5 (some ad) l0.length c0 0 0 Try.underlying22
    have HR0 := Aside0.mk hr0
    have HL := Aside0.mk hl
    have HB := Aside0.mk (Below.refl w.heap.size w)
    clear hr0 hl
    go_enter Try.func23, Try.ntmps23
    go_wp2_with (first | ((with_reducible refine gate_dst (N := 5) rfl ?_); refine Kd.R_lit (Kd.int .u8) _ 5 ?hg (N := 5) ?hd (xs := ([] : List Int)) (inner := []) (ok := fun _ => True) (okp := fun _ => True) ?hr ?hp (fun _ hk => hk) trivial (Below.refl _ _) (Nat.le_refl _) (by simp) ?_; (case hd => rfl); (case hg => rfl); (case hr => first | (go_simp; done) | (go_simp; rfl)); (case hp => exact Reps.none _ _); intro v1 w1 ho hb hg_ hnew_; clear hg_ hnew_; have HO := Aside0.mk ho; clear HB; have HB := Aside0.mk hb; clear ho hb) | ((with_reducible refine gate_builtin (b := .append) (xs := #[.tmp 5, .tmp 6]) rfl ?_); at_builtin; refine Kd.R_append_rows (Kd.int .u8) (w0 := w) w.heap.size rfl (.tmp 5) (.tmp 6) 22 5 (.int .u8 0) 1 rfl Try.underlying22 hinfo_u8 rfl (by decide) (by omega) v1 [] l0 _ _ _ (fun _ => True) (fun _ => False) rfl rfl ?aO ?aR (fun _ _ h => h) (fun _ h => h.elim) ?aF ?aB ?aS ?aL ?_; (case aR => exact (Kd.C_below HR0.out HB.out)); (case aB => exact HB.out); (case aF => exact (fun _ _ => trivial)); (case aO => exact HO.out); (case aS => exact (below_size HB.out)); (case aL => have := HL.out; simp only [List.length_nil]; omega); intro v2 w2 ho hb hg hat; clear HB HO; have HO := Aside0.mk ho; have HB := Aside0.mk hb; clear ho hb hg hat))
    go_ret
    exact ⟨_, rfl, HO.out, HB.out⟩

/-- What a row of one's own becomes by Clip: the same cells, the capacity cut to the length. -/
def Clipped (e : Nat) (w : World) (base : Nat) (v : Value) (xs : List Int) : Prop :=
  ∃ A c, v = .slice A xs.length xs.length ∧ Kd.R (Kd.int .u8) e w base (fun _ => True) (.slice A xs.length c) xs

theorem Clipped.V {e : Nat} {w : World} {base base' : Nat} {v : Value} {xs : List Int} (h : Clipped e w base v xs) : Kd.V (Kd.int .u8) e w base' (fun k_ => base ≤ k_) v xs := by
  obtain ⟨A, c, rfl, h⟩ := h
  have h2 := Kd.R_mono (Kd.R_bound h) (ok' := fun k_ => base ≤ k_) (fun k hk => hk.2.1)
  exact ⟨A, xs.length, rfl, Nat.le_refl _, Kd.R_F h2⟩

/-- A string made of a row that is only read. -/
theorem V_string {P : Program} {w : World} {src dst e : TypeId} {ok : Nat → Prop} {v : Value} {xs : List Int} (hs : P.underlying src = some (.slice e)) (he : P.underlying e = some (.int .u8)) (hd : P.underlying dst = some .string)
    (h : Kd.V (Kd.int .u8) 0 w 0 ok v xs) : (convert src dst v).run P w = .ok (.string (strOfNums xs)) w := by
  obtain ⟨A, c, rfl, _, hf⟩ := h
  exact Kd.C_string hs he hd (Kd.F_now hf)

set_option maxHeartbeats 800000 in
set_option maxRecDepth 100000 in
theorem clip_calls (v : Value) (xs : List Int) (w : World) (base : Nat) (ho : Kd.R (Kd.int .u8) 5 w base (fun _ => True) v xs) :
    Calls Try.prog 22 #[v] w fun e w' => (∃ v0_ : Value, e = .returned v0_ ∧ Clipped 5 w' base v0_ xs) ∧ w = w' := by
  obtain ⟨A, c, rfl⟩ := Kd.R_slice ho
  have hrd := Kd.R_reads' ho
  have hle : xs.length ≤ c := hrd.2.1
  have hmax : xs.length ≤ 9223372036854775807 := Kd.C_max hrd.2.2
  have HO := Aside0.mk ho
  clear ho hrd
  go_enter Try.func22, Try.ntmps22
  go_wp2
  go_ret
  exact ⟨⟨_, rfl, A, c, rfl, HO.out⟩, rfl⟩

end Go.Proofs.Ytgkdigaieelopaa.Hand

/- Plain facts on the sums of layer 2, without any program: one bit, four bits, eight bits of a sum; a sum of bytes. -/
namespace Go.Proofs.Ytgkdigaieelopaa.Plain

def polyN : Nat := 2197175160
/-- One bit of a sum. -/
def bitN (n : Nat) : Nat := n / 2 ^^^ (if n % 2 = 1 then polyN else 0)
def bitsN : Nat → Nat → Nat
  | 0, n => n
  | k + 1, n => bitsN k (bitN n)
theorem bitsN_add (j k n : Nat) : bitsN (j + k) n = bitsN k (bitsN j n) := by
  induction j generalizing n with
  | zero => rw [Nat.zero_add]; rfl
  | succ j ih => rw [Nat.succ_add]; exact ih _
theorem bitsN_snoc (k n : Nat) : bitsN (k + 1) n = bitN (bitsN k n) := bitsN_add k 1 n
theorem lt32 {n : Nat} (h : n < 4294967296) : n < 2 ^ 32 := h
theorem bitN_lt {n : Nat} (h : n < 4294967296) : bitN n < 4294967296 := by
  unfold bitN
  refine Nat.xor_lt_two_pow (n := 32) (by omega) ?_
  split <;> decide
theorem bitsN_lt (k : Nat) : ∀ {n : Nat}, n < 4294967296 → bitsN k n < 4294967296 := by
  induction k with
  | zero => intro n h; exact h
  | succ k ih => intro n h; exact ih (bitN_lt h)
theorem xor_mod2 (a b : Nat) : (a ^^^ b) % 2 = (a % 2 + b % 2) % 2 := by
  have h := Nat.testBit_xor (x := a) (y := b) (i := 0)
  simp only [Nat.testBit_zero] at h
  rcases Nat.mod_two_eq_zero_or_one a with ha | ha <;> rcases Nat.mod_two_eq_zero_or_one b with hb | hb <;> rcases Nat.mod_two_eq_zero_or_one (a ^^^ b) with hc | hc <;> rw [ha, hb, hc] at h <;> rw [ha, hb, hc] <;> first | rfl | (exact absurd h (by decide))
theorem xor_div2 (a b : Nat) : (a ^^^ b) / 2 = a / 2 ^^^ b / 2 := by
  have := Nat.shiftRight_xor_distrib (a := a) (b := b) (i := 1)
  simpa [Nat.shiftRight_eq_div_pow] using this
theorem bitN_xor (a b : Nat) : bitN (a ^^^ b) = bitN a ^^^ bitN b := by
  unfold bitN
  rw [xor_div2, xor_mod2]
  have ac : ∀ p q r s : Nat, (p ^^^ q) ^^^ (r ^^^ s) = (p ^^^ r) ^^^ (q ^^^ s) := fun p q r s => by
    rw [Nat.xor_assoc, ← Nat.xor_assoc q r s, Nat.xor_comm q r, Nat.xor_assoc r q s, ← Nat.xor_assoc]
  rcases Nat.mod_two_eq_zero_or_one a with ha | ha <;> rcases Nat.mod_two_eq_zero_or_one b with hb | hb <;> rw [ha, hb, ac] <;> simp
theorem bitsN_xor (k : Nat) : ∀ a b : Nat, bitsN k (a ^^^ b) = bitsN k a ^^^ bitsN k b := by
  induction k with
  | zero => intro a b; rfl
  | succ k ih => intro a b; simp only [bitsN]; rw [bitN_xor, ih]
theorem bitN_two (n : Nat) : bitN (2 * n) = n := by
  unfold bitN
  rw [if_neg (by omega), Nat.xor_zero]
  omega
theorem bitsN_shl (k : Nat) : ∀ n : Nat, bitsN k (n * 2 ^ k) = n := by
  induction k with
  | zero => intro n; simp [bitsN]
  | succ k ih =>
    intro n
    simp only [bitsN]
    rw [Nat.pow_succ, show n * (2 ^ k * 2) = 2 * (n * 2 ^ k) from by rw [← Nat.mul_assoc, Nat.mul_comm], bitN_two, ih]
/-- So many bits at once: what lies above, and what the low bits make. -/
theorem bitsN_low (k n : Nat) : bitsN k n = n / 2 ^ k ^^^ bitsN k (n % 2 ^ k) := by
  have e : n = (n / 2 ^ k * 2 ^ k) ^^^ (n % 2 ^ k) := by
    have h1 : n / 2 ^ k * 2 ^ k + n % 2 ^ k = n / 2 ^ k * 2 ^ k ||| n % 2 ^ k := (Go.nat_join k _ _ (Nat.mul_mod_left _ _) (Nat.mod_lt _ (Nat.pow_pos (by omega)))).symm
    have h2 : (n / 2 ^ k * 2 ^ k) &&& (n % 2 ^ k) = 0 := by
      apply Nat.eq_of_testBit_eq
      intro i
      rw [Nat.testBit_and, Nat.testBit_mul_two_pow, Nat.testBit_mod_two_pow]
      by_cases hi : k ≤ i
      · simp [show ¬ i < k from by omega]
      · simp [hi]
    have h3 : (n / 2 ^ k * 2 ^ k) ||| (n % 2 ^ k) = (n / 2 ^ k * 2 ^ k) ^^^ (n % 2 ^ k) := by
      apply Nat.eq_of_testBit_eq
      intro i
      have := congrArg (fun x => x.testBit i) h2
      simp only [Nat.testBit_and, Nat.zero_testBit] at this
      rw [Nat.testBit_or, Nat.testBit_xor]
      cases h4 : (n / 2 ^ k * 2 ^ k).testBit i <;> cases h5 : (n % 2 ^ k).testBit i <;> rw [h4, h5] at this <;> simp_all
    rw [← h3, ← h1]
    exact (Nat.div_add_mod' n (2 ^ k)).symm
  conv => lhs; rw [e, bitsN_xor, bitsN_shl]
def stepN (n c : Nat) : Nat := bitsN 8 (n ^^^ c)
def sumN (n : Nat) (l : List Int) : Nat := l.foldl (fun n c => stepN n c.toNat) n
def ones : Nat := 4294967295
/-- The sum of what a sum is of, and more. -/
def moreN (s : Nat) (l : List Int) : Nat := sumN (s ^^^ ones) l ^^^ ones
theorem stepN_lt {n c : Nat} (h : n < 4294967296) (hc : c < 4294967296) : stepN n c < 4294967296 := bitsN_lt 8 (Nat.xor_lt_two_pow (n := 32) h hc)
theorem sumN_lt (l : List Int) : ∀ {n : Nat}, n < 4294967296 → (∀ x ∈ l, 0 ≤ x ∧ x < 256) → sumN n l < 4294967296 := by
  induction l with
  | nil => intro n h _; exact h
  | cons c l ih =>
    intro n h hl
    have := hl c (.head _)
    exact ih (stepN_lt h (by omega)) (fun x hx => hl x (.tail _ hx))
theorem moreN_lt {s : Nat} {l : List Int} (h : s < 4294967296) (hl : ∀ x ∈ l, 0 ≤ x ∧ x < 256) : moreN s l < 4294967296 :=
  Nat.xor_lt_two_pow (n := 32) (sumN_lt l (Nat.xor_lt_two_pow (n := 32) h (by decide)) hl) (by decide)
theorem sumN_append (l r : List Int) (n : Nat) : sumN n (l ++ r) = sumN (sumN n l) r := List.foldl_append
theorem moreN_append (s : Nat) (l r : List Int) : moreN (moreN s l) r = moreN s (l ++ r) := by
  unfold moreN
  rw [Nat.xor_assoc, Nat.xor_self, Nat.xor_zero, sumN_append]
end Go.Proofs.Ytgkdigaieelopaa.Plain

/- Contracts, proved by hand, of crc.table and crc.More: the table of what four bits make of a sum; the sum of what a sum is of, and more (moreN). -/
namespace Go.Proofs.Ytgkdigaieelopaa.Hand
open Go.RowKit Go.Proofs.YtgkdigaieelopaaW.PrintWords Go.Proofs.YtgkdigaieelopaaW.PrintLast Go.Proofs.YtgkdigaieelopaaW.PrintMore
open Go.Proofs.Ytgkdigaieelopaa.Plain
set_option linter.unusedVariables false
set_option linter.unusedSimpArgs false

/-- What cells that are stored in a row leave in their block. -/
theorem heap_setCells_go (b : Nat) (t : TypeId) : ∀ (vs : List Value) (pre old post : List Value) (W : World), old.length = vs.length → W.heap[b]? = some (.cells (pre ++ old ++ post).toArray t (0, 0)) →
    (W.setCells b pre.length vs).heap[b]? = some (.cells (pre ++ vs ++ post).toArray t (0, 0))
  | [], pre, old, post, W, hl, h => by
    obtain rfl : old = [] := List.length_eq_zero_iff.1 hl
    exact h
  | v :: vs, pre, old, post, W, hl, h => by
    obtain ⟨u, old, rfl⟩ : ∃ u r, old = u :: r := by
      cases old with
      | nil => simp at hl
      | cons u r => exact ⟨u, r, rfl⟩
    rw [World.setCells]
    have h2 : (W.setCell ⟨b, pre.length, none⟩ v).heap[b]? = some (.cells ((pre ++ [v]) ++ old ++ post).toArray t (0, 0)) := by
      rw [blk_set h]
      congr 2
      apply Array.ext'
      simp
    have := heap_setCells_go b t vs (pre ++ [v]) old post _ (by simpa using hl) h2
    rw [List.length_append, List.length_singleton] at this
    rw [this]
    simp
theorem heap_setCells (b : Nat) (t : TypeId) (vs : List Value) (cs : Array Value) (W : World) (hl : cs.size = vs.length) (h : W.heap[b]? = some (.cells cs t (0, 0))) : (W.setCells b 0 vs).heap[b]? = some (.cells vs.toArray t (0, 0)) := by
  have := heap_setCells_go b t vs [] cs.toList [] W (by simpa using hl) (by simpa using h)
  simpa using this
theorem heap_setCells_other (b : Nat) : ∀ (vs : List Value) (o : Nat) (W : World) (g : Nat), g ≠ b → (W.setCells b o vs).heap[g]? = W.heap[g]?
  | [], _, _, _, _ => rfl
  | v :: vs, o, W, g, hg => by
    rw [World.setCells, heap_setCells_other b vs _ _ g hg]
    exact Below.heap_setCell W ⟨b, o, none⟩ v g hg
theorem below_setCells {B : Nat} {w : World} (b : Nat) (hb : B ≤ b) : ∀ (vs : List Value) (o : Nat) (W : World), Below B w W → Below B w (W.setCells b o vs)
  | [], _, _, h => h
  | v :: vs, o, W, h => by
    rw [World.setCells]
    exact below_setCells b hb vs _ _ (h.setCell (p := ⟨b, o, none⟩) hb v)
theorem blk_cell16 {W : World} {b : Nat} {t : TypeId} {xs : List Int} (h : W.heap[b]? = some (.cells (nums .u32 xs).toArray t (0, 0))) (j : Nat) (hj : j < xs.length) : W.cell? ⟨b, j, none⟩ = some (.int .u32 xs[j]) := by
  rw [blk_cell h j]
  simp [nums, hj]

theorem alloc_size (w : World) (o : Obj) : (w.alloc o).heap.size = w.heap.size + 1 := by simp
/-- The table, filled as far as i. -/
def tabL (i : Nat) : List Int := (List.range 16).map fun j => if j < i then ((bitsN 4 j : Nat) : Int) else 0
theorem tabL_length (i : Nat) : (tabL i).length = 16 := by simp [tabL]
def tabO (i : Nat) : Obj := .cells (nums .u32 (tabL i)).toArray 45 (0, 0)

theorem tabO_zero : tabO 0 = .cells #[.int .u32 0, .int .u32 0, .int .u32 0, .int .u32 0, .int .u32 0, .int .u32 0, .int .u32 0, .int .u32 0, .int .u32 0, .int .u32 0, .int .u32 0, .int .u32 0, .int .u32 0, .int .u32 0, .int .u32 0, .int .u32 0] 45 (0, 0) := by kernel_rfl

theorem load_tab (W : World) (b i : Nat) (h : W.heap[b]? = some (tabO i)) : (Instr.loadAt 45 (.pointer (some ⟨b, 0, none⟩))).run Try.prog W = .ok (.agg (nums .u32 (tabL i)).toArray) W := by
  have hc : (loadCells ⟨b, 0, none⟩ 16).run Try.prog W = .ok (nums .u32 (tabL i)).toArray W := by
    have := run_loadCells_list (P := Try.prog) W ⟨b, 0, none⟩ (nums .u32 (tabL i)) (fun j v hv => by
      obtain ⟨hj, rfl⟩ := List.getElem?_eq_some_iff.1 hv
      rw [add_plain, blk_cell h j]
      simp [hj])
    rwa [nums_length, tabL_length] at this
  simp [Instr.loadAt, Instr.sureAddr, loadVar, isAgg, run_underlying Try.underlying45, sizeOf, typeInfo, show Try.prog.info? 45 = some Try.t45 from rfl, show (Try.t45).size = 16 from rfl, hc]
theorem cells_tab {i : Nat} (W : World) (b : Nat) (cs : Array Value) (hn : cs.size = 16) (h : W.heap[b]? = some (.cells cs 45 (0, 0))) :
    (storeCells ⟨b, 0, none⟩ (nums .u32 (tabL i))).run Try.prog W = .ok () (W.setCells b 0 (nums .u32 (tabL i))) := by
  have hl : (nums .u32 (tabL i)).length = 16 := by rw [nums_length, tabL_length]
  have hs := run_storeCells_cells (P := Try.prog) b 0 (nums .u32 (tabL i)) 0 W (fun j hj => by rw [blk_cell h, Array.getElem?_eq_getElem (by omega)]; rfl) (fun j _ => blk_frozen h _) (fun v hv => by
    obtain ⟨q, _, rfl⟩ := List.mem_map.1 hv
    rfl)
  simpa using hs
theorem store_tab (W : World) (b i : Nat) (cs : Array Value) (hn : cs.size = 16) (h : W.heap[b]? = some (.cells cs 45 (0, 0))) :
    (Instr.storeAt 45 (.pointer (some ⟨b, 0, none⟩)) (.agg (nums .u32 (tabL i)).toArray)).run Try.prog W = .ok () (W.setCells b 0 (nums .u32 (tabL i))) := by
  have hl : (nums .u32 (tabL i)).length = 16 := by rw [nums_length, tabL_length]
  have hs := run_storeCells_cells (P := Try.prog) b 0 (nums .u32 (tabL i)) 0 W (fun j hj => by rw [blk_cell h, Array.getElem?_eq_getElem (by omega)]; rfl) (fun j _ => blk_frozen h _) (fun v hv => by
    obtain ⟨q, _, rfl⟩ := List.mem_map.1 hv
    rfl)
  simp [Instr.storeAt, Instr.sureAddr, storeVar, Value.cells, sizeOf, typeInfo, show Try.prog.info? 45 = some Try.t45 from rfl, show (Try.t45).size = 16 from rfl, hl, hs]
theorem exec_load_tab {W : World} {b i : Nat} {ρ : Operand → Value} {o : Oper} {p : Tmp} (h : W.heap[b]? = some (tabO i)) (ho : o.op = .load 45 (.tmp p)) (hp : ρ (.tmp p) = .pointer (some ⟨b, 0, none⟩)) : (execOp ρ o).run Try.prog W = .ok (.value (.agg (nums .u32 (tabL i)).toArray)) W := by
  simp [execOp, ho, hp, load_tab W b i h]
theorem exec_store_tab {W : World} {b i : Nat} {cs : Array Value} {ρ : Operand → Value} {o : Oper} {p : Tmp} {v : Operand} (hn : cs.size = 16) (h : W.heap[b]? = some (.cells cs 45 (0, 0))) (ho : o.op = .store 45 (.tmp p) v) (hp : ρ (.tmp p) = .pointer (some ⟨b, 0, none⟩)) (hv : ρ v = .agg (nums .u32 (tabL i)).toArray) :
    (execOp ρ o).run Try.prog W = .ok .skip (W.setCells b 0 (nums .u32 (tabL i))) := by
  simp [execOp, ho, hp, hv, store_tab W b i cs hn h]

theorem tab_set (i : Nat) (hi : i < 16) : ((nums .u32 (tabL i)).toArray.setIfInBounds i (.int .u32 ((bitsN 4 i : Nat) : Int))) = (nums .u32 (tabL (i + 1))).toArray := by
  apply Array.ext'
  simp only [Array.toList_setIfInBounds]
  apply List.ext_getElem?
  intro j
  rw [List.getElem?_set]
  simp only [nums, tabL, List.getElem?_map, List.length_map, List.length_range]
  by_cases h : i = j
  · subst h
    simp [hi]
  · rw [if_neg h]
    by_cases hj : j < 16
    · simp [hj, show (j < i + 1) ↔ (j < i) from by omega]
    · simp [hj]
theorem bit_int (n : Nat) (h : n < 4294967296) : Go.bits .xor .u32 ((n : Int) / 2) (Go.bits .and .u32 2197175160 (-(Go.bits .and .u32 (n : Int) 1) % 4294967296)) = ((bitN n : Nat) : Int) := by
  have e1 : Go.bits .and .u32 (n : Int) 1 = ((n % 2 : Nat) : Int) := by
    rw [show (1 : Int) = ((1 : Nat) : Int) from rfl, Go.u32_and_nat n 1 h (by omega), Go.nat_mask1]
  have e2 : (n : Int) / 2 = ((n / 2 : Nat) : Int) := by omega
  rw [e1, e2]
  unfold bitN
  rcases Nat.mod_two_eq_zero_or_one n with h2 | h2
  · rw [h2, show Go.bits .and .u32 2197175160 (-((0 : Nat) : Int) % 4294967296) = ((0 : Nat) : Int) from by decide +kernel, Go.u32_xor_nat _ 0 (by omega) (by omega)]
    simp
  · rw [h2, show Go.bits .and .u32 2197175160 (-((1 : Nat) : Int) % 4294967296) = ((polyN : Nat) : Int) from by decide +kernel, Go.u32_xor_nat _ polyN (by omega) (by decide)]
    simp

theorem table_results {W : World} {g : Nat} (h : W.heap[g]? = some (.cells (nums .u32 (tabL 16)).toArray 45 (0, 0))) (tmps : Array Value) (hp : tmps.getD 0 undef = .pointer (some ⟨g, 0, none⟩)) :
    (results Try.f20 tmps).run Try.prog W = .ok (.agg (nums .u32 (tabL 16)).toArray) W := by
  have hi : (Try.prog.info? 45).map (·.size) = some (nums .u32 (tabL 16)).toArray.size := by
    rw [List.size_toArray, nums_length, tabL_length]
    rfl
  generalize (nums .u32 (tabL 16)).toArray = cs at h hi
  exact results_cell_row rfl tmps W g 45 cs (0, 0) _ hp h Try.underlying45 rfl hi
set_option maxHeartbeats 400000 in
set_option maxRecDepth 100000 in
theorem table_calls (w : World) : Calls Try.prog 20 #[] w fun e w' => e = .returned (.agg (nums .u32 (tabL 16)).toArray) ∧ Below w.heap.size w w' := by
  go_enter Try.func20, Try.ntmps20
  go_wp2
  go_loopg [4] 16 (fun kq v4 w' => ∃ (i : Nat), v4 = .int .i64 (i : Int) ∧ Aside0 (i ≤ 16 ∧ 16 - i ≤ kq) ∧ Aside0 (w'.heap[w.heap.size]? = some (tabO 0)) ∧ Aside0 (w'.heap[w.heap.size + 1]? = some (tabO i)) ∧ Aside0 (Below w.heap.size w w'))
  case atStart =>
    refine ⟨0, rfl, ⟨by omega, by omega⟩, ⟨?_⟩, ⟨?_⟩, ⟨?_⟩⟩
    · rw [tabO_zero]; exact blk_alloc (blk_new _ _) _
    · have h2 := fun X Y => blk_new (w.alloc X) Y
      simp only [alloc_size] at h2
      rw [tabO_zero]; exact h2 _ _
    · exact below_alloc (below_alloc (Below.refl _ _) _) _
  case round =>
    obtain ⟨i, rfl, HI, HC, HT, HB⟩ := hrel
    by_cases c1 : (i : Int) < 16
    · have d1 : decide ((i : Int) < 16) = true := decide_eq_true c1
      have hi16 : i < 16 := by omega
      go_wp2
      go_loopg [3, 9] 4 (fun kq v3 v9 w' => ∃ (j : Nat), v9 = .int .i64 (j : Int) ∧ v3 = .int .u32 ((bitsN j i : Nat) : Int) ∧ Aside0 (j ≤ 4 ∧ 4 - j ≤ kq) ∧ w' = wr)
      case atStart => exact ⟨0, rfl, rfl, ⟨by omega, by omega⟩, rfl⟩
      case round =>
        obtain ⟨j, rfl, rfl, HJ, rfl⟩ := hrel
        by_cases c2 : (j : Int) < 4
        · have d2 : decide ((j : Int) < 4) = true := decide_eq_true c2
          go_wp2
          have hlt : bitsN j i < 4294967296 := bitsN_lt j (by omega)
          rw [bit_int _ hlt, ← bitsN_snoc]
          go_roundg (3 - j)
          case measure => have := HJ.out; omega
          case rel => exact ⟨j + 1, by simp, rfl, ⟨by omega, by omega⟩, rfl⟩
        · have d2 : decide ((j : Int) < 4) = false := decide_eq_false c2
          have hj4 : j = 4 := by have := HJ.out; omega
          subst hj4
          have hcl := blk_cell16 HT.out i (by rw [tabL_length]; exact hi16)
          have hfr := blk_frozen HT.out i
          go_wp2
          go_roundg (15 - i)
          case measure => have := HI.out; omega
          case rel =>
            refine ⟨i + 1, by simp, ⟨by omega, by omega⟩, ⟨?_⟩, ⟨?_⟩, ⟨?_⟩⟩
            · exact (Below.heap_setCell _ ⟨w.heap.size + 1, i, none⟩ _ _ (by simp)).trans HC.out
            · have := blk_set HT.out i (.int .u32 ((bitsN 4 i : Nat) : Int))
              rw [tab_set i hi16] at this
              exact this
            · exact HB.out.setCell (p := ⟨w.heap.size + 1, i, none⟩) (by simp) _
    · have d1 : decide ((i : Int) < 16) = false := decide_eq_false c1
      have hi16 : i = 16 := by have := HI.out; omega
      subst hi16
      go_wp2_with (first | ((with_reducible refine gate_dst (N := 23) rfl ?_); refine Kd.event_run (v := .agg (nums .u32 (tabL 16)).toArray) (w1 := wr) ?hg ?hr ?_; (case hg => rfl); (case hr => exact exec_load_tab HT.out rfl rfl)) | ((with_reducible refine gate_store (t := 45) (p := 0) rfl ?_); refine store_event (t := 45) (p := 0) (v := ?vo_) (w1 := wr.setCells w.heap.size 0 (nums .u32 (tabL 16))) ?hg ?ho ?hn ?hr ?_; (case ho => rfl); (case hg => rfl); (case hn => rfl); (case hr => exact exec_store_tab (by simp [nums, tabL]) HC.out rfl rfl rfl); intro w48 hw; subst hw))
      have hfin : (wr.setCells w.heap.size 0 (nums .u32 (tabL 16))).heap[w.heap.size]? = some (.cells (nums .u32 (tabL 16)).toArray 45 (0, 0)) := heap_setCells _ _ _ _ _ (by simp [nums, tabL]) HC.out
      have hbel : Below w.heap.size w (wr.setCells w.heap.size 0 (nums .u32 (tabL 16))) := below_setCells _ (Nat.le_refl _) _ _ _ HB.out
      refine bodyPost_ret (v := .agg (nums .u32 (tabL 16)).toArray) ?_ ?_ ?_
      · exact table_results hfin _ (by simp)
      · rfl
      · exact ⟨rfl, hbel⟩

theorem tab_get (j : Nat) (hj : j < (tabL 16).length) : (tabL 16)[j] = ((bitsN 4 j : Nat) : Int) := by
  have : j < 16 := by rw [tabL_length] at hj; exact hj
  simp [tabL, this]
/-- Four bits at once, by the table. -/
theorem nibble {W : World} {g : Nat} (h : W.heap[g]? = some (tabO 16)) (X : Nat) (hX : X < 4294967296) :
    ∃ y t m : Nat, Go.bits .and .u32 (X : Int) 15 = (y : Int) ∧ y < 16 ∧ W.cell? ⟨g, y, none⟩ = some (.int .u32 (t : Int)) ∧ Go.bits .xor .u32 ((X : Int) / 16) (t : Int) = (m : Int) ∧ m = bitsN 4 X := by
  refine ⟨X % 16, bitsN 4 (X % 16), bitsN 4 X, ?_, by omega, ?_, ?_, rfl⟩
  · rw [show (15 : Int) = ((15 : Nat) : Int) from rfl, Go.u32_and_nat X 15 hX (by omega), Go.nat_mask4]
  · rw [blk_cell16 h (X % 16) (by rw [tabL_length]; omega), tab_get]
  · rw [show (X : Int) / 16 = ((X / 16 : Nat) : Int) from by omega, Go.u32_xor_nat _ _ (by omega) (bitsN_lt 4 (by omega)), bitsN_low 4 X]
/-- crc.More. -/
def moreF (s : Int) (l : List Int) : Option Int := if (0 ≤ s ∧ s < 4294967296) ∧ (∀ x ∈ l, 0 ≤ x ∧ x < 256) ∧ l.length ≤ 140737488355328 then some ((moreN s.toNat l : Nat) : Int) else none

set_option maxHeartbeats 800000 in
set_option maxRecDepth 100000 in
theorem more_calls (a0 : Int) (A1 : Option Addr) (c1 : Nat) (l1 : List Int) (r : Int) (w : World) (hr1 : Kd.C (Kd.int .u8) w A1 l1.length l1) (hc1 : l1.length ≤ c1) (h : moreF a0 l1 = some r) :
    Calls Try.prog 16 #[.int .u32 a0, .slice A1 l1.length c1] w fun e w' => e = .returned (.int .u32 r) ∧ Below w.heap.size w w' := by
  unfold moreF at h
  by_cases hc : (0 ≤ a0 ∧ a0 < 4294967296) ∧ (∀ x ∈ l1, 0 ≤ x ∧ x < 256) ∧ l1.length ≤ 140737488355328
  · rw [if_pos hc] at h
    obtain ⟨⟨h0, h1⟩, hl, hm⟩ := hc
    obtain rfl := Option.some.inj h
    clear h
    obtain ⟨s, rfl⟩ := Int.eq_ofNat_of_zero_le h0
    have HS := Aside0.mk h1
    have HL := Aside0.mk hl
    have HM := Aside0.mk hm
    clear h0 h1 hl hm
    rw [Int.toNat_natCast]
    go_enter Try.func16, Try.ntmps16
    go_wp2_with (first | (go_at_call 20; refine (table_calls _).mono ?_; rintro e w1 ⟨rfl, hb⟩; have HB1 := Aside0.mk hb; clear hb; have hst1 := cells_tab (i := 16) (w1.alloc (.cells #[.int .u32 0, .int .u32 0, .int .u32 0, .int .u32 0, .int .u32 0, .int .u32 0, .int .u32 0, .int .u32 0, .int .u32 0, .int .u32 0, .int .u32 0, .int .u32 0, .int .u32 0, .int .u32 0, .int .u32 0, .int .u32 0] 45 (0, 0))) w1.heap.size #[.int .u32 0, .int .u32 0, .int .u32 0, .int .u32 0, .int .u32 0, .int .u32 0, .int .u32 0, .int .u32 0, .int .u32 0, .int .u32 0, .int .u32 0, .int .u32 0, .int .u32 0, .int .u32 0, .int .u32 0, .int .u32 0] rfl (blk_new w1 _)))
    clear hst1
    have hT : ((w1.alloc (.cells #[.int .u32 0, .int .u32 0, .int .u32 0, .int .u32 0, .int .u32 0, .int .u32 0, .int .u32 0, .int .u32 0, .int .u32 0, .int .u32 0, .int .u32 0, .int .u32 0, .int .u32 0, .int .u32 0, .int .u32 0, .int .u32 0] 45 (0, 0))).setCells w1.heap.size 0 (nums .u32 (tabL 16))).heap[w1.heap.size]? = some (tabO 16) := heap_setCells _ _ _ #[.int .u32 0, .int .u32 0, .int .u32 0, .int .u32 0, .int .u32 0, .int .u32 0, .int .u32 0, .int .u32 0, .int .u32 0, .int .u32 0, .int .u32 0, .int .u32 0, .int .u32 0, .int .u32 0, .int .u32 0, .int .u32 0] _ (by rw [nums_length, tabL_length]; rfl) (blk_new w1 _)
    have hB : Below w.heap.size w ((w1.alloc (.cells #[.int .u32 0, .int .u32 0, .int .u32 0, .int .u32 0, .int .u32 0, .int .u32 0, .int .u32 0, .int .u32 0, .int .u32 0, .int .u32 0, .int .u32 0, .int .u32 0, .int .u32 0, .int .u32 0, .int .u32 0, .int .u32 0] 45 (0, 0))).setCells w1.heap.size 0 (nums .u32 (tabL 16))) := below_setCells _ HB1.out.size _ _ _ (HB1.out.alloc HB1.out.size _)
    generalize (w1.alloc (.cells #[.int .u32 0, .int .u32 0, .int .u32 0, .int .u32 0, .int .u32 0, .int .u32 0, .int .u32 0, .int .u32 0, .int .u32 0, .int .u32 0, .int .u32 0, .int .u32 0, .int .u32 0, .int .u32 0, .int .u32 0, .int .u32 0] 45 (0, 0))).setCells w1.heap.size 0 (nums .u32 (tabL 16)) = W2 at hT hB ⊢
    have HR := Aside0.mk (Kd.C_below hr1 hB)
    have HT := Aside0.mk hT
    have HB := Aside0.mk hB
    clear hT hB hr1
    go_loopg [6, 14] l1.length (fun kq v6 v14 w' => ∃ (i n : Nat), v14 = .int .i64 (i : Int) ∧ v6 = .int .u32 (n : Int) ∧ Aside0 (i ≤ l1.length ∧ l1.length - i ≤ kq ∧ n < 4294967296 ∧ sumN n (l1.drop i) = sumN (s ^^^ ones) l1) ∧ w' = W2)
    case atStart =>
      refine ⟨0, s ^^^ ones, rfl, ?_, ⟨by omega, by omega, Nat.xor_lt_two_pow (n := 32) (by have := HS.out; omega) (by decide), by rw [List.drop_zero]⟩, rfl⟩
      rw [show IntKind.u32.max = ((ones : Nat) : Int) from by decide, Go.u32_xor_nat ones s (by decide) (by have := HS.out; omega), Nat.xor_comm]
    case round =>
      obtain ⟨i, n, rfl, rfl, HI, rfl⟩ := hrel
      by_cases c2 : (i : Int) < (l1.length : Int)
      · have d2 : decide ((i : Int) < (l1.length : Int)) = true := decide_eq_true c2
        have hlt : i < l1.length := by omega
        obtain ⟨ad, rfl, hcell⟩ := Kd.at_int HR.out (i : Int) (by omega) c2
        obtain ⟨c, hce⟩ := Int.eq_ofNat_of_zero_le (HL.out l1[i] (List.getElem_mem hlt)).1
        have hc2 := (HL.out l1[i] (List.getElem_mem hlt)).2
        rw [hce] at hc2
        have hrd : rd l1 (i : Int) = (c : Int) := by
          unfold rd
          rw [Int.toNat_natCast, List.getD_eq_getElem?_getD, List.getElem?_eq_getElem hlt, hce]
          rfl
        rw [hrd, Int.toNat_natCast] at hcell
        have hdr := List.drop_eq_getElem_cons hlt
        rw [hce] at hdr
        have HD := Aside0.mk hdr
        have HC2 := Aside0.mk hc2
        have hn := HI.out.2.2.1
        have e1 : Go.bits .xor .u32 (n : Int) ((c : Int) % 4294967296) = ((n ^^^ c : Nat) : Int) := by
          rw [show (c : Int) % 4294967296 = (c : Int) from by omega, Go.u32_xor_nat n c hn (by omega)]
        have hX : n ^^^ c < 4294967296 := Nat.xor_lt_two_pow (n := 32) hn (by omega)
        obtain ⟨X, hXe⟩ : ∃ X, n ^^^ c = X := ⟨_, rfl⟩
        rw [hXe] at e1 hX
        obtain ⟨y, t, m, f1, f2, f3, f4, f5⟩ := nibble HT.out X hX
        have hm : m < 4294967296 := by rw [f5]; exact bitsN_lt 4 hX
        obtain ⟨y2, t2, m2, k1, k2, k3, k4, k5⟩ := nibble HT.out m hm
        have HM2 := Aside0.mk (show m2 = stepN n c from by rw [k5, f5, ← bitsN_add, ← hXe]; rfl)
        have HM3 := Aside0.mk (show m2 < 4294967296 from by rw [k5]; exact bitsN_lt 4 hm)
        have f2' : decide ((y : Int) < 16) = true := decide_eq_true (by omega)
        have k2' : decide ((y2 : Int) < 16) = true := decide_eq_true (by omega)
        clear hce hc2 hrd hdr hn hX hXe hm f5 k5 hlt
        go_wp2
        have hM := HM.out
        have hlt2 : i < l1.length := by omega
        rw [show wrap64 ((i : Int) + 1) = ((i + 1 : Nat) : Int) from by unfold wrap64; omega]
        go_roundg (l1.length - 1 - i)
        case measure => have := HI.out; omega
        case rel =>
          refine ⟨i + 1, m2, rfl, rfl, ⟨by omega, by omega, HM3.out, ?_⟩, rfl⟩
          have h9 := HI.out.2.2.2
          rw [HD.out] at h9
          rw [← h9, HM2.out]
          rfl
      · have d2 : decide ((i : Int) < (l1.length : Int)) = false := decide_eq_false c2
        go_wp2
        go_ret
        refine ⟨?_, HB.out⟩
        have h9 := HI.out.2.2.2
        have hn := HI.out.2.2.1
        rw [List.drop_of_length_le (by omega)] at h9
        rw [show IntKind.u32.max = ((ones : Nat) : Int) from by decide, Go.u32_xor_nat ones n (by decide) hn, Nat.xor_comm]
        unfold moreN
        rw [← h9]
        rfl
  · rw [if_neg hc] at h
    cases h
end Go.Proofs.Ytgkdigaieelopaa.Hand

/- Printed by a program of this session (drv.py) from the translation of this seat: functions, their contracts, rows. -/
namespace Go.Proofs.Ytgkdigaieelopaa.PCrc
open Go.RowKit Go.Proofs.YtgkdigaieelopaaW.PrintWords Go.Proofs.YtgkdigaieelopaaW.PrintLast Go.Proofs.YtgkdigaieelopaaW.PrintMore
attribute [local go_sem] max2_int min2_int max_two min_two max_three min_three max_four min_four   -- for this text's walks alone
set_option linter.unusedVariables false
set_option linter.unusedSimpArgs false

/-! ### crc_More: function 16 (by hand) -/
def crc_More.f (a0 : Int) (l1 : List Int) : Option (Int) := Go.Proofs.Ytgkdigaieelopaa.Hand.moreF a0 l1
theorem crc_More.calls (a0 : Int) (A1 : Option Addr) (c1 : Nat) (l1 : List Int) (r : Int) (w : World) (hr1 : Kd.C (Kd.int .u8) w A1 l1.length l1) (hc1 : l1.length ≤ c1) (h : crc_More.f a0 l1 = some r) :
    Calls Try.prog 16 #[.int .u32 a0, .slice A1 l1.length c1] w fun e w' => e = .returned (.int .u32 r) ∧ Below w.heap.size w w' :=
  Go.Proofs.Ytgkdigaieelopaa.Hand.more_calls _ _ _ _ _ _ hr1 hc1 h

end Go.Proofs.Ytgkdigaieelopaa.PCrc

/- Printed by a program of this session (drv.py) from the translation of this seat: functions, their contracts, rows. -/
namespace Go.Proofs.Ytgkdigaieelopaa.PCrc
open Go.RowKit Go.Proofs.YtgkdigaieelopaaW.PrintWords Go.Proofs.YtgkdigaieelopaaW.PrintLast Go.Proofs.YtgkdigaieelopaaW.PrintMore
attribute [local go_sem] max2_int min2_int max_two min_two max_three min_three max_four min_four   -- for this text's walks alone
set_option linter.unusedVariables false
set_option linter.unusedSimpArgs false

/-! ### crc_Sum: function 10 -/
def crc_Sum.f (l0 : List Int) : Option (Int) := (crc_More.f 0 l0).bind fun t101 => (some t101)
set_option maxHeartbeats 8000000 in
set_option maxRecDepth 100000 in
theorem crc_Sum.calls (A0 : Option Addr) (c0 : Nat) (l0 : List Int) (r : Int) (w : World) (hr0 : Kd.C (Kd.int .u8) w A0 l0.length l0) (hc0 : l0.length ≤ c0) (h : crc_Sum.f l0 = some r) :
    Calls Try.prog 10 #[.slice A0 l0.length c0] w fun e w' => e = .returned (.int .u32 r) ∧ Below w.heap.size w w' := by
  have HR0 := Aside0.mk hr0
  have HC0 := Aside0.mk hc0
  clear hr0 hc0
  have HB := Aside0.mk (Below.refl w.heap.size w)
  have H : ((crc_More.f 0 l0).bind fun t101 => (some t101)) = some r := h
  clear h
  replace H := Option.bind_eq_some_iff.mp H
  obtain ⟨t101, A20, H⟩ := H
  replace H : (some t101) = some r := H
  have A2 := Aside0.mk A20
  clear A20
  obtain rfl := Option.some.inj H
  go_enter Try.func10, Try.ntmps10
  go_wp2_with (first | ((with_reducible refine gate_callee (f := 16) rfl ?_); refine goesL_ (some 4) rfl rfl Try.func16 (by kernel_rfl) rfl #[.int .u32 0, .slice A0 l0.length c0] rfl (by (try simp only [List.map_toArray, List.map_cons, List.map_nil]); first | done | rfl | (simp only [List.length_drop, List.length_take]; rfl)) ?_; (with_reducible refine (crc_More.calls 0 _ _ l0 t101 _ ?side1 ?side2 A2.out).mono ?_); (case side1 => repeat (first | exact HR0.out | (with_reducible refine Kd.C_alloc ?_ _) | (with_reducible refine Kd.C_drewN ?_ _) | (with_reducible refine Kd.C_drew ?_))); (case side2 => exact HC0.out); rintro e w3 ⟨rfl, hb⟩; refine ⟨_, rfl, ?_⟩; have n0_ := Aside0.mk (below_step (by repeat (first | (with_reducible first | exact HB.out | apply below_alloc | apply pw_below_drewN | apply below_drew1) | exact HB.out)) hb); clear HB; have HB := n0_; clear n0_; (try clear hb); (try clear hb2); (try clear hk); (try clear hi)))
  go_ret
  exact ⟨by first | rfl | (simp [errW_none, errW_some] <;> rfl) | (simp [*, errW_none, errW_some] <;> rfl), by repeat (first | (with_reducible first | exact HB.out | apply below_alloc | apply pw_below_drewN | apply below_drew1) | exact HB.out)⟩

end Go.Proofs.Ytgkdigaieelopaa.PCrc

/- Printed by a program of this session (drv.py) from the translation of this seat: functions, their contracts, rows. -/
namespace Go.Proofs.Ytgkdigaieelopaa.PCrc
open Go.RowKit Go.Proofs.YtgkdigaieelopaaW.PrintWords Go.Proofs.YtgkdigaieelopaaW.PrintLast Go.Proofs.YtgkdigaieelopaaW.PrintMore
attribute [local go_sem] max2_int min2_int max_two min_two max_three min_three max_four min_four   -- for this text's walks alone
set_option linter.unusedVariables false
set_option linter.unusedSimpArgs false

/-! ### crc_Parts: function 15 -/
def crc_Parts.l0 : Nat → Int → List (List Int) → Int → Int → Option (Int)
  | 0, _, _, _, _ => none
  | k + 1, x3, x6, x7, x8 => if x8 < x7 then (if 0 ≤ x8 then (if x8 < (x6.length : Int) then ((crc_More.f x3 (rd_L1 x6 x8)).bind fun t170 => (crc_Parts.l0 k t170 x6 x7 (wrap64 (x8 + 1)))) else (none)) else (none)) else (some x3)
def crc_Parts.f (k : Nat) (l0 : List (List Int)) : Option (Int) := crc_Parts.l0 k 0 l0 (l0.length : Int) 0
theorem crc_Parts.mono_l : ∀ k, (∀ y0 y1 y2 y3, LeO (crc_Parts.l0 k y0 y1 y2 y3) (crc_Parts.l0 (k + 1) y0 y1 y2 y3))
  | 0 => fun _ _ _ _ r h => by simp [crc_Parts.l0] at h
  | k + 1 => by
    have ih0 := crc_Parts.mono_l k
    · intro y0 y1 y2 y3
      unfold crc_Parts.l0
      repeat' first
      | (with_reducible exact ih0 _ _ _ _)
      | (with_reducible exact LeO.refl _)
      | (with_reducible exact LeO.none _)
      | (with_reducible refine LeO.ite ?_ ?_)
      | (with_reducible refine LeO.bind ?_ (fun _ => ?_))
      | exact ih0 _ _ _ _
      | exact LeO.none _
      | refine LeO.ite ?_ ?_
      | refine LeO.bind ?_ (fun _ => ?_)
theorem crc_Parts.mono : ∀ a0 k, LeO (crc_Parts.f k a0) (crc_Parts.f (k + 1) a0) := by
  intro a0 k
  have ih0 := crc_Parts.mono_l k
  unfold crc_Parts.f
  repeat' first
      | (with_reducible exact ih0 _ _ _ _)
      | (with_reducible exact LeO.refl _)
      | (with_reducible exact LeO.none _)
      | (with_reducible refine LeO.ite ?_ ?_)
      | (with_reducible refine LeO.bind ?_ (fun _ => ?_))
      | exact ih0 _ _ _ _
      | exact LeO.none _
      | refine LeO.ite ?_ ?_
      | refine LeO.bind ?_ (fun _ => ?_)
set_option maxHeartbeats 8000000 in
set_option maxRecDepth 100000 in
theorem crc_Parts.calls (k : Nat) (A0 : Option Addr) (c0 : Nat) (l0 : List (List Int)) (r : Int) (w : World) (hr0 : Kd.C (Kd.slice 5 (Kd.int .u8)) w A0 l0.length l0) (hc0 : l0.length ≤ c0) (h : crc_Parts.f k l0 = some r) :
    Calls Try.prog 15 #[.slice A0 l0.length c0] w fun e w' => e = .returned (.int .u32 r) ∧ Below w.heap.size w w' := by
  have HR0 := Aside0.mk hr0
  have HC0 := Aside0.mk hc0
  clear hr0 hc0
  have HB := Aside0.mk (Below.refl w.heap.size w)
  have H : (crc_Parts.l0 k 0 l0 (l0.length : Int) 0) = some r := h
  clear h
  have H' := Aside0.mk H
  clear H
  go_enter Try.func15, Try.ntmps15
  go_wp2
  go_loopg [3, 8] k (fun kq v3 v8 w' => ∃ (x3_1 : Int) (x8_1 : Int), v3 = .int .u32 x3_1 ∧ v8 = .int .i64 x8_1 ∧ Aside0 (crc_Parts.l0 kq x3_1 l0 (l0.length : Int) x8_1 = some r) ∧ Aside0 (kq ≤ k) ∧ Aside0 (Below w.heap.size w w'))
  case atStart => exact ⟨(0), (0), (by first | rfl | (simp; done) | (simp [*]; done)), (by first | rfl | (simp; done) | (simp [*]; done)), H', ⟨Nat.le_refl _⟩, ⟨by repeat (first | (with_reducible first | exact HB.out | apply below_alloc | apply pw_below_drewN | apply below_drew1) | exact HB.out)⟩⟩
  case round =>
    clear H'
    try clear c1
    obtain ⟨x3_1, x8_1, rfl, rfl, HA, HK1, HB⟩ := hrel
    cases gk with
    | zero => exact absurd HA.out (by simp [crc_Parts.l0])
    | succ k1 =>
      have H := HA.out
      clear HA
      simp only [crc_Parts.l0] at H
      by_cases c2 : x8_1 < (l0.length : Int)
      · rw [if_pos c2] at H
        have c2b0 : decide (x8_1 < (l0.length : Int)) = true := decide_eq_true c2
        clear c2
        by_cases c3 : 0 ≤ x8_1
        · rw [if_pos c3] at H
          have c3b0 : decide (0 ≤ x8_1) = true := decide_eq_true c3
          clear c3
          by_cases c4 : x8_1 < (l0.length : Int)
          · rw [if_pos c4] at H
            have c4b0 : decide (x8_1 < (l0.length : Int)) = true := decide_eq_true c4
            clear c4
            replace H := Option.bind_eq_some_iff.mp H
            obtain ⟨t170, A50, H⟩ := H
            replace H : (crc_Parts.l0 k1 t170 l0 (l0.length : Int) (wrap64 (x8_1 + 1))) = some r := H
            have A5 := Aside0.mk A50
            clear A50
            have H' := Aside0.mk H
            clear H
            have p169 : 0 ≤ (x8_1 : Int) := of_decide_eq_true (by first | (with_reducible assumption) | assumption)
            have q169 : x8_1 < (l0.length : Int) := of_decide_eq_true (by first | (with_reducible assumption) | assumption)
            obtain ⟨ad169, A169_0, c169_0, e169, hx169_0, hl169_0, hi169_0⟩ := at_L1 HR0.out x8_1 p169 q169
            cases e169
            replace hx169_0 := (HB.out.cell (World.block_lt_of_cell? w _ hx169_0)).trans hx169_0
            have HR169_0 := Aside0.mk hi169_0
            have HC169_0 := Aside0.mk hl169_0
            clear hi169_0 hl169_0
            replace p169 := eq_true p169
            replace q169 := eq_true q169
            go_wp2_with (first | ((with_reducible refine gate_callee (f := 16) rfl ?_); refine goesL_ (some 14) rfl rfl Try.func16 (by kernel_rfl) rfl #[.int .u32 x3_1, .slice A169_0 (rd_L1 l0 x8_1).length c169_0] rfl (by (try simp only [List.map_toArray, List.map_cons, List.map_nil]); first | done | rfl | (simp only [List.length_drop, List.length_take]; rfl)) ?_; (with_reducible refine (crc_More.calls x3_1 _ _ (rd_L1 l0 x8_1) t170 _ ?side1 ?side2 A5.out).mono ?_); (case side1 => repeat (first | exact (Kd.C_below HR169_0.out HB.out) | (with_reducible refine Kd.C_alloc ?_ _) | (with_reducible refine Kd.C_drewN ?_ _) | (with_reducible refine Kd.C_drew ?_))); (case side2 => exact HC169_0.out); rintro e w6 ⟨rfl, hb⟩; refine ⟨_, rfl, ?_⟩; have n0_ := Aside0.mk (below_step (by repeat (first | (with_reducible first | exact HB.out | apply below_alloc | apply pw_below_drewN | apply below_drew1) | exact HB.out)) hb); clear HB; have HB := n0_; clear n0_; (try clear hb); (try clear hb2); (try clear hk); (try clear hi)))
            go_roundg k1
            case measure => have := HK1.out; omega
            case rel => exact ⟨(t170), (wrap64 (x8_1 + 1)), (by first | rfl | (simp; done) | (simp [*]; done)), (by first | rfl | (simp; done) | (simp [*]; done)), H', ⟨by have := HK1.out; omega⟩, ⟨by repeat (first | (with_reducible first | exact HB.out | apply below_alloc | apply pw_below_drewN | apply below_drew1) | exact HB.out)⟩⟩
          · rw [if_neg c4] at H
            exact absurd H (by simp)
        · rw [if_neg c3] at H
          exact absurd H (by simp)
      · rw [if_neg c2] at H
        have c2b0 : decide (x8_1 < (l0.length : Int)) = false := decide_eq_false c2
        clear c2
        obtain rfl := Option.some.inj H
        go_wp2
        go_ret
        exact ⟨by first | rfl | (simp [errW_none, errW_some] <;> rfl) | (simp [*, errW_none, errW_some] <;> rfl), by repeat (first | (with_reducible first | exact HB.out | apply below_alloc | apply pw_below_drewN | apply below_drew1) | exact HB.out)⟩

end Go.Proofs.Ytgkdigaieelopaa.PCrc

/- Plain facts on rows of bytes and on whole numbers of a kind, without any program. -/
namespace Go.Proofs.Ytgkdigaieelopaa.Plain
open Go.RowKit Go.Proofs.YtgkdigaieelopaaW.PrintWords Go.Proofs.YtgkdigaieelopaaW.PrintLast Go.Proofs.YtgkdigaieelopaaW.PrintMore
set_option linter.unusedVariables false
set_option linter.unusedSimpArgs false

def isB (l : List Int) : Prop := ∀ x ∈ l, 0 ≤ x ∧ x < 256
theorem w64 {x : Int} (h0 : -9223372036854775808 ≤ x) (h1 : x < 9223372036854775808) : wrap64 x = x := by unfold wrap64; omega
theorem wrap_u64 (n : Int) : IntKind.u64.wrap n = n % 18446744073709551616 := by simp [IntKind.wrap, IntKind.bits, IntKind.signed]
theorem rd_at (l : List Int) (i : Nat) (h : i < l.length) : rd l (i : Int) = l[i] := by
  unfold rd
  rw [Int.toNat_natCast, List.getD_eq_getElem?_getD, List.getElem?_eq_getElem h]
  rfl

theorem isB_drop {l : List Int} (h : isB l) (i : Nat) : isB (l.drop i) := fun x hx => h x (List.mem_of_mem_drop hx)
theorem isB_take {l : List Int} (h : isB l) (i : Nat) : isB (l.take i) := fun x hx => h x (List.mem_of_mem_take hx)
theorem isB_append {l r : List Int} (h : isB l) (h' : isB r) : isB (l ++ r) := fun x hx => (List.mem_append.1 hx).elim (h x) (h' x)
theorem isB_bytesOf (s : ByteArray) : isB (bytesOf s) := by
  intro x hx
  obtain ⟨b, _, rfl⟩ := List.mem_map.1 hx
  have := b.toNat_lt
  omega
theorem bytesOf_strOfNums {l : List Int} (h : isB l) : bytesOf (strOfNums l) = l := by
  unfold bytesOf
  rw [strOfNums_data, List.map_map]
  conv => rhs; rw [← List.map_id l]
  refine List.map_congr_left fun x hx => ?_
  have := h x hx
  show (((UInt8.ofNat x.toNat).toNat : Nat) : Int) = x
  rw [UInt8.toNat_ofNat']
  omega
theorem strOfNums_inj {l r : List Int} (h : isB l) (h' : isB r) (e : (strOfNums l).toList = (strOfNums r).toList) : l = r := by
  have := congrArg (fun s : List UInt8 => s.map fun b => (b.toNat : Int)) e
  rw [ByteArray.toList_eq, ByteArray.toList_eq] at this
  have e2 : bytesOf (strOfNums l) = bytesOf (strOfNums r) := this
  rwa [bytesOf_strOfNums h, bytesOf_strOfNums h'] at e2
theorem strOfNums_append (l r : List Int) : strOfNums l ++ strOfNums r = strOfNums (l ++ r) := by
  apply ByteArray.ext
  rw [ByteArray.data_append]
  apply Array.ext'
  simp [strOfNums]

theorem wf_i64 {a : Int} (h : (Lit.int .i64 a).wf = true) : -9223372036854775808 ≤ a ∧ a < 9223372036854775808 := by
  have h : IntKind.i64.min ≤ a ∧ a ≤ IntKind.i64.max := by simpa [Lit.wf] using h
  rw [show IntKind.i64.min = -9223372036854775808 from by decide, show IntKind.i64.max = 9223372036854775807 from by decide] at h
  omega
theorem wf_u64 {a : Int} (h : (Lit.int .u64 a).wf = true) : 0 ≤ a ∧ a < 18446744073709551616 := by
  have h : IntKind.u64.min ≤ a ∧ a ≤ IntKind.u64.max := by simpa [Lit.wf] using h
  rw [show IntKind.u64.min = 0 from by decide, show IntKind.u64.max = 18446744073709551615 from by decide] at h
  omega
theorem wf_u8 {a : Int} (h : (Lit.int .u8 a).wf = true) : 0 ≤ a ∧ a < 256 := by
  have h : IntKind.u8.min ≤ a ∧ a ≤ IntKind.u8.max := by simpa [Lit.wf] using h
  rw [show IntKind.u8.min = 0 from by decide, show IntKind.u8.max = 255 from by decide] at h
  omega

theorem wf_u32 {a : Int} (h : (Lit.int .u32 a).wf = true) : 0 ≤ a ∧ a < 4294967296 := by
  have h : IntKind.u32.min ≤ a ∧ a ≤ IntKind.u32.max := by simpa [Lit.wf] using h
  rw [show IntKind.u32.min = 0 from by decide, show IntKind.u32.max = 4294967295 from by decide] at h
  omega
/-- A row of low bits, taken out of a whole number. -/
theorem and_low (a : Int) (j : Nat) (hj : j < 63) : Go.bits .and .i64 a ((2 ^ j - 1 : Nat) : Int) = a % ((2 ^ j : Nat) : Int) := by
  show IntKind.i64.wrap ((BitVec.ofInt 64 a &&& BitVec.ofInt 64 ((2 ^ j - 1 : Nat) : Int)).toNat : Int) = _
  have hp : 2 ^ j ≤ 2 ^ 62 := Nat.pow_le_pow_right (by omega) (by omega)
  have hp0 : 0 < 2 ^ j := Nat.pow_pos (by omega)
  have e : (BitVec.ofInt 64 a &&& BitVec.ofInt 64 ((2 ^ j - 1 : Nat) : Int)).toNat = (a % 18446744073709551616).toNat % 2 ^ j := by
    rw [BitVec.toNat_and, BitVec.toNat_ofInt, Go.ofInt_u64 _ (by omega)]
    exact Nat.and_two_pow_sub_one_eq_mod _ j
  have hd : (2 : Int) ^ 64 = ((2 ^ j : Nat) : Int) * ((2 ^ (64 - j) : Nat) : Int) := by
    rw [← Int.natCast_mul, ← Nat.pow_add, show j + (64 - j) = 64 from by omega]
    rfl
  have hm : a % 18446744073709551616 % ((2 ^ j : Nat) : Int) = a % ((2 ^ j : Nat) : Int) := by
    refine Int.emod_emod_of_dvd a ⟨((2 ^ (64 - j) : Nat) : Int), ?_⟩
    rw [← hd]
    rfl
  have h0 : 0 ≤ a % ((2 ^ j : Nat) : Int) := Int.emod_nonneg _ (by omega)
  have h1 : a % ((2 ^ j : Nat) : Int) < ((2 ^ j : Nat) : Int) := Int.emod_lt_of_pos _ (by omega)
  rw [e]
  have e2 : (((a % 18446744073709551616).toNat % 2 ^ j : Nat) : Int) = a % ((2 ^ j : Nat) : Int) := by
    rw [Int.natCast_emod, Int.toNat_of_nonneg (by omega), hm]
  rw [e2, Go.IntKind.wrap_i64]
  generalize a % ((2 ^ j : Nat) : Int) = q at h0 h1
  generalize 2 ^ j = p at hp h1
  omega
end Go.Proofs.Ytgkdigaieelopaa.Plain

/- The contract, proved by hand, of concordanceref1.Sum: the document's sum of a string's bytes, bit by bit: moreN 0. -/
namespace Go.Proofs.Ytgkdigaieelopaa.Hand
open Go.RowKit Go.Proofs.YtgkdigaieelopaaW.PrintWords Go.Proofs.YtgkdigaieelopaaW.PrintLast Go.Proofs.YtgkdigaieelopaaW.PrintMore
open Go.Proofs.Ytgkdigaieelopaa.Plain
set_option linter.unusedVariables false
set_option linter.unusedSimpArgs false

def refsumF (s : ByteArray) : Option Int := if s.size ≤ 140737488355328 then some ((moreN 0 (bytesOf s) : Nat) : Int) else none
theorem bit_odd (n : Nat) (h : n < 4294967296) (ho : n % 2 = 1) : Go.bits .xor .u32 ((n : Int) / 2) 2197175160 = ((bitN n : Nat) : Int) := by
  rw [show (n : Int) / 2 = ((n / 2 : Nat) : Int) from by omega, show (2197175160 : Int) = ((polyN : Nat) : Int) from by decide, Go.u32_xor_nat _ polyN (by omega) (by decide)]
  unfold bitN
  rw [if_pos ho]
theorem bit_even (n : Nat) (ho : ¬ n % 2 = 1) : (n : Int) / 2 = ((bitN n : Nat) : Int) := by
  unfold bitN
  rw [if_neg ho, Nat.xor_zero]
  omega
set_option maxHeartbeats 800000 in
set_option maxRecDepth 100000 in
theorem refsum_calls (s : ByteArray) (r : Int) (w : World) (h : refsumF s = some r) :
    Calls Try.prog 14 #[.string s] w fun e w' => e = .returned (.int .u32 r) ∧ Drawn0 w w' := by
  unfold refsumF at h
  by_cases hs : s.size ≤ 140737488355328
  · rw [if_pos hs] at h
    obtain rfl := Option.some.inj h
    clear h
    have HS := Aside0.mk hs
    have HL := Aside0.mk (isB_bytesOf s)
    have HN := Aside0.mk (bytesOf_length s)
    clear hs
    go_enter Try.func14, Try.ntmps14
    go_wp2
    go_loopg [3, 4] s.size (fun kq v3 v4 w' => ∃ (i n : Nat), v4 = .int .i64 (i : Int) ∧ v3 = .int .u32 (n : Int) ∧ Aside0 (i ≤ s.size ∧ s.size - i ≤ kq ∧ n < 4294967296 ∧ sumN n ((bytesOf s).drop i) = sumN ones (bytesOf s)) ∧ w' = w)
    case atStart => exact ⟨0, ones, rfl, rfl, ⟨by omega, by omega, by decide, by rw [List.drop_zero]⟩, rfl⟩
    case round =>
      obtain ⟨i, n, rfl, rfl, HI, rfl⟩ := hrel
      by_cases c2 : (i : Int) < (s.size : Int)
      · have d2 : decide ((i : Int) < (s.size : Int)) = true := decide_eq_true c2
        have hlt : i < s.size := by omega
        have hbl : i < (bytesOf s).length := by have := HN.out; omega
        have hby : (bytesOf s)[i] = ((s[i].toNat : Nat) : Int) := by
          simp only [bytesOf, List.getElem_map, Array.getElem_toList]
          rfl
        have hdr := List.drop_eq_getElem_cons hbl
        rw [hby] at hdr
        have hc2 : s[i].toNat < 256 := s[i].toNat_lt
        obtain ⟨c, hce⟩ : ∃ c, s[i].toNat = c := ⟨_, rfl⟩
        rw [hce] at hdr hc2
        have hn := HI.out.2.2.1
        have e1 : Go.bits .xor .u32 (n : Int) ((c : Int) % 4294967296) = ((n ^^^ c : Nat) : Int) := by
          rw [show (c : Int) % 4294967296 = (c : Int) from by omega, Go.u32_xor_nat n c hn (by omega)]
        have HX := Aside0.mk (show n ^^^ c < 4294967296 from Nat.xor_lt_two_pow (n := 32) hn (by omega))
        have HD := Aside0.mk hdr
        clear hby hdr hc2 hn hbl
        go_wp2
        (try simp only [hce, e1])
        clear e1
        go_loopg [3, 5] 8 (fun kq v3 v5 w' => ∃ (j : Nat), v5 = .int .i64 (j : Int) ∧ v3 = .int .u32 ((bitsN j (n ^^^ c) : Nat) : Int) ∧ Aside0 (j ≤ 8 ∧ 8 - j ≤ kq) ∧ w' = wr)
        case atStart => exact ⟨0, rfl, rfl, ⟨by omega, by omega⟩, rfl⟩
        case round =>
          obtain ⟨j, rfl, rfl, HJ, rfl⟩ := hrel
          have hm := bitsN_lt j HX.out
          by_cases c3 : (j : Int) < 8
          · have d3 : decide ((j : Int) < 8) = true := decide_eq_true c3
            have HJ8 := Aside0.mk (show j < 8 by omega)
            have hsn := bitsN_snoc j (n ^^^ c)
            have hand : Go.bits .and .u32 ((bitsN j (n ^^^ c) : Nat) : Int) 1 = ((bitsN j (n ^^^ c) % 2 : Nat) : Int) := by
              rw [show (1 : Int) = ((1 : Nat) : Int) from rfl, Go.u32_and_nat _ 1 hm (by omega), Go.nat_mask1]
            rcases Nat.mod_two_eq_zero_or_one (bitsN j (n ^^^ c)) with ho | ho
            · have hev := bit_even (bitsN j (n ^^^ c)) (by omega)
              rw [ho] at hand
              have hand2 : (Go.bits .and .u32 ((bitsN j (n ^^^ c) : Nat) : Int) 1 == 1) = false := by rw [hand]; rfl
              clear hand ho
              go_wp2
              have HSN := Aside0.mk hsn
              clear hsn
              rw [← HSN.out]
              go_roundg (7 - j)
              case measure => have := HJ.out; have := HJ8.out; omega
              case rel => exact ⟨j + 1, by simp, rfl, ⟨HJ8.out, by have := HJ8.out; omega⟩, rfl⟩
            · have hod := bit_odd (bitsN j (n ^^^ c)) hm ho
              rw [ho] at hand
              have hand2 : (Go.bits .and .u32 ((bitsN j (n ^^^ c) : Nat) : Int) 1 == 1) = true := by rw [hand]; rfl
              clear hand ho
              go_wp2
              have HSN := Aside0.mk hsn
              clear hsn
              rw [← HSN.out]
              go_roundg (7 - j)
              case measure => have := HJ.out; have := HJ8.out; omega
              case rel => exact ⟨j + 1, by simp, rfl, ⟨HJ8.out, by have := HJ8.out; omega⟩, rfl⟩
          · have d3 : decide ((j : Int) < 8) = false := decide_eq_false c3
            obtain rfl : j = 8 := by have := HJ.out; omega
            go_wp2
            rw [show wrap64 ((i : Int) + 1) = ((i + 1 : Nat) : Int) from by have := HS.out; clear HJ HD; unfold wrap64; omega]
            go_roundg (s.size - 1 - i)
            case measure => have := HI.out.1; have := HI.out.2.1; omega
            case rel =>
              refine ⟨i + 1, bitsN 8 (n ^^^ c), rfl, rfl, ⟨hlt, by omega, bitsN_lt 8 HX.out, ?_⟩, rfl⟩
              have h9 := HI.out.2.2.2
              rw [HD.out] at h9
              rw [← h9]
              rfl
      · have d2 : decide ((i : Int) < (s.size : Int)) = false := decide_eq_false c2
        go_wp2
        go_ret
        refine ⟨?_, Drawn0.refl _⟩
        have h9 := HI.out.2.2.2
        have hn := HI.out.2.2.1
        have hln := HN.out
        rw [List.drop_of_length_le (by omega)] at h9
        rw [show IntKind.u32.max = ((ones : Nat) : Int) from by decide, Go.u32_xor_nat ones n (by decide) hn, Nat.xor_comm]
        unfold moreN
        rw [Nat.zero_xor, ← h9]
        rfl
  · rw [if_neg hs] at h
    cases h
end Go.Proofs.Ytgkdigaieelopaa.Hand

/- Printed by a program of this session (drv.py) from the translation of this seat: functions, their contracts, rows. -/
namespace Go.Proofs.Ytgkdigaieelopaa.PCrc
open Go.RowKit Go.Proofs.YtgkdigaieelopaaW.PrintWords Go.Proofs.YtgkdigaieelopaaW.PrintLast Go.Proofs.YtgkdigaieelopaaW.PrintMore
attribute [local go_sem] max2_int min2_int max_two min_two max_three min_three max_four min_four   -- for this text's walks alone
set_option linter.unusedVariables false
set_option linter.unusedSimpArgs false

/-! ### concordanceref1_Sum: function 14 (by hand) -/
def concordanceref1_Sum.f (a0 : ByteArray) : Option (Int) := Go.Proofs.Ytgkdigaieelopaa.Hand.refsumF a0
theorem concordanceref1_Sum.calls (a0 : ByteArray) (r : Int) (w : World) (h : concordanceref1_Sum.f a0 = some r) :
    Calls Try.prog 14 #[.string a0] w fun e w' => e = .returned (.int .u32 r) ∧ Drawn0 w w' :=
  Go.Proofs.Ytgkdigaieelopaa.Hand.refsum_calls _ _ _ h

end Go.Proofs.Ytgkdigaieelopaa.PCrc

/- Printed by a program of this session (drv.py) from the translation of this seat: functions, their contracts, rows. -/
namespace Go.Proofs.Ytgkdigaieelopaa.PCrc
open Go.RowKit Go.Proofs.YtgkdigaieelopaaW.PrintWords Go.Proofs.YtgkdigaieelopaaW.PrintLast Go.Proofs.YtgkdigaieelopaaW.PrintMore
attribute [local go_sem] max2_int min2_int max_two min_two max_three min_three max_four min_four   -- for this text's walks alone
set_option linter.unusedVariables false
set_option linter.unusedSimpArgs false

/-! ### concordanceref1_four: function 21 -/
def concordanceref1_four.f (a0 : Int) : Option (ByteArray) := some (strOfNums (([(a0) % 256, (a0 / 256) % 256, (a0 / 65536) % 256, (a0 / 16777216) % 256] : List Int)))
set_option maxHeartbeats 8000000 in
set_option maxRecDepth 100000 in
theorem concordanceref1_four.calls (a0 : Int) (r : ByteArray) (w : World) (h : concordanceref1_four.f a0 = some r) :
    Calls Try.prog 21 #[.int .u32 a0] w fun e w' => e = .returned (.string r) ∧ Below w.heap.size w w' := by
  have HB := Aside0.mk (Below.refl w.heap.size w)
  have H : (some (strOfNums (([(a0) % 256, (a0 / 256) % 256, (a0 / 65536) % 256, (a0 / 16777216) % 256] : List Int)))) = some r := h
  clear h
  obtain ⟨y176, hy176⟩ : ∃ y_ : List Int, y_ = (([(a0) % 256, (a0 / 256) % 256, (a0 / 65536) % 256, (a0 / 16777216) % 256] : List Int)) := ⟨_, rfl⟩
  replace H : (some (strOfNums y176)) = some r := by first | (rw [hy176]; with_reducible exact H) | (have H2_ := (Option.bind_some _ _).symm.trans H; rw [hy176]; with_reducible exact H2_) | (have H2_ := (Option.bind_some _ _).symm.trans H; with_reducible exact H2_) | with_reducible exact H | (rw [hy176]; exact H) | exact H
  have Ny176 := Aside0.mk hy176
  clear hy176
  obtain rfl := Option.some.inj H
  go_enter Try.func21, Try.ntmps21
  go_wp2_with (first | ((with_reducible refine gate_dst (N := 14) rfl ?_); refine Kd.R_lit (Kd.int .u8) _ 5 ?hg (N := 14) ?hd (xs := ([(a0) % 256, (a0 / 256) % 256, (a0 / 65536) % 256, (a0 / 16777216) % 256] : List Int)) (inner := [.int .u8 ((a0) % 256), .int .u8 ((a0 / 256) % 256), .int .u8 ((a0 / 65536) % 256), .int .u8 ((a0 / 16777216) % 256)]) (ok := fun _ => True) (okp := fun _ => True) ?hr ?hp (fun _ hk => hk) trivial (Below.refl _ _) (Nat.le_refl _) (by simp) ?_; (case hd => rfl); (case hg => rfl); (case hr => first | (go_simp; done) | (go_simp; rfl)); (case hp => exact (Reps.one (show Kd.M (Kd.int .u8) _ _ _ ((a0) % 256) [.int .u8 ((a0) % 256)] from rfl) (Reps.one (show Kd.M (Kd.int .u8) _ _ _ ((a0 / 256) % 256) [.int .u8 ((a0 / 256) % 256)] from rfl) (Reps.one (show Kd.M (Kd.int .u8) _ _ _ ((a0 / 65536) % 256) [.int .u8 ((a0 / 65536) % 256)] from rfl) (Reps.one (show Kd.M (Kd.int .u8) _ _ _ ((a0 / 16777216) % 256) [.int .u8 ((a0 / 16777216) % 256)] from rfl) (Reps.none _ _)))))); intro v177 w2 ho3 hb hg_ hnew_; clear hg_ hnew_; (first | rw [← Ny176.out] at ho3 | (simp only [Int.reduceToNat] at ho3; rw [← Ny176.out] at ho3)); have n0_ := Aside0.mk (Kd.R_lower ho3 (below_size (by repeat (first | (with_reducible first | exact HB.out | apply below_alloc | apply pw_below_drewN | apply below_drew1) | exact HB.out)))); have n1_ := Aside0.mk (below_step (by repeat (first | (with_reducible first | exact HB.out | apply below_alloc | apply pw_below_drewN | apply below_drew1) | exact HB.out)) hb); clear HB; have HO178 := n0_; have HB := n1_; clear n0_ n1_; clear hb ho3; have hcv4 := own_string (P := Try.prog) Try.underlying22 Try.underlying5 Try.underlying9 (Kd.own_of_R HO178.out); have hcvd4 := fun nd_ : Nat => own_string (P := Try.prog) Try.underlying22 Try.underlying5 Try.underlying9 (Kd.own_of_R (Kd.R_drewN HO178.out nd_))))
  go_ret
  exact ⟨by first | rfl | (simp [errW_none, errW_some] <;> rfl) | (simp [*, errW_none, errW_some] <;> rfl), by repeat (first | (with_reducible first | exact HB.out | apply below_alloc | apply pw_below_drewN | apply below_drew1) | exact HB.out)⟩

end Go.Proofs.Ytgkdigaieelopaa.PCrc

/- Printed by a program of this session (drv.py) from the translation of this seat: functions, their contracts, rows. -/
namespace Go.Proofs.Ytgkdigaieelopaa.PCrc
open Go.RowKit Go.Proofs.YtgkdigaieelopaaW.PrintWords Go.Proofs.YtgkdigaieelopaaW.PrintLast Go.Proofs.YtgkdigaieelopaaW.PrintMore
attribute [local go_sem] max2_int min2_int max_two min_two max_three min_three max_four min_four   -- for this text's walks alone
set_option linter.unusedVariables false
set_option linter.unusedSimpArgs false

/-! ### concordanceref1_Seal: function 17 -/
def concordanceref1_Seal.f (a0 : ByteArray) : Option (ByteArray) := (concordanceref1_Sum.f a0).bind fun t179 => ((concordanceref1_four.f t179).bind fun t180 => (if a0.size + t180.size ≤ 9223372036854775807 then (some (a0 ++ t180)) else (none)))
set_option maxHeartbeats 8000000 in
set_option maxRecDepth 100000 in
theorem concordanceref1_Seal.calls (a0 : ByteArray) (r : ByteArray) (w : World) (h : concordanceref1_Seal.f a0 = some r) :
    Calls Try.prog 17 #[.string a0] w fun e w' => e = .returned (.string r) ∧ Below w.heap.size w w' := by
  have HB := Aside0.mk (Below.refl w.heap.size w)
  have H : ((concordanceref1_Sum.f a0).bind fun t179 => ((concordanceref1_four.f t179).bind fun t180 => (if a0.size + t180.size ≤ 9223372036854775807 then (some (a0 ++ t180)) else (none)))) = some r := h
  clear h
  replace H := Option.bind_eq_some_iff.mp H
  obtain ⟨t179, A20, H⟩ := H
  replace H : ((concordanceref1_four.f t179).bind fun t180 => (if a0.size + t180.size ≤ 9223372036854775807 then (some (a0 ++ t180)) else (none))) = some r := H
  have A2 := Aside0.mk A20
  clear A20
  replace H := Option.bind_eq_some_iff.mp H
  obtain ⟨t180, A30, H⟩ := H
  replace H : (if a0.size + t180.size ≤ 9223372036854775807 then (some (a0 ++ t180)) else (none)) = some r := H
  have A3 := Aside0.mk A30
  clear A30
  by_cases c4 : a0.size + t180.size ≤ 9223372036854775807
  · rw [if_pos c4] at H
    have c4b0 := eq_true c4
    have c4b1 : decide (a0.size + t180.size ≤ 9223372036854775807) = true := decide_eq_true c4
    try have c4b2 : (9223372036854775807 < a0.size + t180.size) = False := eq_false (Nat.not_lt.2 c4)
    obtain rfl := Option.some.inj H
    go_enter Try.func17, Try.ntmps17
    go_wp2_with (first | ((with_reducible refine gate_callee (f := 14) rfl ?_); refine goesL_ (some 5) rfl rfl Try.func14 (by kernel_rfl) rfl #[.string a0] rfl (by (try simp only [List.map_toArray, List.map_cons, List.map_nil]); first | done | rfl | (simp only [List.length_drop, List.length_take]; rfl)) ?_; (with_reducible refine (concordanceref1_Sum.calls a0 t179 _ A2.out).mono ?_); rintro e w' ⟨rfl, ⟨nd, rfl⟩⟩; refine ⟨_, rfl, ?_⟩) | ((with_reducible refine gate_callee (f := 21) rfl ?_); refine goesL_ (some 6) rfl rfl Try.func21 (by kernel_rfl) rfl #[.int .u32 t179] rfl (by (try simp only [List.map_toArray, List.map_cons, List.map_nil]); first | done | rfl | (simp only [List.length_drop, List.length_take]; rfl)) ?_; (with_reducible refine (concordanceref1_four.calls t179 t180 _ A3.out).mono ?_); rintro e w5 ⟨rfl, hb⟩; refine ⟨_, rfl, ?_⟩; have n0_ := Aside0.mk (below_step (by repeat (first | (with_reducible first | exact HB.out | apply below_alloc | apply pw_below_drewN | apply below_drew1) | exact HB.out)) hb); clear HB; have HB := n0_; clear n0_; (try clear hb); (try clear hb2); (try clear hk); (try clear hi)))
    go_ret
    exact ⟨by first | rfl | (simp [errW_none, errW_some] <;> rfl) | (simp [*, errW_none, errW_some] <;> rfl), by repeat (first | (with_reducible first | exact HB.out | apply below_alloc | apply pw_below_drewN | apply below_drew1) | exact HB.out)⟩
  · rw [if_neg c4] at H
    exact absurd H (by simp)

end Go.Proofs.Ytgkdigaieelopaa.PCrc

/- Printed by a program of this session (drv.py) from the translation of this seat: functions, their contracts, rows. -/
namespace Go.Proofs.Ytgkdigaieelopaa.PCrc
open Go.RowKit Go.Proofs.YtgkdigaieelopaaW.PrintWords Go.Proofs.YtgkdigaieelopaaW.PrintLast Go.Proofs.YtgkdigaieelopaaW.PrintMore
attribute [local go_sem] max2_int min2_int max_two min_two max_three min_three max_four min_four   -- for this text's walks alone
set_option linter.unusedVariables false
set_option linter.unusedSimpArgs false

/-! ### concordanceref1_Open: function 13 -/
def concordanceref1_Open.f (a0 : ByteArray) : Option (ByteArray × Int) := if (wrap64 ((a0.size : Int) - 4)) < 0 then (some ((⟨#[]⟩ : ByteArray), 4)) else (if 0 ≤ (wrap64 ((a0.size : Int) - 4)) then (if (wrap64 ((a0.size : Int) - 4)) ≤ (a0.size : Int) then ((concordanceref1_Seal.f (a0.extract 0 ((wrap64 ((a0.size : Int) - 4)) : Int).toNat)).bind fun t181 => (if t181.toList = a0.toList then (some (a0.extract 0 ((wrap64 ((a0.size : Int) - 4)) : Int).toNat, 0)) else (some ((⟨#[]⟩ : ByteArray), 5)))) else (none)) else (none))
set_option maxHeartbeats 8000000 in
set_option maxRecDepth 100000 in
theorem concordanceref1_Open.calls (a0 : ByteArray) (r1 : ByteArray) (r2 : Int) (w : World) (h : concordanceref1_Open.f a0 = some (r1, r2)) :
    Calls Try.prog 13 #[.string a0] w fun e w' => e = .returned (.tuple #[.string r1, .int .i64 r2]) ∧ Below w.heap.size w w' := by
  have HB := Aside0.mk (Below.refl w.heap.size w)
  have H : (if (wrap64 ((a0.size : Int) - 4)) < 0 then (some ((⟨#[]⟩ : ByteArray), 4)) else (if 0 ≤ (wrap64 ((a0.size : Int) - 4)) then (if (wrap64 ((a0.size : Int) - 4)) ≤ (a0.size : Int) then ((concordanceref1_Seal.f (a0.extract 0 ((wrap64 ((a0.size : Int) - 4)) : Int).toNat)).bind fun t181 => (if t181.toList = a0.toList then (some (a0.extract 0 ((wrap64 ((a0.size : Int) - 4)) : Int).toNat, 0)) else (some ((⟨#[]⟩ : ByteArray), 5)))) else (none)) else (none))) = some (r1, r2) := h
  clear h
  by_cases c2 : (wrap64 ((a0.size : Int) - 4)) < 0
  · rw [if_pos c2] at H
    have c2b0 : decide ((wrap64 ((a0.size : Int) - 4)) < 0) = true := decide_eq_true c2
    clear c2
    simp only [Option.some.injEq, Prod.mk.injEq] at H
    obtain ⟨rfl, rfl⟩ := H
    go_enter Try.func13, Try.ntmps13
    go_wp2
    go_ret2
    exact ⟨by first | rfl | (simp [errW_none, errW_some] <;> rfl) | (simp [*, errW_none, errW_some] <;> rfl), by repeat (first | (with_reducible first | exact HB.out | apply below_alloc | apply pw_below_drewN | apply below_drew1) | exact HB.out)⟩
  · rw [if_neg c2] at H
    have c2b0 : decide ((wrap64 ((a0.size : Int) - 4)) < 0) = false := decide_eq_false c2
    clear c2
    obtain ⟨ji3, hji3⟩ : ∃ j_ : Int, (wrap64 ((a0.size : Int) - 4)) = j_ := ⟨_, rfl⟩
    replace H : (if 0 ≤ (ji3) then (if (ji3) ≤ (a0.size : Int) then ((concordanceref1_Seal.f (a0.extract 0 ((ji3) : Int).toNat)).bind fun t181 => (if t181.toList = a0.toList then (some (a0.extract 0 ((ji3) : Int).toNat, 0)) else (some ((⟨#[]⟩ : ByteArray), 5)))) else (none)) else (none)) = some (r1, r2) := by first | (rw [hji3] at H; exact H) | (simp only [hji3] at H ⊢; exact H)
    (try rw [hji3] at c2b0)
    have hji3w : (IntKind.i64.wrap ((a0.size : Int) - 4)) = ji3 := (i64_w _).trans hji3
    by_cases c4 : 0 ≤ (ji3)
    · rw [if_pos c4] at H
      have c4b0 := eq_true c4
      have c4b1 : decide (0 ≤ (ji3)) = true := decide_eq_true c4
      clear c4
      by_cases c5 : (ji3) ≤ (a0.size : Int)
      · rw [if_pos c5] at H
        have c5b0 := eq_true c5
        have c5b1 : decide ((ji3) ≤ (a0.size : Int)) = true := decide_eq_true c5
        clear c5
        replace H := Option.bind_eq_some_iff.mp H
        obtain ⟨t181, A60, H⟩ := H
        replace H : (if t181.toList = a0.toList then (some (a0.extract 0 ((ji3) : Int).toNat, 0)) else (some ((⟨#[]⟩ : ByteArray), 5))) = some (r1, r2) := H
        have A6 := Aside0.mk A60
        clear A60
        by_cases c7 : t181.toList = a0.toList
        · rw [if_pos c7] at H
          have c7b0 : (t181.toList == a0.toList) = true := beq_iff_eq.mpr c7
          have c7b1 : (t181.toList != a0.toList) = false := bne_eq_false_iff_eq.mpr c7
          clear c7
          have c8b0 := eq_true (of_decide_eq_true (by first | (with_reducible assumption) | assumption) : 0 ≤ (ji3))
          have c9b0 := eq_true (of_decide_eq_true (by first | (with_reducible assumption) | assumption) : (ji3) ≤ (a0.size : Int))
          simp only [Option.some.injEq, Prod.mk.injEq] at H
          obtain ⟨rfl, rfl⟩ := H
          go_enter Try.func13, Try.ntmps13
          go_wp2_with (first | ((with_reducible refine gate_callee (f := 17) rfl ?_); refine goesL_ (some 13) rfl rfl Try.func17 (by kernel_rfl) rfl #[.string (a0.extract 0 ((ji3) : Int).toNat)] rfl (by (try simp only [List.map_toArray, List.map_cons, List.map_nil]); first | done | (simp only [hji3]; rfl) | rfl | (simp only [List.length_drop, List.length_take]; rfl)) ?_; (with_reducible refine (concordanceref1_Seal.calls (a0.extract 0 ((ji3) : Int).toNat) t181 _ A6.out).mono ?_); rintro e w10 ⟨rfl, hb⟩; refine ⟨_, rfl, ?_⟩; have n0_ := Aside0.mk (below_step (by repeat (first | (with_reducible first | exact HB.out | apply below_alloc | apply pw_below_drewN | apply below_drew1) | exact HB.out)) hb); clear HB; have HB := n0_; clear n0_; (try clear hb); (try clear hb2); (try clear hk); (try clear hi)))
          go_ret2
          exact ⟨by first | rfl | (simp [errW_none, errW_some] <;> rfl) | (simp only [← hji3]; first | rfl | (simp [errW_none, errW_some] <;> rfl)) | (simp [*, errW_none, errW_some] <;> rfl), by repeat (first | (with_reducible first | exact HB.out | apply below_alloc | apply pw_below_drewN | apply below_drew1) | exact HB.out)⟩
        · rw [if_neg c7] at H
          have c7b0 : (t181.toList == a0.toList) = false := beq_eq_false_iff_ne.mpr c7
          have c7b1 : (t181.toList != a0.toList) = true := bne_iff_ne.mpr c7
          simp only [Option.some.injEq, Prod.mk.injEq] at H
          obtain ⟨rfl, rfl⟩ := H
          go_enter Try.func13, Try.ntmps13
          go_wp2_with (first | ((with_reducible refine gate_callee (f := 17) rfl ?_); refine goesL_ (some 13) rfl rfl Try.func17 (by kernel_rfl) rfl #[.string (a0.extract 0 ((ji3) : Int).toNat)] rfl (by (try simp only [List.map_toArray, List.map_cons, List.map_nil]); first | done | (simp only [hji3]; rfl) | rfl | (simp only [List.length_drop, List.length_take]; rfl)) ?_; (with_reducible refine (concordanceref1_Seal.calls (a0.extract 0 ((ji3) : Int).toNat) t181 _ A6.out).mono ?_); rintro e w11 ⟨rfl, hb⟩; refine ⟨_, rfl, ?_⟩; have n0_ := Aside0.mk (below_step (by repeat (first | (with_reducible first | exact HB.out | apply below_alloc | apply pw_below_drewN | apply below_drew1) | exact HB.out)) hb); clear HB; have HB := n0_; clear n0_; (try clear hb); (try clear hb2); (try clear hk); (try clear hi)))
          go_ret2
          exact ⟨by first | rfl | (simp [errW_none, errW_some] <;> rfl) | (simp only [← hji3]; first | rfl | (simp [errW_none, errW_some] <;> rfl)) | (simp [*, errW_none, errW_some] <;> rfl), by repeat (first | (with_reducible first | exact HB.out | apply below_alloc | apply pw_below_drewN | apply below_drew1) | exact HB.out)⟩
      · rw [if_neg c5] at H
        exact absurd H (by simp)
    · rw [if_neg c4] at H
      exact absurd H (by simp)

end Go.Proofs.Ytgkdigaieelopaa.PCrc

/- Printed by a program of this session (drv.py) from the translation of this seat: functions, their contracts, rows. -/
namespace Go.Proofs.Ytgkdigaieelopaa.PCrc
open Go.RowKit Go.Proofs.YtgkdigaieelopaaW.PrintWords Go.Proofs.YtgkdigaieelopaaW.PrintLast Go.Proofs.YtgkdigaieelopaaW.PrintMore
attribute [local go_sem] max2_int min2_int max_two min_two max_three min_three max_four min_four   -- for this text's walks alone
set_option linter.unusedVariables false
set_option linter.unusedSimpArgs false

/-! ### crc_Tail: function 18 -/
def crc_Tail.f (a0 : Int) : Option (List Int) := some (([(a0) % 256, (a0 / 256) % 256, (a0 / 65536) % 256, (a0 / 16777216) % 256] : List Int))
set_option maxHeartbeats 8000000 in
set_option maxRecDepth 100000 in
theorem crc_Tail.calls (a0 : Int) (r : List Int) (w : World) (h : crc_Tail.f a0 = some r) :
    Calls Try.prog 18 #[.int .u32 a0] w fun e w' => ∃ v0_ : Value, e = .returned (v0_) ∧ Kd.R (Kd.int .u8) 5 w' w.heap.size (fun _ => True) v0_ r ∧ Below w.heap.size w w' := by
  have HB := Aside0.mk (Below.refl w.heap.size w)
  have H : (some (([(a0) % 256, (a0 / 256) % 256, (a0 / 65536) % 256, (a0 / 16777216) % 256] : List Int))) = some r := h
  clear h
  obtain ⟨y102, hy102⟩ : ∃ y_ : List Int, y_ = (([(a0) % 256, (a0 / 256) % 256, (a0 / 65536) % 256, (a0 / 16777216) % 256] : List Int)) := ⟨_, rfl⟩
  replace H : (some y102) = some r := by first | (rw [hy102]; with_reducible exact H) | (have H2_ := (Option.bind_some _ _).symm.trans H; rw [hy102]; with_reducible exact H2_) | (have H2_ := (Option.bind_some _ _).symm.trans H; with_reducible exact H2_) | with_reducible exact H | (rw [hy102]; exact H) | exact H
  have Ny102 := Aside0.mk hy102
  clear hy102
  obtain rfl := Option.some.inj H
  go_enter Try.func18, Try.ntmps18
  go_wp2_with (first | ((with_reducible refine gate_dst (N := 14) rfl ?_); refine Kd.R_lit (Kd.int .u8) _ 5 ?hg (N := 14) ?hd (xs := ([(a0) % 256, (a0 / 256) % 256, (a0 / 65536) % 256, (a0 / 16777216) % 256] : List Int)) (inner := [.int .u8 ((a0) % 256), .int .u8 ((a0 / 256) % 256), .int .u8 ((a0 / 65536) % 256), .int .u8 ((a0 / 16777216) % 256)]) (ok := fun _ => True) (okp := fun _ => True) ?hr ?hp (fun _ hk => hk) trivial (Below.refl _ _) (Nat.le_refl _) (by simp) ?_; (case hd => rfl); (case hg => rfl); (case hr => first | (go_simp; done) | (go_simp; rfl)); (case hp => exact (Reps.one (show Kd.M (Kd.int .u8) _ _ _ ((a0) % 256) [.int .u8 ((a0) % 256)] from rfl) (Reps.one (show Kd.M (Kd.int .u8) _ _ _ ((a0 / 256) % 256) [.int .u8 ((a0 / 256) % 256)] from rfl) (Reps.one (show Kd.M (Kd.int .u8) _ _ _ ((a0 / 65536) % 256) [.int .u8 ((a0 / 65536) % 256)] from rfl) (Reps.one (show Kd.M (Kd.int .u8) _ _ _ ((a0 / 16777216) % 256) [.int .u8 ((a0 / 16777216) % 256)] from rfl) (Reps.none _ _)))))); intro v103 w2 ho3 hb hg_ hnew_; clear hg_ hnew_; (first | rw [← Ny102.out] at ho3 | (simp only [Int.reduceToNat] at ho3; rw [← Ny102.out] at ho3)); have n0_ := Aside0.mk (Kd.R_lower ho3 (below_size (by repeat (first | (with_reducible first | exact HB.out | apply below_alloc | apply pw_below_drewN | apply below_drew1) | exact HB.out)))); have n1_ := Aside0.mk (below_step (by repeat (first | (with_reducible first | exact HB.out | apply below_alloc | apply pw_below_drewN | apply below_drew1) | exact HB.out)) hb); clear HB; have HO104 := n0_; have HB := n1_; clear n0_ n1_; clear hb ho3))
  go_ret
  exact ⟨_, by first | rfl | (simp [errW_none, errW_some] <;> rfl) | (simp [*, errW_none, errW_some] <;> rfl), by (with_reducible repeat (first | apply Kd.R_alloc | apply Kd.R_drewN | apply Kd.R_drew)); exact HO104.out, by repeat (first | (with_reducible first | exact HB.out | apply below_alloc | apply pw_below_drewN | apply below_drew1) | exact HB.out)⟩

end Go.Proofs.Ytgkdigaieelopaa.PCrc

/- The contract, proved by hand, of crc.Seal: the bytes that came in and behind them the four bytes of their sum, in a row of the call's own. -/
namespace Go.Proofs.Ytgkdigaieelopaa.Hand
open Go.RowKit Go.Proofs.YtgkdigaieelopaaW.PrintWords Go.Proofs.YtgkdigaieelopaaW.PrintLast Go.Proofs.YtgkdigaieelopaaW.PrintMore
open Go.Proofs.Ytgkdigaieelopaa.Plain Go.Proofs.Ytgkdigaieelopaa.PCrc
set_option linter.unusedVariables false
set_option linter.unusedSimpArgs false

/-- The four bytes of a sum, the least first. -/
def tailL (n : Nat) : List Int := [((n % 256 : Nat) : Int), ((n / 256 % 256 : Nat) : Int), ((n / 65536 % 256 : Nat) : Int), ((n / 16777216 % 256 : Nat) : Int)]
def sealF (l : List Int) : Option (List Int) := if (∀ x ∈ l, 0 ≤ x ∧ x < 256) ∧ l.length ≤ 140737488355000 then some (l ++ tailL (moreN 0 l)) else none
theorem sum_f {l : List Int} (hb : ∀ x ∈ l, 0 ≤ x ∧ x < 256) (hl : l.length ≤ 140737488355328) : crc_Sum.f l = some ((moreN 0 l : Nat) : Int) := by
  unfold crc_Sum.f crc_More.f moreF
  rw [if_pos ⟨⟨by omega, by omega⟩, hb, hl⟩]
  rfl
theorem tail_f (n : Nat) : crc_Tail.f (n : Int) = some (tailL n) := by
  unfold crc_Tail.f tailL
  congr 1

set_option maxHeartbeats 800000 in
set_option maxRecDepth 100000 in
theorem seal_calls (A0 : Option Addr) (c0 : Nat) (l0 : List Int) (r : List Int) (w : World) (hr0 : Kd.C (Kd.int .u8) w A0 l0.length l0) (hc0 : l0.length ≤ c0) (h : sealF l0 = some r) :
    Calls Try.prog 11 #[.slice A0 l0.length c0] w fun e w' => ∃ v0_ : Value, e = .returned (v0_) ∧ Kd.R (Kd.int .u8) 5 w' w.heap.size (fun _ => True) v0_ r ∧ Below w.heap.size w w' := by
  unfold sealF at h
  by_cases hc : (∀ x ∈ l0, 0 ≤ x ∧ x < 256) ∧ l0.length ≤ 140737488355000
  · rw [if_pos hc] at h
    obtain ⟨hl, hm⟩ := hc
    obtain rfl := Option.some.inj h
    clear h
    have hsum := sum_f hl (by omega)
    have htail := tail_f (moreN 0 l0)
    have hw4 : wrap64 ((l0.length : Int) + 4) = ((l0.length + 4 : Nat) : Int) := by unfold wrap64; omega
    obtain ⟨i, hi, hz, h1, h2⟩ : ∃ i, Try.prog.info? 5 = some i ∧ i.zero = some (.int .u8 0) ∧ i.size = 1 ∧ i.bytes = 1 := ⟨_, rfl, rfl, rfl, rfl⟩
    obtain ⟨w1, hmk, hown, hgr⟩ := run_make_own (P := Try.prog) w w.heap.size 22 5 i (.int .u8 0) 1 Try.underlying22 hi hz h1 .i64 .i64 (l0.length + 4) (by rw [h2]; omega) (by simp only [maxLen]; omega) (Nat.le_refl _)
    have HO := Aside0.mk (Kd.R_of_own (enc := fun x => Value.int .u8 x) (h1 := fun _ => rfl) (xs := ([] : List Int)) (ok := fun _ => True) hown (fun _ _ => trivial))
    have hb1 : Below w.heap.size w w1 := pw_below_grown (Below.refl _ _) none (Nat.le_refl _) hgr (fun k hk => by cases hk)
    have HB := Aside0.mk hb1
    have HR := Aside0.mk hr0
    have HM := Aside0.mk hm
    rw [← hw4] at hmk
    clear hown hgr hi hz h1 h2 hm hw4 hb1 hr0 hl
    go_enter Try.func11, Try.ntmps11
    go_wp2_with (first | ((with_reducible refine gate_builtin (b := .append) (xs := #[.tmp 8, .tmp 9]) rfl ?_); at_builtin; refine Kd.R_append_rows (Kd.int .u8) (w0 := w) w.heap.size rfl (.tmp 8) (.tmp 9) 22 5 (.int .u8 0) 1 rfl Try.underlying22 hinfo_u8 rfl (by decide) (by omega) (.slice (some ⟨w.heap.size, 0, none⟩) 0 (l0.length + 4)) ([] : List Int) l0 _ _ _ (fun _ => True) (fun _ => False) rfl rfl ?aO ?aR (fun _ _ h => h) (fun _ h => h.elim) ?aF ?aB ?aS ?aL ?_; (case aR => exact (Kd.C_below HR.out HB.out)); (case aO => exact HO.out); (case aB => exact HB.out); (case aF => exact (fun _ _ => trivial)); (case aS => exact HB.out.size); (case aL => have := HM.out; first | (simp only [List.length_nil]; omega) | (simp only [List.nil_append, tailL, List.length_cons, List.length_nil]; omega)); intro v1 w2 ho hb hg hat; have n0_ := Aside0.mk ho; have n1_ := Aside0.mk hb; clear HO HB; have HO := n0_; have HB := n1_; clear n0_ n1_ ho hb hg hat) | (go_at_call 10; refine (crc_Sum.calls _ _ l0 _ _ (Kd.C_below HR.out HB.out) hc0 hsum).mono ?_; rintro e w3 ⟨rfl, hb⟩; have n0_ := Aside0.mk (Kd.R_below HO.out hb); have n1_ := Aside0.mk (below_step HB.out hb); clear HO HB; have HO := n0_; have HB := n1_; clear n0_ n1_ hb) | (go_at_call 18; refine (crc_Tail.calls _ _ _ htail).mono ?_; rintro e w4 ⟨v2, rfl, ho2, hb⟩; obtain ⟨A2, c2, eo2⟩ := Kd.R_slice ho2; subst eo2; have n0_ := Aside0.mk (Kd.R_below HO.out hb); have n1_ := Aside0.mk (below_step HB.out hb); clear HO HB; have HO := n0_; have HB := n1_; have HT := Aside0.mk (Kd.R_reads' ho2).2.2; clear n0_ n1_ hb ho2) | ((with_reducible refine gate_builtin (b := .append) (xs := #[.tmp 10, .tmp 13]) rfl ?_); at_builtin; refine Kd.R_append_rows (Kd.int .u8) (w0 := w) w.heap.size rfl (.tmp 10) (.tmp 13) 22 5 (.int .u8 0) 1 rfl Try.underlying22 hinfo_u8 rfl (by decide) (by omega) v1 ([] ++ l0) (tailL (moreN 0 l0)) _ _ _ (fun _ => True) (fun _ => False) rfl rfl ?aO ?aR (fun _ _ h => h) (fun _ h => h.elim) ?aF ?aB ?aS ?aL ?_; (case aR => exact HT.out); (case aO => exact HO.out); (case aB => exact HB.out); (case aF => exact (fun _ _ => trivial)); (case aS => exact HB.out.size); (case aL => have := HM.out; first | (simp only [List.length_nil]; omega) | (simp only [List.nil_append, tailL, List.length_cons, List.length_nil]; omega)); intro v3 w5 ho hb hg hat; have n0_ := Aside0.mk ho; have n1_ := Aside0.mk hb; clear HO HB; have HO := n0_; have HB := n1_; clear n0_ n1_ ho hb hg hat))
    go_ret
    rw [List.nil_append] at HO
    exact ⟨_, rfl, HO.out, HB.out⟩
  · rw [if_neg hc] at h
    cases h
end Go.Proofs.Ytgkdigaieelopaa.Hand

/- Printed by a program of this session (drv.py) from the translation of this seat: functions, their contracts, rows. -/
namespace Go.Proofs.Ytgkdigaieelopaa.PCrc
open Go.RowKit Go.Proofs.YtgkdigaieelopaaW.PrintWords Go.Proofs.YtgkdigaieelopaaW.PrintLast Go.Proofs.YtgkdigaieelopaaW.PrintMore
attribute [local go_sem] max2_int min2_int max_two min_two max_three min_three max_four min_four   -- for this text's walks alone
set_option linter.unusedVariables false
set_option linter.unusedSimpArgs false

/-! ### crc_Seal: function 11 (by hand) -/
def crc_Seal.f (l0 : List Int) : Option (List Int) := Go.Proofs.Ytgkdigaieelopaa.Hand.sealF l0
theorem crc_Seal.calls (A0 : Option Addr) (c0 : Nat) (l0 : List Int) (r : List Int) (w : World) (hr0 : Kd.C (Kd.int .u8) w A0 l0.length l0) (hc0 : l0.length ≤ c0) (h : crc_Seal.f l0 = some r) :
    Calls Try.prog 11 #[.slice A0 l0.length c0] w fun e w' => ∃ v0_ : Value, e = .returned (v0_) ∧ Kd.R (Kd.int .u8) 5 w' w.heap.size (fun _ => True) v0_ r ∧ Below w.heap.size w w' :=
  Go.Proofs.Ytgkdigaieelopaa.Hand.seal_calls _ _ _ _ _ hr0 hc0 h

end Go.Proofs.Ytgkdigaieelopaa.PCrc

/- The contract, proved by hand, of num.Own: the bytes that came in, in memory of its own, cut to their length. -/
namespace Go.Proofs.Ytgkdigaieelopaa.Hand
open Go.RowKit Go.Proofs.YtgkdigaieelopaaW.PrintWords Go.Proofs.YtgkdigaieelopaaW.PrintLast Go.Proofs.YtgkdigaieelopaaW.PrintMore
set_option linter.unusedVariables false
set_option linter.unusedSimpArgs false

def ownF (l : List Int) : Option (List Int) := if l.length ≤ 140737488355328 then some l else none
set_option maxHeartbeats 800000 in
set_option maxRecDepth 100000 in
theorem own_calls (A0 : Option Addr) (c0 : Nat) (l0 : List Int) (r : List Int) (w : World) (hr0 : Kd.C (Kd.int .u8) w A0 l0.length l0) (hc0 : l0.length ≤ c0) (h : ownF l0 = some r) :
    Calls Try.prog 19 #[.slice A0 l0.length c0] w fun e w' => ∃ v0_ : Value, e = .returned (v0_) ∧ Kd.V (Kd.int .u8) 5 w' w.heap.size (fun k_ => (w.heap.size ≤ k_)) v0_ r ∧ Below w.heap.size w w' := by
  unfold ownF at h
  by_cases hl : l0.length ≤ 140737488355328
  · rw [if_pos hl] at h
    obtain rfl := Option.some.inj h
    clear h
    go_enter Try.func19, Try.ntmps19
    go_wp2_with (first | (go_at_call 23; refine (clone_calls _ _ l0 _ hr0 hl).mono ?_; rintro e w1 ⟨v, rfl, ho, hb⟩; have HO := Aside0.mk ho; have HB := Aside0.mk hb; clear ho hb) | (go_at_call 22; refine (clip_calls _ _ _ _ HO.out).mono ?_; rintro e w3 ⟨⟨v3, rfl, hcl⟩, rfl⟩; have HCL := Aside0.mk hcl; clear hcl))
    go_ret
    exact ⟨_, rfl, HCL.out.V, HB.out⟩
  · rw [if_neg hl] at h
    cases h
end Go.Proofs.Ytgkdigaieelopaa.Hand

/- Printed by a program of this session (drv.py) from the translation of this seat: functions, their contracts, rows. -/
namespace Go.Proofs.Ytgkdigaieelopaa.PCrc
open Go.RowKit Go.Proofs.YtgkdigaieelopaaW.PrintWords Go.Proofs.YtgkdigaieelopaaW.PrintLast Go.Proofs.YtgkdigaieelopaaW.PrintMore
attribute [local go_sem] max2_int min2_int max_two min_two max_three min_three max_four min_four   -- for this text's walks alone
set_option linter.unusedVariables false
set_option linter.unusedSimpArgs false

/-! ### num_Own: function 19 (by hand) -/
def num_Own.f (l0 : List Int) : Option (List Int) := Go.Proofs.Ytgkdigaieelopaa.Hand.ownF l0
theorem num_Own.calls (A0 : Option Addr) (c0 : Nat) (l0 : List Int) (r : List Int) (w : World) (hr0 : Kd.C (Kd.int .u8) w A0 l0.length l0) (hc0 : l0.length ≤ c0) (h : num_Own.f l0 = some r) :
    Calls Try.prog 19 #[.slice A0 l0.length c0] w fun e w' => ∃ v0_ : Value, e = .returned (v0_) ∧ Kd.V (Kd.int .u8) 5 w' w.heap.size (fun k_ => (w.heap.size ≤ k_)) v0_ r ∧ Below w.heap.size w w' :=
  Go.Proofs.Ytgkdigaieelopaa.Hand.own_calls _ _ _ _ _ hr0 hc0 h

end Go.Proofs.Ytgkdigaieelopaa.PCrc

/- Printed by a program of this session (drv.py) from the translation of this seat: functions, their contracts, rows. -/
namespace Go.Proofs.Ytgkdigaieelopaa.PCrc
open Go.RowKit Go.Proofs.YtgkdigaieelopaaW.PrintWords Go.Proofs.YtgkdigaieelopaaW.PrintLast Go.Proofs.YtgkdigaieelopaaW.PrintMore
attribute [local go_sem] max2_int min2_int max_two min_two max_three min_three max_four min_four   -- for this text's walks alone
set_option linter.unusedVariables false
set_option linter.unusedSimpArgs false

/-! ### crc_Open: function 12 -/
def crc_Open.f (l0 : List Int) : Option (List Int × Int) := if (wrap64 ((l0.length : Int) - 4)) < 0 then (some (([] : List Int), 4)) else (if 0 ≤ (wrap64 ((l0.length : Int) - 4)) then (if (wrap64 ((l0.length : Int) - 4)) ≤ (l0.length : Int) then ((crc_Sum.f (l0.take ((wrap64 ((l0.length : Int) - 4)) : Int).toNat)).bind fun t106 => ((crc_Tail.f t106).bind fun t107 => (if (strOfNums t107).toList = (strOfNums (l0.drop ((wrap64 ((l0.length : Int) - 4)) : Int).toNat)).toList then ((num_Own.f (l0.take ((wrap64 ((l0.length : Int) - 4)) : Int).toNat)).bind fun t112 => (some (t112, 0))) else (some (([] : List Int), 5))))) else (none)) else (none))
def crc_Open.T4 : Bool × List (List Nat × List Nat) := (true, [([], []), ([], []), ([0, 1], [0, 1]), ([2], [2]), ([3, 3], [3]), ([4], [4]), ([], []), ([], []), ([6, 7], [6, 7]), ([8], [8]), ([5, 9], [5, 9]), ([10, 4], [10])])
def crc_Open.B4 : List Nat := [0, 0, 3, 7, 15, 31, 0, 0, 192, 448, 1023, 2047]
theorem crc_Open.tab4 : rtab .any (opsOf Try.f12 4) = crc_Open.T4 := by kernel_rfl
theorem crc_Open.bits4 : waitsOk crc_Open.T4.2 crc_Open.B4 = true := by kernel_rfl
set_option maxHeartbeats 8000000 in
set_option maxRecDepth 100000 in
theorem crc_Open.calls (A0 : Option Addr) (c0 : Nat) (l0 : List Int) (r1 : List Int) (r2 : Int) (w : World) (hr0 : Kd.C (Kd.int .u8) w A0 l0.length l0) (hc0 : l0.length ≤ c0) (h : crc_Open.f l0 = some (r1, r2)) :
    Calls Try.prog 12 #[.slice A0 l0.length c0] w fun e w' => ∃ v0_ : Value, e = .returned (.tuple #[v0_, .int .i64 r2]) ∧ Kd.V (Kd.int .u8) 5 w' w.heap.size (fun k_ => (w.heap.size ≤ k_)) v0_ r1 ∧ Below w.heap.size w w' := by
  have HR0 := Aside0.mk hr0
  have HC0 := Aside0.mk hc0
  clear hr0 hc0
  have HB := Aside0.mk (Below.refl w.heap.size w)
  have H : (if (wrap64 ((l0.length : Int) - 4)) < 0 then (some (([] : List Int), 4)) else (if 0 ≤ (wrap64 ((l0.length : Int) - 4)) then (if (wrap64 ((l0.length : Int) - 4)) ≤ (l0.length : Int) then ((crc_Sum.f (l0.take ((wrap64 ((l0.length : Int) - 4)) : Int).toNat)).bind fun t106 => ((crc_Tail.f t106).bind fun t107 => (if (strOfNums t107).toList = (strOfNums (l0.drop ((wrap64 ((l0.length : Int) - 4)) : Int).toNat)).toList then ((num_Own.f (l0.take ((wrap64 ((l0.length : Int) - 4)) : Int).toNat)).bind fun t112 => (some (t112, 0))) else (some (([] : List Int), 5))))) else (none)) else (none))) = some (r1, r2) := h
  clear h
  by_cases c2 : (wrap64 ((l0.length : Int) - 4)) < 0
  · rw [if_pos c2] at H
    have c2b0 : decide ((wrap64 ((l0.length : Int) - 4)) < 0) = true := decide_eq_true c2
    clear c2
    simp only [Option.some.injEq, Prod.mk.injEq] at H
    obtain ⟨rfl, rfl⟩ := H
    go_enter Try.func12, Try.ntmps12
    go_wp2
    go_ret2
    exact ⟨_, by first | rfl | (simp [errW_none, errW_some] <;> rfl) | (simp [*, errW_none, errW_some] <;> rfl), Kd.V_nil _ _ _ _ _, by repeat (first | (with_reducible first | exact HB.out | apply below_alloc | apply pw_below_drewN | apply below_drew1) | exact HB.out)⟩
  · rw [if_neg c2] at H
    have c2b0 : decide ((wrap64 ((l0.length : Int) - 4)) < 0) = false := decide_eq_false c2
    clear c2
    obtain ⟨ji3, hji3⟩ : ∃ j_ : Int, (wrap64 ((l0.length : Int) - 4)) = j_ := ⟨_, rfl⟩
    replace H : (if 0 ≤ (ji3) then (if (ji3) ≤ (l0.length : Int) then ((crc_Sum.f (l0.take ((ji3) : Int).toNat)).bind fun t106 => ((crc_Tail.f t106).bind fun t107 => (if (strOfNums t107).toList = (strOfNums (l0.drop ((ji3) : Int).toNat)).toList then ((num_Own.f (l0.take ((ji3) : Int).toNat)).bind fun t112 => (some (t112, 0))) else (some (([] : List Int), 5))))) else (none)) else (none)) = some (r1, r2) := by first | (rw [hji3] at H; exact H) | (simp only [hji3] at H ⊢; exact H)
    (try rw [hji3] at c2b0)
    have hji3w : (IntKind.i64.wrap ((l0.length : Int) - 4)) = ji3 := (i64_w _).trans hji3
    by_cases c4 : 0 ≤ (ji3)
    · rw [if_pos c4] at H
      have c4b0 := eq_true c4
      have c4b1 : decide (0 ≤ (ji3)) = true := decide_eq_true c4
      clear c4
      by_cases c5 : (ji3) ≤ (l0.length : Int)
      · rw [if_pos c5] at H
        have c5b0 := eq_true c5
        have c5b1 : decide ((ji3) ≤ (l0.length : Int)) = true := decide_eq_true c5
        clear c5
        replace H := Option.bind_eq_some_iff.mp H
        obtain ⟨t106, A60, H⟩ := H
        replace H : ((crc_Tail.f t106).bind fun t107 => (if (strOfNums t107).toList = (strOfNums (l0.drop ((ji3) : Int).toNat)).toList then ((num_Own.f (l0.take ((ji3) : Int).toNat)).bind fun t112 => (some (t112, 0))) else (some (([] : List Int), 5)))) = some (r1, r2) := H
        have A6 := Aside0.mk A60
        clear A60
        replace H := Option.bind_eq_some_iff.mp H
        obtain ⟨t107, A70, H⟩ := H
        replace H : (if (strOfNums t107).toList = (strOfNums (l0.drop ((ji3) : Int).toNat)).toList then ((num_Own.f (l0.take ((ji3) : Int).toNat)).bind fun t112 => (some (t112, 0))) else (some (([] : List Int), 5))) = some (r1, r2) := H
        have A7 := Aside0.mk A70
        clear A70
        have c8b0 := eq_true (of_decide_eq_true (by first | (with_reducible assumption) | assumption) : 0 ≤ (ji3))
        have c9b0 := eq_true (of_decide_eq_true (by first | (with_reducible assumption) | assumption) : (ji3) ≤ (l0.length : Int))
        by_cases c10 : (strOfNums t107).toList = (strOfNums (l0.drop ((ji3) : Int).toNat)).toList
        · rw [if_pos c10] at H
          have c10b0 : ((strOfNums t107).toList == (strOfNums (l0.drop ((ji3) : Int).toNat)).toList) = true := beq_iff_eq.mpr c10
          have c10b1 : ((strOfNums t107).toList != (strOfNums (l0.drop ((ji3) : Int).toNat)).toList) = false := bne_eq_false_iff_eq.mpr c10
          clear c10
          have c11b0 := eq_true (of_decide_eq_true (by first | (with_reducible assumption) | assumption) : 0 ≤ (ji3))
          have c12b0 := eq_true (of_decide_eq_true (by first | (with_reducible assumption) | assumption) : (ji3) ≤ (l0.length : Int))
          replace H := Option.bind_eq_some_iff.mp H
          obtain ⟨t112, A130, H⟩ := H
          replace H : (some (t112, 0)) = some (r1, r2) := H
          have A13 := Aside0.mk A130
          clear A130
          simp only [Option.some.injEq, Prod.mk.injEq] at H
          obtain ⟨rfl, rfl⟩ := H
          go_enter Try.func12, Try.ntmps12
          try go_wp2
          have n0_ := Aside0.mk (below_drew1 HB.out)
          clear HB
          have HB := n0_
          clear n0_
          obtain ⟨i015, hi015, _, hsz15, _⟩ := info_parts info5
          obtain ⟨hcut15, hA15, hC15⟩ := print_take_of (P := Try.prog) (Value.int .u8) 0 22 5 .i64 Try.underlying22 hi015 hsz15 A0 c0 l0 (ji3) (of_decide_eq_true (by first | (with_reducible assumption) | assumption)) (of_decide_eq_true (by first | (with_reducible assumption) | assumption)) HC0.out
          have HR105 := Aside0.mk (Kd.C_of_reads (h1 := fun _ => rfl) (hA15 _ (Kd.reads_of_C HR0.out)))
          have HC105 := Aside0.mk hC15
          clear hA15 hC15 hi015 hsz15
          obtain ⟨i016, hi016, _, hsz16, _⟩ := info_parts info5
          obtain ⟨A16, hcut16, hA16, hC16⟩ := print_drop_of (P := Try.prog) (Value.int .u8) 0 22 5 .i64 Try.underlying22 hi016 hsz16 A0 c0 l0 (ji3) (of_decide_eq_true (by first | (with_reducible assumption) | assumption)) (of_decide_eq_true (by first | (with_reducible assumption) | assumption)) HC0.out
          have HR110 := Aside0.mk (Kd.C_of_reads (h1 := fun _ => rfl) (hA16 _ (Kd.reads_of_C HR0.out)))
          have HC110 := Aside0.mk hC16
          clear hA16 hC16 hi016 hsz16
          refine start_ (n := 12) (S := fun w' => Sem.run Try.prog (convert 22 9 (.slice A16 (l0.drop ((ji3) : Int).toNat).length (c0 - (ji3).toNat))) w' = Result.ok (.string (strOfNums (l0.drop ((ji3) : Int).toNat))) w') (ds := []) #[false, false, false, false, false, false, false, false, false, false, false, false] (by kernel_rfl) rfl rfl ((Kd.C_string (P := Try.prog) (A := A16) (c := (c0 - (ji3).toNat)) Try.underlying22 Try.underlying5 Try.underlying9 (Kd.C_below HR110.out (by repeat (first | exact HB.out | apply pw_below_drewN | apply below_drew1 | apply below_alloc))))) (fun hHeld => ?_); refine with_tabW crc_Open.tab4 crc_Open.bits4 (fun HT_ HW_ => ?_)
          generalize w.drew = w14 at HB HR105 HR110 hHeld ⊢
          refine pure_ (i := 0) (N := some 12) (v := ?_) (a' := ?_) #[true, false, false, false, false, false, false, false, false, false, false, false] rfl rfl (any_of HT_.out (by kernel_rfl)) (fun _ _ _ h => h) (Or.inl ⟨by rfl, ?_⟩) ?_ ?_
          rotate_left
          · intro w'
            go_simp
            with_reducible rfl
          rotate_left
          · simp only [Act.put, List.setIfInBounds_toArray, List.set_cons_zero, List.set_cons_succ, i64_w, i32_w]
            rfl
          refine pure_ (i := 1) (N := some 13) (v := ?_) (a' := ?_) #[true, true, false, false, false, false, false, false, false, false, false, false] rfl rfl (any_of HT_.out (by kernel_rfl)) (fun _ _ _ h => h) (Or.inl ⟨by rfl, ?_⟩) ?_ ?_
          rotate_left
          · intro w'
            go_simp
            with_reducible rfl
          rotate_left
          · simp only [Act.put, List.setIfInBounds_toArray, List.set_cons_zero, List.set_cons_succ, i64_w, i32_w]
            rfl
          refine pure_ (i := 2) (N := some 14) (v := ?_) (a' := ?_) #[true, true, true, false, false, false, false, false, false, false, false, false] rfl rfl (any_of HT_.out (by kernel_rfl)) (fun _ _ _ h => h) (Or.inl ⟨by rfl, ?_⟩) ?_ ?_
          rotate_left
          · intro w'
            go_simp
            with_reducible rfl
          rotate_left
          · simp only [Act.put, List.setIfInBounds_toArray, List.set_cons_zero, List.set_cons_succ, i64_w, i32_w]
            rfl
          refine pure_ (i := 6) (N := some 18) (v := ?_) (a' := ?_) #[true, true, true, false, false, false, true, false, false, false, false, false] rfl rfl (any_of HT_.out (by kernel_rfl)) (fun _ _ _ h => h) (Or.inl ⟨by rfl, ?_⟩) ?_ ?_
          rotate_left
          · intro w'
            go_simp
            with_reducible rfl
          rotate_left
          · simp only [Act.put, List.setIfInBounds_toArray, List.set_cons_zero, List.set_cons_succ, i64_w, i32_w]
            rfl
          refine pure_ (i := 7) (N := some 19) (v := ?_) (a' := ?_) #[true, true, true, false, false, false, true, true, false, false, false, false] rfl rfl (any_of HT_.out (by kernel_rfl)) (fun _ _ _ h => h) (Or.inl ⟨by rfl, ?_⟩) ?_ ?_
          rotate_left
          · intro w'
            go_simp
            with_reducible rfl
          rotate_left
          · simp only [Act.put, List.setIfInBounds_toArray, List.set_cons_zero, List.set_cons_succ, i64_w, i32_w]
            rfl
          refine pure_ (i := 8) (N := some 20) (v := ?_) (a' := ?_) #[true, true, true, false, false, false, true, true, true, false, false, false] rfl rfl (any_of HT_.out (by kernel_rfl)) (fun _ _ _ h => h) (Or.inl ⟨by rfl, ?_⟩) ?_ ?_
          rotate_left
          · intro w'
            go_simp
            with_reducible rfl
          rotate_left
          · simp only [Act.put, List.setIfInBounds_toArray, List.set_cons_zero, List.set_cons_succ, i64_w, i32_w]
            rfl
          refine take_ (i := 9) (N := some 21) (v := ?_) (a' := ?_) #[true, true, true, false, false, false, true, true, true, true, false, false] rfl rfl (take_ofW HT_.out HW_.out (by kernel_rfl)) (fun _ _ _ h => h) (Or.inl ⟨by rfl, ?_⟩) hHeld ?_ ?_
          rotate_left
          · intro w' s0
            (try rw [List.length_drop] at s0)
            go_simp
            with_reducible rfl
          rotate_left
          · simp only [Act.put, List.setIfInBounds_toArray, List.set_cons_zero, List.set_cons_succ, i64_w, i32_w]
            rfl
          refine one_ (i := 3) (N := some 15) #[true, true, true, true, false, false, true, true, true, true, false, false] rfl rfl (one_of HT_.out (by kernel_rfl)) (by decide) (fun K hK => ?_)
          refine goes_ Try.func10 (by kernel_rfl) rfl #[.slice A0 (l0.take ((ji3) : Int).toNat).length c0] (by rfl) rfl rfl (by (try simp only [List.map_toArray, List.map_cons, List.map_nil]); first | done | (rw [show (l0.take ((ji3) : Int).toNat).length = (ji3).toNat from (by rw [List.length_take]; have h_ : ((ji3) : Int) ≤ (l0.length : Int) := of_decide_eq_true (by first | (with_reducible assumption) | assumption); omega)] <;> rfl) | (simp only [hji3]; rfl) | rfl | (simp only [List.length_drop, List.length_take]; rfl)) ?_
          with_reducible refine (crc_Sum.calls _ _ (l0.take ((ji3) : Int).toNat) t106 _ ?side1 ?side2 A6.out).mono ?_
          (case side1 => repeat (first | exact (Kd.C_below HR105.out HB.out) | (with_reducible refine Kd.C_alloc ?_ _) | (with_reducible refine Kd.C_drewN ?_ _) | (with_reducible refine Kd.C_drew ?_)))
          (case side2 => exact HC105.out)
          rintro e w17 ⟨rfl, hb⟩
          refine ⟨_, rfl, ?_⟩
          have n0_ := Aside0.mk (below_step (by repeat (first | (with_reducible first | exact HB.out | apply below_alloc | apply pw_below_drewN | apply below_drew1) | exact HB.out)) hb)
          clear HB
          have HB := n0_
          clear n0_
          (try clear hb)
          (try clear hb2)
          (try clear hk)
          (try clear hi)
          refine hK.out _ _ ((Kd.C_string (P := Try.prog) (A := A16) (c := (c0 - (ji3).toNat)) Try.underlying22 Try.underlying5 Try.underlying9 (Kd.C_below HR110.out (by repeat (first | exact HB.out | apply pw_below_drewN | apply below_drew1 | apply below_alloc))))) (fun hHeld => ?_)
          clear hK K
          refine norm_ (a' := ?_) ?_ ?_
          rotate_left
          · show Act.put _ (some 15) _ = _
            simp only [Act.put, List.setIfInBounds_toArray, List.set_cons_zero, List.set_cons_succ, i64_w, i32_w]
            rfl
          refine one_ (i := 4) (N := some 16) #[true, true, true, true, true, false, true, true, true, true, false, false] rfl rfl (one_of HT_.out (by kernel_rfl)) (by decide) (fun K hK => ?_)
          refine goes_ Try.func18 (by kernel_rfl) rfl #[.int .u32 t106] (by rfl) rfl rfl (by (try simp only [List.map_toArray, List.map_cons, List.map_nil]); first | done | rfl | (simp only [List.length_drop, List.length_take]; rfl)) ?_
          with_reducible refine (crc_Tail.calls t106 t107 _ A7.out).mono ?_
          rintro e w18 ⟨v108, rfl, ho0, hb⟩
          refine ⟨_, rfl, ?_⟩
          have n0_ := Aside0.mk (Kd.R_lower (Kd.R_newM (M := fun k_ => (w.heap.size ≤ k_)) ho0 (below_size (by repeat (first | (with_reducible first | exact HB.out | apply below_alloc | apply pw_below_drewN | apply below_drew1) | exact HB.out))) (fun k_ h_ => h_)) (below_size (by repeat (first | (with_reducible first | exact HB.out | apply below_alloc | apply pw_below_drewN | apply below_drew1) | exact HB.out))))
          have n1_ := Aside0.mk (below_step (by repeat (first | (with_reducible first | exact HB.out | apply below_alloc | apply pw_below_drewN | apply below_drew1) | exact HB.out)) hb)
          clear HB
          have HO109 := n0_
          have HB := n1_
          clear n0_ n1_
          (try clear hb)
          (try clear hb2)
          (try clear hk)
          (try clear hi)
          (try clear ho0)
          refine hK.out _ _ ((Kd.C_string (P := Try.prog) (A := A16) (c := (c0 - (ji3).toNat)) Try.underlying22 Try.underlying5 Try.underlying9 (Kd.C_below HR110.out (by repeat (first | exact HB.out | apply pw_below_drewN | apply below_drew1 | apply below_alloc))))) (fun hHeld => ?_)
          clear hK K
          refine norm_ (a' := ?_) ?_ ?_
          rotate_left
          · show Act.put _ (some 16) _ = _
            simp only [Act.put, List.setIfInBounds_toArray, List.set_cons_zero, List.set_cons_succ, i64_w, i32_w]
            rfl
          refine one_ (i := 5) (N := some 17) #[true, true, true, true, true, true, true, true, true, true, false, false] rfl rfl (one_of HT_.out (by kernel_rfl)) (by decide) (fun K hK => ?_)
          have hcv19 := own_string (P := Try.prog) Try.underlying22 Try.underlying5 Try.underlying9 (Kd.own_of_R HO109.out)
          refine value_ (w1 := ?_) (v := ?_) (by rfl) rfl ?_ ?_
          rotate_left 2
          · go_simp
            constructor
            · rfl
            · rfl
          clear hcv19
          refine hK.out _ _ ((Kd.C_string (P := Try.prog) (A := A16) (c := (c0 - (ji3).toNat)) Try.underlying22 Try.underlying5 Try.underlying9 (Kd.C_below HR110.out (by repeat (first | exact HB.out | apply pw_below_drewN | apply below_drew1 | apply below_alloc))))) (fun hHeld => ?_)
          clear hK K
          refine norm_ (a' := ?_) ?_ ?_
          rotate_left
          · show Act.put _ (some 17) _ = _
            simp only [Act.put, List.setIfInBounds_toArray, List.set_cons_zero, List.set_cons_succ, i64_w, i32_w]
            rfl
          refine pure_ (i := 10) (N := some 22) (v := ?_) (a' := ?_) #[true, true, true, true, true, true, true, true, true, true, true, false] rfl rfl (any_of HT_.out (by kernel_rfl)) (fun _ _ _ h => h) (Or.inl ⟨by rfl, ?_⟩) ?_ ?_
          rotate_left
          · intro w'
            go_simp
            with_reducible rfl
          rotate_left
          · simp only [Act.put, List.setIfInBounds_toArray, List.set_cons_zero, List.set_cons_succ, i64_w, i32_w]
            rfl
          refine pure_ (i := 11) (N := some 11) (v := ?_) (a' := ?_) #[true, true, true, true, true, true, true, true, true, true, true, true] rfl rfl (any_of HT_.out (by kernel_rfl)) (fun _ _ _ h => h) (Or.inl ⟨by rfl, ?_⟩) ?_ ?_
          rotate_left
          · intro w'
            go_simp
            with_reducible rfl
          rotate_left
          · simp only [Act.put, List.setIfInBounds_toArray, List.set_cons_zero, List.set_cons_succ, i64_w, i32_w]
            rfl
          refine done_ (done_of HT_.out (by kernel_rfl)) ?_
          obtain ⟨i021, hi021, _, hsz21, _⟩ := info_parts info5
          obtain ⟨hcut21, hA21, hC21⟩ := print_take_of (P := Try.prog) (Value.int .u8) 0 22 5 .i64 Try.underlying22 hi021 hsz21 A0 c0 l0 (ji3) (of_decide_eq_true (by first | (with_reducible assumption) | assumption)) (of_decide_eq_true (by first | (with_reducible assumption) | assumption)) HC0.out
          have HR111 := Aside0.mk (Kd.C_of_reads (h1 := fun _ => rfl) (hA21 _ (Kd.reads_of_C HR0.out)))
          have HC111 := Aside0.mk hC21
          clear hA21 hC21 hi021 hsz21
          try go_wp2_with (first | ((with_reducible refine gate_callee (f := 19) rfl ?_); refine goesL_ (some 26) rfl rfl Try.func19 (by kernel_rfl) rfl #[.slice A0 (l0.take ((ji3) : Int).toNat).length c0] rfl (by (try simp only [List.map_toArray, List.map_cons, List.map_nil]); first | done | (rw [show (l0.take ((ji3) : Int).toNat).length = (ji3).toNat from (by rw [List.length_take]; have h_ : ((ji3) : Int) ≤ (l0.length : Int) := of_decide_eq_true (by first | (with_reducible assumption) | assumption); omega)] <;> rfl) | (simp only [hji3]; rfl) | rfl | (simp only [List.length_drop, List.length_take]; rfl)) ?_; (with_reducible refine (num_Own.calls _ _ (l0.take ((ji3) : Int).toNat) t112 _ ?side1 ?side2 A13.out).mono ?_); (case side1 => repeat (first | exact (Kd.C_below HR111.out HB.out) | (with_reducible refine Kd.C_alloc ?_ _) | (with_reducible refine Kd.C_drewN ?_ _) | (with_reducible refine Kd.C_drew ?_))); (case side2 => exact HC111.out); rintro e w22 ⟨v113, rfl, ho0, hb⟩; refine ⟨_, rfl, ?_⟩; have n0_ := Aside0.mk (Kd.R_below (by (with_reducible repeat (first | apply Kd.R_alloc | apply Kd.R_drewN | apply Kd.R_drew)); exact HO109.out) hb); have n1_ := Aside0.mk (Kd.V_lower (Kd.V_mono (ok' := fun k_ => (w.heap.size ≤ k_) ∧ some k_ ≠ (v108 : Value).ownBlock) ho0 (fun k_ hk_ => ⟨(Nat.le_trans (below_size (by repeat (first | (with_reducible first | exact HB.out | apply below_alloc | apply pw_below_drewN | apply below_drew1) | exact HB.out))) hk_), (Kd.fresh' (Kd.R_lt (by (with_reducible repeat (first | apply Kd.R_alloc | apply Kd.R_drewN | apply Kd.R_drew)); exact HO109.out)) k_ hk_)⟩)) (below_size (by repeat (first | (with_reducible first | exact HB.out | apply below_alloc | apply pw_below_drewN | apply below_drew1) | exact HB.out)))); have n2_ := Aside0.mk (below_step (by repeat (first | (with_reducible first | exact HB.out | apply below_alloc | apply pw_below_drewN | apply below_drew1) | exact HB.out)) hb); clear HO109; clear HB; have HO109 := n0_; have HO114 := n1_; have HB := n2_; clear n0_ n1_ n2_; (try clear hb); (try clear hb2); (try clear hk); (try clear hi); (try clear ho0)))
          go_ret2
          exact ⟨_, by first | rfl | (simp [errW_none, errW_some] <;> rfl) | (simp only [← hji3]; first | rfl | (simp [errW_none, errW_some] <;> rfl)) | (simp [*, errW_none, errW_some] <;> rfl), by (with_reducible repeat (first | apply Kd.V_alloc | apply Kd.V_drewN | apply Kd.V_drew)); exact Kd.V_mono HO114.out (fun _ hk => hk.1), by repeat (first | (with_reducible first | exact HB.out | apply below_alloc | apply pw_below_drewN | apply below_drew1) | exact HB.out)⟩
        · rw [if_neg c10] at H
          have c10b0 : ((strOfNums t107).toList == (strOfNums (l0.drop ((ji3) : Int).toNat)).toList) = false := beq_eq_false_iff_ne.mpr c10
          have c10b1 : ((strOfNums t107).toList != (strOfNums (l0.drop ((ji3) : Int).toNat)).toList) = true := bne_iff_ne.mpr c10
          simp only [Option.some.injEq, Prod.mk.injEq] at H
          obtain ⟨rfl, rfl⟩ := H
          go_enter Try.func12, Try.ntmps12
          try go_wp2
          have n0_ := Aside0.mk (below_drew1 HB.out)
          clear HB
          have HB := n0_
          clear n0_
          obtain ⟨i024, hi024, _, hsz24, _⟩ := info_parts info5
          obtain ⟨hcut24, hA24, hC24⟩ := print_take_of (P := Try.prog) (Value.int .u8) 0 22 5 .i64 Try.underlying22 hi024 hsz24 A0 c0 l0 (ji3) (of_decide_eq_true (by first | (with_reducible assumption) | assumption)) (of_decide_eq_true (by first | (with_reducible assumption) | assumption)) HC0.out
          have HR105 := Aside0.mk (Kd.C_of_reads (h1 := fun _ => rfl) (hA24 _ (Kd.reads_of_C HR0.out)))
          have HC105 := Aside0.mk hC24
          clear hA24 hC24 hi024 hsz24
          obtain ⟨i025, hi025, _, hsz25, _⟩ := info_parts info5
          obtain ⟨A25, hcut25, hA25, hC25⟩ := print_drop_of (P := Try.prog) (Value.int .u8) 0 22 5 .i64 Try.underlying22 hi025 hsz25 A0 c0 l0 (ji3) (of_decide_eq_true (by first | (with_reducible assumption) | assumption)) (of_decide_eq_true (by first | (with_reducible assumption) | assumption)) HC0.out
          have HR110 := Aside0.mk (Kd.C_of_reads (h1 := fun _ => rfl) (hA25 _ (Kd.reads_of_C HR0.out)))
          have HC110 := Aside0.mk hC25
          clear hA25 hC25 hi025 hsz25
          refine start_ (n := 12) (S := fun w' => Sem.run Try.prog (convert 22 9 (.slice A25 (l0.drop ((ji3) : Int).toNat).length (c0 - (ji3).toNat))) w' = Result.ok (.string (strOfNums (l0.drop ((ji3) : Int).toNat))) w') (ds := []) #[false, false, false, false, false, false, false, false, false, false, false, false] (by kernel_rfl) rfl rfl ((Kd.C_string (P := Try.prog) (A := A25) (c := (c0 - (ji3).toNat)) Try.underlying22 Try.underlying5 Try.underlying9 (Kd.C_below HR110.out (by repeat (first | exact HB.out | apply pw_below_drewN | apply below_drew1 | apply below_alloc))))) (fun hHeld => ?_); refine with_tabW crc_Open.tab4 crc_Open.bits4 (fun HT_ HW_ => ?_)
          generalize w.drew = w23 at HB HR105 HR110 hHeld ⊢
          refine pure_ (i := 0) (N := some 12) (v := ?_) (a' := ?_) #[true, false, false, false, false, false, false, false, false, false, false, false] rfl rfl (any_of HT_.out (by kernel_rfl)) (fun _ _ _ h => h) (Or.inl ⟨by rfl, ?_⟩) ?_ ?_
          rotate_left
          · intro w'
            go_simp
            with_reducible rfl
          rotate_left
          · simp only [Act.put, List.setIfInBounds_toArray, List.set_cons_zero, List.set_cons_succ, i64_w, i32_w]
            rfl
          refine pure_ (i := 1) (N := some 13) (v := ?_) (a' := ?_) #[true, true, false, false, false, false, false, false, false, false, false, false] rfl rfl (any_of HT_.out (by kernel_rfl)) (fun _ _ _ h => h) (Or.inl ⟨by rfl, ?_⟩) ?_ ?_
          rotate_left
          · intro w'
            go_simp
            with_reducible rfl
          rotate_left
          · simp only [Act.put, List.setIfInBounds_toArray, List.set_cons_zero, List.set_cons_succ, i64_w, i32_w]
            rfl
          refine pure_ (i := 2) (N := some 14) (v := ?_) (a' := ?_) #[true, true, true, false, false, false, false, false, false, false, false, false] rfl rfl (any_of HT_.out (by kernel_rfl)) (fun _ _ _ h => h) (Or.inl ⟨by rfl, ?_⟩) ?_ ?_
          rotate_left
          · intro w'
            go_simp
            with_reducible rfl
          rotate_left
          · simp only [Act.put, List.setIfInBounds_toArray, List.set_cons_zero, List.set_cons_succ, i64_w, i32_w]
            rfl
          refine pure_ (i := 6) (N := some 18) (v := ?_) (a' := ?_) #[true, true, true, false, false, false, true, false, false, false, false, false] rfl rfl (any_of HT_.out (by kernel_rfl)) (fun _ _ _ h => h) (Or.inl ⟨by rfl, ?_⟩) ?_ ?_
          rotate_left
          · intro w'
            go_simp
            with_reducible rfl
          rotate_left
          · simp only [Act.put, List.setIfInBounds_toArray, List.set_cons_zero, List.set_cons_succ, i64_w, i32_w]
            rfl
          refine pure_ (i := 7) (N := some 19) (v := ?_) (a' := ?_) #[true, true, true, false, false, false, true, true, false, false, false, false] rfl rfl (any_of HT_.out (by kernel_rfl)) (fun _ _ _ h => h) (Or.inl ⟨by rfl, ?_⟩) ?_ ?_
          rotate_left
          · intro w'
            go_simp
            with_reducible rfl
          rotate_left
          · simp only [Act.put, List.setIfInBounds_toArray, List.set_cons_zero, List.set_cons_succ, i64_w, i32_w]
            rfl
          refine pure_ (i := 8) (N := some 20) (v := ?_) (a' := ?_) #[true, true, true, false, false, false, true, true, true, false, false, false] rfl rfl (any_of HT_.out (by kernel_rfl)) (fun _ _ _ h => h) (Or.inl ⟨by rfl, ?_⟩) ?_ ?_
          rotate_left
          · intro w'
            go_simp
            with_reducible rfl
          rotate_left
          · simp only [Act.put, List.setIfInBounds_toArray, List.set_cons_zero, List.set_cons_succ, i64_w, i32_w]
            rfl
          refine take_ (i := 9) (N := some 21) (v := ?_) (a' := ?_) #[true, true, true, false, false, false, true, true, true, true, false, false] rfl rfl (take_ofW HT_.out HW_.out (by kernel_rfl)) (fun _ _ _ h => h) (Or.inl ⟨by rfl, ?_⟩) hHeld ?_ ?_
          rotate_left
          · intro w' s0
            (try rw [List.length_drop] at s0)
            go_simp
            with_reducible rfl
          rotate_left
          · simp only [Act.put, List.setIfInBounds_toArray, List.set_cons_zero, List.set_cons_succ, i64_w, i32_w]
            rfl
          refine one_ (i := 3) (N := some 15) #[true, true, true, true, false, false, true, true, true, true, false, false] rfl rfl (one_of HT_.out (by kernel_rfl)) (by decide) (fun K hK => ?_)
          refine goes_ Try.func10 (by kernel_rfl) rfl #[.slice A0 (l0.take ((ji3) : Int).toNat).length c0] (by rfl) rfl rfl (by (try simp only [List.map_toArray, List.map_cons, List.map_nil]); first | done | (rw [show (l0.take ((ji3) : Int).toNat).length = (ji3).toNat from (by rw [List.length_take]; have h_ : ((ji3) : Int) ≤ (l0.length : Int) := of_decide_eq_true (by first | (with_reducible assumption) | assumption); omega)] <;> rfl) | (simp only [hji3]; rfl) | rfl | (simp only [List.length_drop, List.length_take]; rfl)) ?_
          with_reducible refine (crc_Sum.calls _ _ (l0.take ((ji3) : Int).toNat) t106 _ ?side1 ?side2 A6.out).mono ?_
          (case side1 => repeat (first | exact (Kd.C_below HR105.out HB.out) | (with_reducible refine Kd.C_alloc ?_ _) | (with_reducible refine Kd.C_drewN ?_ _) | (with_reducible refine Kd.C_drew ?_)))
          (case side2 => exact HC105.out)
          rintro e w26 ⟨rfl, hb⟩
          refine ⟨_, rfl, ?_⟩
          have n0_ := Aside0.mk (below_step (by repeat (first | (with_reducible first | exact HB.out | apply below_alloc | apply pw_below_drewN | apply below_drew1) | exact HB.out)) hb)
          clear HB
          have HB := n0_
          clear n0_
          (try clear hb)
          (try clear hb2)
          (try clear hk)
          (try clear hi)
          refine hK.out _ _ ((Kd.C_string (P := Try.prog) (A := A25) (c := (c0 - (ji3).toNat)) Try.underlying22 Try.underlying5 Try.underlying9 (Kd.C_below HR110.out (by repeat (first | exact HB.out | apply pw_below_drewN | apply below_drew1 | apply below_alloc))))) (fun hHeld => ?_)
          clear hK K
          refine norm_ (a' := ?_) ?_ ?_
          rotate_left
          · show Act.put _ (some 15) _ = _
            simp only [Act.put, List.setIfInBounds_toArray, List.set_cons_zero, List.set_cons_succ, i64_w, i32_w]
            rfl
          refine one_ (i := 4) (N := some 16) #[true, true, true, true, true, false, true, true, true, true, false, false] rfl rfl (one_of HT_.out (by kernel_rfl)) (by decide) (fun K hK => ?_)
          refine goes_ Try.func18 (by kernel_rfl) rfl #[.int .u32 t106] (by rfl) rfl rfl (by (try simp only [List.map_toArray, List.map_cons, List.map_nil]); first | done | rfl | (simp only [List.length_drop, List.length_take]; rfl)) ?_
          with_reducible refine (crc_Tail.calls t106 t107 _ A7.out).mono ?_
          rintro e w27 ⟨v108, rfl, ho0, hb⟩
          refine ⟨_, rfl, ?_⟩
          have n0_ := Aside0.mk (Kd.R_lower (Kd.R_newM (M := fun k_ => (w.heap.size ≤ k_)) ho0 (below_size (by repeat (first | (with_reducible first | exact HB.out | apply below_alloc | apply pw_below_drewN | apply below_drew1) | exact HB.out))) (fun k_ h_ => h_)) (below_size (by repeat (first | (with_reducible first | exact HB.out | apply below_alloc | apply pw_below_drewN | apply below_drew1) | exact HB.out))))
          have n1_ := Aside0.mk (below_step (by repeat (first | (with_reducible first | exact HB.out | apply below_alloc | apply pw_below_drewN | apply below_drew1) | exact HB.out)) hb)
          clear HB
          have HO109 := n0_
          have HB := n1_
          clear n0_ n1_
          (try clear hb)
          (try clear hb2)
          (try clear hk)
          (try clear hi)
          (try clear ho0)
          refine hK.out _ _ ((Kd.C_string (P := Try.prog) (A := A25) (c := (c0 - (ji3).toNat)) Try.underlying22 Try.underlying5 Try.underlying9 (Kd.C_below HR110.out (by repeat (first | exact HB.out | apply pw_below_drewN | apply below_drew1 | apply below_alloc))))) (fun hHeld => ?_)
          clear hK K
          refine norm_ (a' := ?_) ?_ ?_
          rotate_left
          · show Act.put _ (some 16) _ = _
            simp only [Act.put, List.setIfInBounds_toArray, List.set_cons_zero, List.set_cons_succ, i64_w, i32_w]
            rfl
          refine one_ (i := 5) (N := some 17) #[true, true, true, true, true, true, true, true, true, true, false, false] rfl rfl (one_of HT_.out (by kernel_rfl)) (by decide) (fun K hK => ?_)
          have hcv28 := own_string (P := Try.prog) Try.underlying22 Try.underlying5 Try.underlying9 (Kd.own_of_R HO109.out)
          refine value_ (w1 := ?_) (v := ?_) (by rfl) rfl ?_ ?_
          rotate_left 2
          · go_simp
            constructor
            · rfl
            · rfl
          clear hcv28
          refine hK.out _ _ ((Kd.C_string (P := Try.prog) (A := A25) (c := (c0 - (ji3).toNat)) Try.underlying22 Try.underlying5 Try.underlying9 (Kd.C_below HR110.out (by repeat (first | exact HB.out | apply pw_below_drewN | apply below_drew1 | apply below_alloc))))) (fun hHeld => ?_)
          clear hK K
          refine norm_ (a' := ?_) ?_ ?_
          rotate_left
          · show Act.put _ (some 17) _ = _
            simp only [Act.put, List.setIfInBounds_toArray, List.set_cons_zero, List.set_cons_succ, i64_w, i32_w]
            rfl
          refine pure_ (i := 10) (N := some 22) (v := ?_) (a' := ?_) #[true, true, true, true, true, true, true, true, true, true, true, false] rfl rfl (any_of HT_.out (by kernel_rfl)) (fun _ _ _ h => h) (Or.inl ⟨by rfl, ?_⟩) ?_ ?_
          rotate_left
          · intro w'
            go_simp
            with_reducible rfl
          rotate_left
          · simp only [Act.put, List.setIfInBounds_toArray, List.set_cons_zero, List.set_cons_succ, i64_w, i32_w]
            rfl
          refine pure_ (i := 11) (N := some 11) (v := ?_) (a' := ?_) #[true, true, true, true, true, true, true, true, true, true, true, true] rfl rfl (any_of HT_.out (by kernel_rfl)) (fun _ _ _ h => h) (Or.inl ⟨by rfl, ?_⟩) ?_ ?_
          rotate_left
          · intro w'
            go_simp
            with_reducible rfl
          rotate_left
          · simp only [Act.put, List.setIfInBounds_toArray, List.set_cons_zero, List.set_cons_succ, i64_w, i32_w]
            rfl
          refine done_ (done_of HT_.out (by kernel_rfl)) ?_
          try go_wp2
          go_ret2
          exact ⟨_, by first | rfl | (simp [errW_none, errW_some] <;> rfl) | (simp only [← hji3]; first | rfl | (simp [errW_none, errW_some] <;> rfl)) | (simp [*, errW_none, errW_some] <;> rfl), Kd.V_nil _ _ _ _ _, by repeat (first | (with_reducible first | exact HB.out | apply below_alloc | apply pw_below_drewN | apply below_drew1) | exact HB.out)⟩
      · rw [if_neg c5] at H
        exact absurd H (by simp)
    · rw [if_neg c4] at H
      exact absurd H (by simp)

end Go.Proofs.Ytgkdigaieelopaa.PCrc

/- The bytes of a constant string: the conversion of their row to its own type marks the row's block and leaves its cells as they are. -/
namespace Go.Proofs.Ytgkdigaieelopaa.Hand
open Go.RowKit Go.Proofs.YtgkdigaieelopaaW.PrintWords Go.Proofs.YtgkdigaieelopaaW.PrintLast Go.Proofs.YtgkdigaieelopaaW.PrintMore
set_option linter.unusedVariables false
set_option linter.unusedSimpArgs false
theorem cell_freeze (W : World) (a : Addr) (n : Nat) (x : Addr) : (W.freeze a n).cell? x = W.cell? x := by
  unfold World.freeze
  split
  · rfl
  · simp only [World.cell?, Array.getElem?_modify]
    by_cases h : a.block = x.block
    · rw [if_pos h]
      cases W.heap[x.block]? with
      | none => rfl
      | some o => cases o <;> rfl
    · rw [if_neg h]
theorem below_freeze {B : Nat} {w W : World} (h : Below B w W) {a : Addr} (ha : B ≤ a.block) (n : Nat) : Below B w (W.freeze a n) := by
  refine h.trans ?_
  unfold World.freeze
  split
  · exact Below.refl _ _
  · exact ⟨rfl, rfl, rfl, by simp, fun k hk => by simp only [Array.getElem?_modify]; rw [if_neg (by omega)]⟩
theorem conv_mark {W : World} {base : Nat} {ok : Nat → Prop} {A : Option Addr} {c : Nat} {xs : List Int} (h : Kd.R (Kd.int .u8) 5 W base ok (.slice A xs.length c) xs) (hp : 0 < xs.length) :
    ∃ w', (convert 22 22 (.slice A xs.length c)).run Try.prog W = .ok (.slice A xs.length c) w' ∧ (xs.length ≤ c ∧ Kd.C (Kd.int .u8) w' A xs.length xs) ∧ ∀ B w0, B ≤ base → Below B w0 W → Below B w0 w' := by
  obtain ⟨g, cap, he, hg, hlt, cells, hcells⟩ := Kd.R_form h hp
  have hrd := Kd.R_reads' h
  injection he with h1 h2 h3
  subst h1
  refine ⟨W.freeze ⟨g, cells.size, none⟩ 1, ?_, ⟨hrd.2.1, ?_⟩, fun B w0 hB hb => below_freeze hb (by show B ≤ g; omega) 1⟩
  · have hsh : W.shape? g = some (5, cells.size) := by
      unfold World.shape?
      rw [hcells]
    simp [convert, run_underlying Try.underlying22, run_underlying Try.underlying5, markStringish, hsh]
  · have h9 := Kd.reads_of_C (d := (0 : Int)) hrd.2.2
    refine Kd.C_of_reads (d := (0 : Int)) (h1 := fun _ => rfl) ?_
    unfold ReadsOf at h9 ⊢
    simpa only [cell_freeze] using h9
section
variable {P : Program} {ops : Array Oper} {rest : List Oper} {o : Oper} {a : Act} {Q : Exit → Act → World → Prop}
theorem C_alloc_nums (W : World) (e : TypeId) (f : Nat × Nat) (xs : List Int) (hm : xs.length ≤ 9223372036854775807) : Kd.C (Kd.int .u8) (W.alloc (.cells (nums .u8 xs).toArray e f)) (some ⟨W.heap.size, 0, none⟩) xs.length xs := by
  refine Kd.C_of_reads (d := (0 : Int)) (h1 := fun _ => rfl) ⟨rfl, hm, fun _ => ⟨_, rfl, fun j hj => ?_⟩⟩
  rw [add_plain, cell_of_row _ W.heap.size j (nums .u8 xs).toArray e f (blk_new W _)]
  simp [nums, hj]
/-- The bytes of a constant string, behind their conversion: they read as they are written. -/
theorem lit_conv {W : World} {t e : TypeId} {x : Operand} {xs ys : List Int} (hgd : o.guard = none) (ho : o.op = .convert t t x) (hx : a.eval x = .slice (some ⟨W.heap.size, 0, none⟩) xs.length xs.length) (hy : ys = xs) (hm : xs.length ≤ 9223372036854775807)
    (ht : P.underlying t = some (.slice e)) (he : P.underlying e = some (.int .u8))
    (h : ∀ A w1, Kd.C (Kd.int .u8) w1 A ys.length ys → Below W.heap.size W w1 → wpList P ops Q rest (a.put o.dst (.slice A ys.length ys.length)) w1) :
    wpList P ops Q (o :: rest) a (W.alloc (.cells (nums .u8 xs).toArray e)) := by
  subst hy
  have hr := Lib.run_convert_bytes_const (P := P) W t e (nums .u8 ys).toArray ys.length ys.length ht he
  refine Kd.event_run hgd ?_ (h (some ⟨W.heap.size, 0, none⟩) (W.alloc (.cells (nums .u8 ys).toArray e ((nums .u8 ys).toArray.size, (nums .u8 ys).toArray.size + 1))) (C_alloc_nums W e _ ys hm) ((Below.refl _ _).alloc (Nat.le_refl _) _))
  simp [execOp, ho, hx, hr]
end
end Go.Proofs.Ytgkdigaieelopaa.Hand

/- Printed by a program of this session (drv.py) from the translation of this seat: functions, their contracts, rows. -/
namespace Go.Proofs.Ytgkdigaieelopaa.PCrc
open Go.RowKit Go.Proofs.YtgkdigaieelopaaW.PrintWords Go.Proofs.YtgkdigaieelopaaW.PrintLast Go.Proofs.YtgkdigaieelopaaW.PrintMore
attribute [local go_sem] max2_int min2_int max_two min_two max_three min_three max_four min_four   -- for this text's walks alone
set_option linter.unusedVariables false
set_option linter.unusedSimpArgs false

/-! ### concordancelaw2_awake: function 9 -/
def concordancelaw2_awake.f  : Option (Bool) := (crc_Seal.f (([120] : List Int))).bind fun t118 => ((crc_Open.f t118).bind fun bt121 => ((crc_Sum.f (([49, 50, 51, 52, 53, 54, 55, 56, 57] : List Int))).bind fun t128 => (if t128 = 3808858755 then ((crc_Sum.f ([] : List Int)).bind fun t129 => (if t129 = 0 then (if (strOfNums bt121.1).toList = ([120] : List UInt8) then (some (bt121.2 == 0)) else (some false)) else (some false))) else (some false))))
set_option maxHeartbeats 8000000 in
set_option maxRecDepth 100000 in
theorem concordancelaw2_awake.calls  (r : Bool) (w : World) (h : concordancelaw2_awake.f  = some r) :
    Calls Try.prog 9 #[] w fun e w' => e = .returned (.bool r) ∧ Below w.heap.size w w' := by
  have HB := Aside0.mk (Below.refl w.heap.size w)
  have H : ((crc_Seal.f (([120] : List Int))).bind fun t118 => ((crc_Open.f t118).bind fun bt121 => ((crc_Sum.f (([49, 50, 51, 52, 53, 54, 55, 56, 57] : List Int))).bind fun t128 => (if t128 = 3808858755 then ((crc_Sum.f ([] : List Int)).bind fun t129 => (if t129 = 0 then (if (strOfNums bt121.1).toList = ([120] : List UInt8) then (some (bt121.2 == 0)) else (some false)) else (some false))) else (some false))))) = some r := h
  clear h
  obtain ⟨y115, hy115⟩ : ∃ y_ : List Int, y_ = (([120] : List Int)) := ⟨_, rfl⟩
  replace H : ((crc_Seal.f y115).bind fun t118 => ((crc_Open.f t118).bind fun bt121 => ((crc_Sum.f (([49, 50, 51, 52, 53, 54, 55, 56, 57] : List Int))).bind fun t128 => (if t128 = 3808858755 then ((crc_Sum.f ([] : List Int)).bind fun t129 => (if t129 = 0 then (if (strOfNums bt121.1).toList = ([120] : List UInt8) then (some (bt121.2 == 0)) else (some false)) else (some false))) else (some false))))) = some r := by first | (rw [hy115]; with_reducible exact H) | (have H2_ := (Option.bind_some _ _).symm.trans H; rw [hy115]; with_reducible exact H2_) | (have H2_ := (Option.bind_some _ _).symm.trans H; with_reducible exact H2_) | with_reducible exact H | (rw [hy115]; exact H) | exact H
  have Ny115 := Aside0.mk hy115
  clear hy115
  replace H := Option.bind_eq_some_iff.mp H
  obtain ⟨t118, A10, H⟩ := H
  replace H : ((crc_Open.f t118).bind fun bt121 => ((crc_Sum.f (([49, 50, 51, 52, 53, 54, 55, 56, 57] : List Int))).bind fun t128 => (if t128 = 3808858755 then ((crc_Sum.f ([] : List Int)).bind fun t129 => (if t129 = 0 then (if (strOfNums bt121.1).toList = ([120] : List UInt8) then (some (bt121.2 == 0)) else (some false)) else (some false))) else (some false)))) = some r := H
  have A1 := Aside0.mk A10
  clear A10
  replace H := Option.bind_eq_some_iff.mp H
  obtain ⟨⟨t121, t124⟩, A20, H⟩ := H
  replace H : ((crc_Sum.f (([49, 50, 51, 52, 53, 54, 55, 56, 57] : List Int))).bind fun t128 => (if t128 = 3808858755 then ((crc_Sum.f ([] : List Int)).bind fun t129 => (if t129 = 0 then (if (strOfNums t121).toList = ([120] : List UInt8) then (some (t124 == 0)) else (some false)) else (some false))) else (some false))) = some r := H
  have A2 := Aside0.mk A20
  clear A20
  obtain ⟨y125, hy125⟩ : ∃ y_ : List Int, y_ = (([49, 50, 51, 52, 53, 54, 55, 56, 57] : List Int)) := ⟨_, rfl⟩
  replace H : ((crc_Sum.f y125).bind fun t128 => (if t128 = 3808858755 then ((crc_Sum.f ([] : List Int)).bind fun t129 => (if t129 = 0 then (if (strOfNums t121).toList = ([120] : List UInt8) then (some (t124 == 0)) else (some false)) else (some false))) else (some false))) = some r := by first | (rw [hy125]; with_reducible exact H) | (have H2_ := (Option.bind_some _ _).symm.trans H; rw [hy125]; with_reducible exact H2_) | (have H2_ := (Option.bind_some _ _).symm.trans H; with_reducible exact H2_) | with_reducible exact H | (rw [hy125]; exact H) | exact H
  have Ny125 := Aside0.mk hy125
  clear hy125
  replace H := Option.bind_eq_some_iff.mp H
  obtain ⟨t128, A30, H⟩ := H
  replace H : (if t128 = 3808858755 then ((crc_Sum.f ([] : List Int)).bind fun t129 => (if t129 = 0 then (if (strOfNums t121).toList = ([120] : List UInt8) then (some (t124 == 0)) else (some false)) else (some false))) else (some false)) = some r := H
  have A3 := Aside0.mk A30
  clear A30
  by_cases c4 : t128 = 3808858755
  · rw [if_pos c4] at H
    have c4b0 : (t128 == 3808858755) = true := beq_iff_eq.mpr c4
    have c4b1 : (t128 != 3808858755) = false := bne_eq_false_iff_eq.mpr c4
    clear c4
    replace H := Option.bind_eq_some_iff.mp H
    obtain ⟨t129, A50, H⟩ := H
    replace H : (if t129 = 0 then (if (strOfNums t121).toList = ([120] : List UInt8) then (some (t124 == 0)) else (some false)) else (some false)) = some r := H
    have A5 := Aside0.mk A50
    clear A50
    by_cases c6 : t129 = 0
    · rw [if_pos c6] at H
      have c6b0 : (t129 == 0) = true := beq_iff_eq.mpr c6
      have c6b1 : (t129 != 0) = false := bne_eq_false_iff_eq.mpr c6
      clear c6
      by_cases c7 : (strOfNums t121).toList = ([120] : List UInt8)
      · rw [if_pos c7] at H
        have c7b0 : ((strOfNums t121).toList == ([120] : List UInt8)) = true := beq_iff_eq.mpr c7
        have c7b1 : ((strOfNums t121).toList != ([120] : List UInt8)) = false := bne_eq_false_iff_eq.mpr c7
        clear c7
        obtain rfl := Option.some.inj H
        go_enter Try.func9, Try.ntmps9
        go_wp2_with (first | ((with_reducible refine gate_dst (N := 5) rfl ?_); refine Go.Proofs.Ytgkdigaieelopaa.Hand.lit_conv (xs := ([120] : List Int)) (ys := y115) rfl rfl rfl ?ly ?lm Try.underlying22 Try.underlying5 ?_; (case ly => exact Ny115.out); (case lm => decide); intro Ao10 w8 hc_ hb; have n0_ := Aside0.mk (And.intro (Nat.le_refl y115.length) hc_); have n1_ := Aside0.mk (below_step (by repeat (first | (with_reducible first | exact HB.out | apply below_alloc | apply pw_below_drewN | apply below_drew1) | exact HB.out)) hb); clear HB; have HO117 := n0_; have HB := n1_; clear n0_ n1_; clear hb hc_) | ((with_reducible refine gate_callee (f := 11) rfl ?_); refine goesL_ (some 6) rfl rfl Try.func11 (by kernel_rfl) rfl #[.slice Ao10 y115.length y115.length] rfl (by (try simp only [List.map_toArray, List.map_cons, List.map_nil]); first | done | rfl | (simp only [List.length_drop, List.length_take]; rfl)) ?_; (with_reducible refine (crc_Seal.calls _ _ y115 t118 _ ?side1 ?side2 A1.out).mono ?_); (case side1 => repeat (first | exact HO117.out.2 | (with_reducible refine Kd.C_alloc ?_ _) | (with_reducible refine Kd.C_drewN ?_ _) | (with_reducible refine Kd.C_drew ?_))); (case side2 => exact HO117.out.1); rintro e w11 ⟨v119, rfl, ho0, hb⟩; refine ⟨_, rfl, ?_⟩; have n0_ := True.intro; have n1_ := Aside0.mk (Kd.R_lower ho0 (below_size (by repeat (first | (with_reducible first | exact HB.out | apply below_alloc | apply pw_below_drewN | apply below_drew1) | exact HB.out)))); have n2_ := Aside0.mk (below_step (by repeat (first | (with_reducible first | exact HB.out | apply below_alloc | apply pw_below_drewN | apply below_drew1) | exact HB.out)) hb); clear HO117; clear HB; have HO117 := n0_; have HO120 := n1_; have HB := n2_; clear n0_ n1_ n2_; (try clear hb); (try clear hb2); (try clear hk); (try clear hi); (try clear ho0); obtain ⟨Ao12, co12, eo12⟩ := Kd.R_slice HO120.out; subst eo12) | ((with_reducible refine gate_callee (f := 12) rfl ?_); refine goesL_ (some 7) rfl rfl Try.func12 (by kernel_rfl) rfl #[.slice Ao12 t118.length co12] rfl (by (try simp only [List.map_toArray, List.map_cons, List.map_nil]); first | done | rfl | (simp only [List.length_drop, List.length_take]; rfl)) ?_; (with_reducible refine (crc_Open.calls _ _ t118 t121 t124 _ ?side1 ?side2 A2.out).mono ?_); (case side1 => repeat (first | exact (Kd.R_reads' HO120.out).2.2 | (with_reducible refine Kd.C_alloc ?_ _) | (with_reducible refine Kd.C_drewN ?_ _) | (with_reducible refine Kd.C_drew ?_))); (case side2 => exact (Kd.R_reads' HO120.out).2.1); rintro e w13 ⟨v122, rfl, ho0, hb⟩; refine ⟨_, rfl, ?_⟩; have n0_ := True.intro; have n1_ := Aside0.mk (Kd.R_below (by (with_reducible repeat (first | apply Kd.R_alloc | apply Kd.R_drewN | apply Kd.R_drew)); exact HO120.out) hb); have n2_ := Aside0.mk (Kd.V_lower (Kd.V_mono (ok' := fun k_ => some k_ ≠ (.slice Ao12 t118.length co12 : Value).ownBlock) ho0 (fun k_ hk_ => (Kd.fresh' (Kd.R_lt (by (with_reducible repeat (first | apply Kd.R_alloc | apply Kd.R_drewN | apply Kd.R_drew)); exact HO120.out)) k_ hk_))) (below_size (by repeat (first | (with_reducible first | exact HB.out | apply below_alloc | apply pw_below_drewN | apply below_drew1) | exact HB.out)))); have n3_ := Aside0.mk (below_step (by repeat (first | (with_reducible first | exact HB.out | apply below_alloc | apply pw_below_drewN | apply below_drew1) | exact HB.out)) hb); clear HO117; clear HO120; clear HB; have HO117 := n0_; have HO120 := n1_; have HO123 := n2_; have HB := n3_; clear n0_ n1_ n2_ n3_; (try clear hb); (try clear hb2); (try clear hk); (try clear hi); (try clear ho0)) | ((with_reducible refine gate_dst (N := 11) rfl ?_); refine Go.Proofs.Ytgkdigaieelopaa.Hand.lit_conv (xs := ([49, 50, 51, 52, 53, 54, 55, 56, 57] : List Int)) (ys := y125) rfl rfl rfl ?ly ?lm Try.underlying22 Try.underlying5 ?_; (case ly => exact Ny125.out); (case lm => decide); intro Ao16 w14 hc_ hb; have n0_ := True.intro; have n1_ := Aside0.mk (Kd.R_below (by (with_reducible repeat (first | apply Kd.R_alloc | apply Kd.R_drewN | apply Kd.R_drew)); exact HO120.out) hb); have n2_ := Aside0.mk (Kd.V_below (by (with_reducible repeat (first | apply Kd.V_alloc | apply Kd.V_drewN | apply Kd.V_drew)); exact HO123.out) hb); have n3_ := Aside0.mk (And.intro (Nat.le_refl y125.length) hc_); have n4_ := Aside0.mk (below_step (by repeat (first | (with_reducible first | exact HB.out | apply below_alloc | apply pw_below_drewN | apply below_drew1) | exact HB.out)) hb); clear HO117; clear HO120; clear HO123; clear HB; have HO117 := n0_; have HO120 := n1_; have HO123 := n2_; have HO127 := n3_; have HB := n4_; clear n0_ n1_ n2_ n3_ n4_; clear hb hc_) | ((with_reducible refine gate_callee (f := 10) rfl ?_); refine goesL_ (some 12) rfl rfl Try.func10 (by kernel_rfl) rfl #[.slice Ao16 y125.length y125.length] rfl (by (try simp only [List.map_toArray, List.map_cons, List.map_nil]); first | done | rfl | (simp only [List.length_drop, List.length_take]; rfl)) ?_; (with_reducible refine (crc_Sum.calls _ _ y125 t128 _ ?side1 ?side2 A3.out).mono ?_); (case side1 => repeat (first | exact HO127.out.2 | (with_reducible refine Kd.C_alloc ?_ _) | (with_reducible refine Kd.C_drewN ?_ _) | (with_reducible refine Kd.C_drew ?_))); (case side2 => exact HO127.out.1); rintro e w17 ⟨rfl, hb⟩; refine ⟨_, rfl, ?_⟩; have n0_ := True.intro; have n1_ := Aside0.mk (Kd.R_below (by (with_reducible repeat (first | apply Kd.R_alloc | apply Kd.R_drewN | apply Kd.R_drew)); exact HO120.out) hb); have n2_ := Aside0.mk (Kd.V_below (by (with_reducible repeat (first | apply Kd.V_alloc | apply Kd.V_drewN | apply Kd.V_drew)); exact HO123.out) hb); have n3_ := True.intro; have n4_ := Aside0.mk (below_step (by repeat (first | (with_reducible first | exact HB.out | apply below_alloc | apply pw_below_drewN | apply below_drew1) | exact HB.out)) hb); clear HO117; clear HO120; clear HO123; clear HO127; clear HB; have HO117 := n0_; have HO120 := n1_; have HO123 := n2_; have HO127 := n3_; have HB := n4_; clear n0_ n1_ n2_ n3_ n4_; (try clear hb); (try clear hb2); (try clear hk); (try clear hi)) | (go_at_call 10; (refine (crc_Sum.calls _ _ ([] : List Int) t129 _ ?side1 ?side2 A5.out).mono ?_); (case side1 => exact Kd.C_nil _ _); (case side2 => exact Nat.le_refl _); rintro e w18 ⟨rfl, hb⟩; have n0_ := True.intro; have n1_ := Aside0.mk (Kd.R_below (by (with_reducible repeat (first | apply Kd.R_alloc | apply Kd.R_drewN | apply Kd.R_drew)); exact HO120.out) hb); have n2_ := Aside0.mk (Kd.V_below (by (with_reducible repeat (first | apply Kd.V_alloc | apply Kd.V_drewN | apply Kd.V_drew)); exact HO123.out) hb); have n3_ := True.intro; have n4_ := Aside0.mk (below_step (by repeat (first | (with_reducible first | exact HB.out | apply below_alloc | apply pw_below_drewN | apply below_drew1) | exact HB.out)) hb); clear HO117; clear HO120; clear HO123; clear HO127; clear HB; have HO117 := n0_; have HO120 := n1_; have HO123 := n2_; have HO127 := n3_; have HB := n4_; clear n0_ n1_ n2_ n3_ n4_; (try clear hb); (try clear hb2); (try clear hk); (try clear hi); have hcv19 := Go.Proofs.Ytgkdigaieelopaa.Hand.V_string (P := Try.prog) Try.underlying22 Try.underlying5 Try.underlying9 HO123.out; have hcvd19 := fun nd_ : Nat => Go.Proofs.Ytgkdigaieelopaa.Hand.V_string (P := Try.prog) Try.underlying22 Try.underlying5 Try.underlying9 (Kd.V_drewN HO123.out nd_)))
        go_ret
        exact ⟨by first | rfl | (simp [errW_none, errW_some] <;> rfl) | (simp [*, errW_none, errW_some] <;> rfl), by repeat (first | (with_reducible first | exact HB.out | apply below_alloc | apply pw_below_drewN | apply below_drew1) | exact HB.out)⟩
      · rw [if_neg c7] at H
        have c7b0 : ((strOfNums t121).toList == ([120] : List UInt8)) = false := beq_eq_false_iff_ne.mpr c7
        have c7b1 : ((strOfNums t121).toList != ([120] : List UInt8)) = true := bne_iff_ne.mpr c7
        obtain rfl := Option.some.inj H
        go_enter Try.func9, Try.ntmps9
        go_wp2_with (first | ((with_reducible refine gate_dst (N := 5) rfl ?_); refine Go.Proofs.Ytgkdigaieelopaa.Hand.lit_conv (xs := ([120] : List Int)) (ys := y115) rfl rfl rfl ?ly ?lm Try.underlying22 Try.underlying5 ?_; (case ly => exact Ny115.out); (case lm => decide); intro Ao22 w20 hc_ hb; have n0_ := Aside0.mk (And.intro (Nat.le_refl y115.length) hc_); have n1_ := Aside0.mk (below_step (by repeat (first | (with_reducible first | exact HB.out | apply below_alloc | apply pw_below_drewN | apply below_drew1) | exact HB.out)) hb); clear HB; have HO117 := n0_; have HB := n1_; clear n0_ n1_; clear hb hc_) | ((with_reducible refine gate_callee (f := 11) rfl ?_); refine goesL_ (some 6) rfl rfl Try.func11 (by kernel_rfl) rfl #[.slice Ao22 y115.length y115.length] rfl (by (try simp only [List.map_toArray, List.map_cons, List.map_nil]); first | done | rfl | (simp only [List.length_drop, List.length_take]; rfl)) ?_; (with_reducible refine (crc_Seal.calls _ _ y115 t118 _ ?side1 ?side2 A1.out).mono ?_); (case side1 => repeat (first | exact HO117.out.2 | (with_reducible refine Kd.C_alloc ?_ _) | (with_reducible refine Kd.C_drewN ?_ _) | (with_reducible refine Kd.C_drew ?_))); (case side2 => exact HO117.out.1); rintro e w23 ⟨v119, rfl, ho0, hb⟩; refine ⟨_, rfl, ?_⟩; have n0_ := True.intro; have n1_ := Aside0.mk (Kd.R_lower ho0 (below_size (by repeat (first | (with_reducible first | exact HB.out | apply below_alloc | apply pw_below_drewN | apply below_drew1) | exact HB.out)))); have n2_ := Aside0.mk (below_step (by repeat (first | (with_reducible first | exact HB.out | apply below_alloc | apply pw_below_drewN | apply below_drew1) | exact HB.out)) hb); clear HO117; clear HB; have HO117 := n0_; have HO120 := n1_; have HB := n2_; clear n0_ n1_ n2_; (try clear hb); (try clear hb2); (try clear hk); (try clear hi); (try clear ho0); obtain ⟨Ao24, co24, eo24⟩ := Kd.R_slice HO120.out; subst eo24) | ((with_reducible refine gate_callee (f := 12) rfl ?_); refine goesL_ (some 7) rfl rfl Try.func12 (by kernel_rfl) rfl #[.slice Ao24 t118.length co24] rfl (by (try simp only [List.map_toArray, List.map_cons, List.map_nil]); first | done | rfl | (simp only [List.length_drop, List.length_take]; rfl)) ?_; (with_reducible refine (crc_Open.calls _ _ t118 t121 t124 _ ?side1 ?side2 A2.out).mono ?_); (case side1 => repeat (first | exact (Kd.R_reads' HO120.out).2.2 | (with_reducible refine Kd.C_alloc ?_ _) | (with_reducible refine Kd.C_drewN ?_ _) | (with_reducible refine Kd.C_drew ?_))); (case side2 => exact (Kd.R_reads' HO120.out).2.1); rintro e w25 ⟨v122, rfl, ho0, hb⟩; refine ⟨_, rfl, ?_⟩; have n0_ := True.intro; have n1_ := Aside0.mk (Kd.R_below (by (with_reducible repeat (first | apply Kd.R_alloc | apply Kd.R_drewN | apply Kd.R_drew)); exact HO120.out) hb); have n2_ := Aside0.mk (Kd.V_lower (Kd.V_mono (ok' := fun k_ => some k_ ≠ (.slice Ao24 t118.length co24 : Value).ownBlock) ho0 (fun k_ hk_ => (Kd.fresh' (Kd.R_lt (by (with_reducible repeat (first | apply Kd.R_alloc | apply Kd.R_drewN | apply Kd.R_drew)); exact HO120.out)) k_ hk_))) (below_size (by repeat (first | (with_reducible first | exact HB.out | apply below_alloc | apply pw_below_drewN | apply below_drew1) | exact HB.out)))); have n3_ := Aside0.mk (below_step (by repeat (first | (with_reducible first | exact HB.out | apply below_alloc | apply pw_below_drewN | apply below_drew1) | exact HB.out)) hb); clear HO117; clear HO120; clear HB; have HO117 := n0_; have HO120 := n1_; have HO123 := n2_; have HB := n3_; clear n0_ n1_ n2_ n3_; (try clear hb); (try clear hb2); (try clear hk); (try clear hi); (try clear ho0)) | ((with_reducible refine gate_dst (N := 11) rfl ?_); refine Go.Proofs.Ytgkdigaieelopaa.Hand.lit_conv (xs := ([49, 50, 51, 52, 53, 54, 55, 56, 57] : List Int)) (ys := y125) rfl rfl rfl ?ly ?lm Try.underlying22 Try.underlying5 ?_; (case ly => exact Ny125.out); (case lm => decide); intro Ao28 w26 hc_ hb; have n0_ := True.intro; have n1_ := Aside0.mk (Kd.R_below (by (with_reducible repeat (first | apply Kd.R_alloc | apply Kd.R_drewN | apply Kd.R_drew)); exact HO120.out) hb); have n2_ := Aside0.mk (Kd.V_below (by (with_reducible repeat (first | apply Kd.V_alloc | apply Kd.V_drewN | apply Kd.V_drew)); exact HO123.out) hb); have n3_ := Aside0.mk (And.intro (Nat.le_refl y125.length) hc_); have n4_ := Aside0.mk (below_step (by repeat (first | (with_reducible first | exact HB.out | apply below_alloc | apply pw_below_drewN | apply below_drew1) | exact HB.out)) hb); clear HO117; clear HO120; clear HO123; clear HB; have HO117 := n0_; have HO120 := n1_; have HO123 := n2_; have HO127 := n3_; have HB := n4_; clear n0_ n1_ n2_ n3_ n4_; clear hb hc_) | ((with_reducible refine gate_callee (f := 10) rfl ?_); refine goesL_ (some 12) rfl rfl Try.func10 (by kernel_rfl) rfl #[.slice Ao28 y125.length y125.length] rfl (by (try simp only [List.map_toArray, List.map_cons, List.map_nil]); first | done | rfl | (simp only [List.length_drop, List.length_take]; rfl)) ?_; (with_reducible refine (crc_Sum.calls _ _ y125 t128 _ ?side1 ?side2 A3.out).mono ?_); (case side1 => repeat (first | exact HO127.out.2 | (with_reducible refine Kd.C_alloc ?_ _) | (with_reducible refine Kd.C_drewN ?_ _) | (with_reducible refine Kd.C_drew ?_))); (case side2 => exact HO127.out.1); rintro e w29 ⟨rfl, hb⟩; refine ⟨_, rfl, ?_⟩; have n0_ := True.intro; have n1_ := Aside0.mk (Kd.R_below (by (with_reducible repeat (first | apply Kd.R_alloc | apply Kd.R_drewN | apply Kd.R_drew)); exact HO120.out) hb); have n2_ := Aside0.mk (Kd.V_below (by (with_reducible repeat (first | apply Kd.V_alloc | apply Kd.V_drewN | apply Kd.V_drew)); exact HO123.out) hb); have n3_ := True.intro; have n4_ := Aside0.mk (below_step (by repeat (first | (with_reducible first | exact HB.out | apply below_alloc | apply pw_below_drewN | apply below_drew1) | exact HB.out)) hb); clear HO117; clear HO120; clear HO123; clear HO127; clear HB; have HO117 := n0_; have HO120 := n1_; have HO123 := n2_; have HO127 := n3_; have HB := n4_; clear n0_ n1_ n2_ n3_ n4_; (try clear hb); (try clear hb2); (try clear hk); (try clear hi)) | (go_at_call 10; (refine (crc_Sum.calls _ _ ([] : List Int) t129 _ ?side1 ?side2 A5.out).mono ?_); (case side1 => exact Kd.C_nil _ _); (case side2 => exact Nat.le_refl _); rintro e w30 ⟨rfl, hb⟩; have n0_ := True.intro; have n1_ := Aside0.mk (Kd.R_below (by (with_reducible repeat (first | apply Kd.R_alloc | apply Kd.R_drewN | apply Kd.R_drew)); exact HO120.out) hb); have n2_ := Aside0.mk (Kd.V_below (by (with_reducible repeat (first | apply Kd.V_alloc | apply Kd.V_drewN | apply Kd.V_drew)); exact HO123.out) hb); have n3_ := True.intro; have n4_ := Aside0.mk (below_step (by repeat (first | (with_reducible first | exact HB.out | apply below_alloc | apply pw_below_drewN | apply below_drew1) | exact HB.out)) hb); clear HO117; clear HO120; clear HO123; clear HO127; clear HB; have HO117 := n0_; have HO120 := n1_; have HO123 := n2_; have HO127 := n3_; have HB := n4_; clear n0_ n1_ n2_ n3_ n4_; (try clear hb); (try clear hb2); (try clear hk); (try clear hi); have hcv31 := Go.Proofs.Ytgkdigaieelopaa.Hand.V_string (P := Try.prog) Try.underlying22 Try.underlying5 Try.underlying9 HO123.out; have hcvd31 := fun nd_ : Nat => Go.Proofs.Ytgkdigaieelopaa.Hand.V_string (P := Try.prog) Try.underlying22 Try.underlying5 Try.underlying9 (Kd.V_drewN HO123.out nd_)))
        go_ret
        exact ⟨by first | rfl | (simp [errW_none, errW_some] <;> rfl) | (simp [*, errW_none, errW_some] <;> rfl), by repeat (first | (with_reducible first | exact HB.out | apply below_alloc | apply pw_below_drewN | apply below_drew1) | exact HB.out)⟩
    · rw [if_neg c6] at H
      have c6b0 : (t129 == 0) = false := beq_eq_false_iff_ne.mpr c6
      have c6b1 : (t129 != 0) = true := bne_iff_ne.mpr c6
      obtain rfl := Option.some.inj H
      go_enter Try.func9, Try.ntmps9
      go_wp2_with (first | ((with_reducible refine gate_dst (N := 5) rfl ?_); refine Go.Proofs.Ytgkdigaieelopaa.Hand.lit_conv (xs := ([120] : List Int)) (ys := y115) rfl rfl rfl ?ly ?lm Try.underlying22 Try.underlying5 ?_; (case ly => exact Ny115.out); (case lm => decide); intro Ao34 w32 hc_ hb; have n0_ := Aside0.mk (And.intro (Nat.le_refl y115.length) hc_); have n1_ := Aside0.mk (below_step (by repeat (first | (with_reducible first | exact HB.out | apply below_alloc | apply pw_below_drewN | apply below_drew1) | exact HB.out)) hb); clear HB; have HO117 := n0_; have HB := n1_; clear n0_ n1_; clear hb hc_) | ((with_reducible refine gate_callee (f := 11) rfl ?_); refine goesL_ (some 6) rfl rfl Try.func11 (by kernel_rfl) rfl #[.slice Ao34 y115.length y115.length] rfl (by (try simp only [List.map_toArray, List.map_cons, List.map_nil]); first | done | rfl | (simp only [List.length_drop, List.length_take]; rfl)) ?_; (with_reducible refine (crc_Seal.calls _ _ y115 t118 _ ?side1 ?side2 A1.out).mono ?_); (case side1 => repeat (first | exact HO117.out.2 | (with_reducible refine Kd.C_alloc ?_ _) | (with_reducible refine Kd.C_drewN ?_ _) | (with_reducible refine Kd.C_drew ?_))); (case side2 => exact HO117.out.1); rintro e w35 ⟨v119, rfl, ho0, hb⟩; refine ⟨_, rfl, ?_⟩; have n0_ := True.intro; have n1_ := Aside0.mk (Kd.R_lower ho0 (below_size (by repeat (first | (with_reducible first | exact HB.out | apply below_alloc | apply pw_below_drewN | apply below_drew1) | exact HB.out)))); have n2_ := Aside0.mk (below_step (by repeat (first | (with_reducible first | exact HB.out | apply below_alloc | apply pw_below_drewN | apply below_drew1) | exact HB.out)) hb); clear HO117; clear HB; have HO117 := n0_; have HO120 := n1_; have HB := n2_; clear n0_ n1_ n2_; (try clear hb); (try clear hb2); (try clear hk); (try clear hi); (try clear ho0); obtain ⟨Ao36, co36, eo36⟩ := Kd.R_slice HO120.out; subst eo36) | ((with_reducible refine gate_callee (f := 12) rfl ?_); refine goesL_ (some 7) rfl rfl Try.func12 (by kernel_rfl) rfl #[.slice Ao36 t118.length co36] rfl (by (try simp only [List.map_toArray, List.map_cons, List.map_nil]); first | done | rfl | (simp only [List.length_drop, List.length_take]; rfl)) ?_; (with_reducible refine (crc_Open.calls _ _ t118 t121 t124 _ ?side1 ?side2 A2.out).mono ?_); (case side1 => repeat (first | exact (Kd.R_reads' HO120.out).2.2 | (with_reducible refine Kd.C_alloc ?_ _) | (with_reducible refine Kd.C_drewN ?_ _) | (with_reducible refine Kd.C_drew ?_))); (case side2 => exact (Kd.R_reads' HO120.out).2.1); rintro e w37 ⟨v122, rfl, ho0, hb⟩; refine ⟨_, rfl, ?_⟩; have n0_ := True.intro; have n1_ := Aside0.mk (Kd.R_below (by (with_reducible repeat (first | apply Kd.R_alloc | apply Kd.R_drewN | apply Kd.R_drew)); exact HO120.out) hb); have n2_ := Aside0.mk (Kd.V_lower (Kd.V_mono (ok' := fun k_ => some k_ ≠ (.slice Ao36 t118.length co36 : Value).ownBlock) ho0 (fun k_ hk_ => (Kd.fresh' (Kd.R_lt (by (with_reducible repeat (first | apply Kd.R_alloc | apply Kd.R_drewN | apply Kd.R_drew)); exact HO120.out)) k_ hk_))) (below_size (by repeat (first | (with_reducible first | exact HB.out | apply below_alloc | apply pw_below_drewN | apply below_drew1) | exact HB.out)))); have n3_ := Aside0.mk (below_step (by repeat (first | (with_reducible first | exact HB.out | apply below_alloc | apply pw_below_drewN | apply below_drew1) | exact HB.out)) hb); clear HO117; clear HO120; clear HB; have HO117 := n0_; have HO120 := n1_; have HO123 := n2_; have HB := n3_; clear n0_ n1_ n2_ n3_; (try clear hb); (try clear hb2); (try clear hk); (try clear hi); (try clear ho0)) | ((with_reducible refine gate_dst (N := 11) rfl ?_); refine Go.Proofs.Ytgkdigaieelopaa.Hand.lit_conv (xs := ([49, 50, 51, 52, 53, 54, 55, 56, 57] : List Int)) (ys := y125) rfl rfl rfl ?ly ?lm Try.underlying22 Try.underlying5 ?_; (case ly => exact Ny125.out); (case lm => decide); intro Ao40 w38 hc_ hb; have n0_ := True.intro; have n1_ := Aside0.mk (Kd.R_below (by (with_reducible repeat (first | apply Kd.R_alloc | apply Kd.R_drewN | apply Kd.R_drew)); exact HO120.out) hb); have n2_ := Aside0.mk (Kd.V_below (by (with_reducible repeat (first | apply Kd.V_alloc | apply Kd.V_drewN | apply Kd.V_drew)); exact HO123.out) hb); have n3_ := Aside0.mk (And.intro (Nat.le_refl y125.length) hc_); have n4_ := Aside0.mk (below_step (by repeat (first | (with_reducible first | exact HB.out | apply below_alloc | apply pw_below_drewN | apply below_drew1) | exact HB.out)) hb); clear HO117; clear HO120; clear HO123; clear HB; have HO117 := n0_; have HO120 := n1_; have HO123 := n2_; have HO127 := n3_; have HB := n4_; clear n0_ n1_ n2_ n3_ n4_; clear hb hc_) | ((with_reducible refine gate_callee (f := 10) rfl ?_); refine goesL_ (some 12) rfl rfl Try.func10 (by kernel_rfl) rfl #[.slice Ao40 y125.length y125.length] rfl (by (try simp only [List.map_toArray, List.map_cons, List.map_nil]); first | done | rfl | (simp only [List.length_drop, List.length_take]; rfl)) ?_; (with_reducible refine (crc_Sum.calls _ _ y125 t128 _ ?side1 ?side2 A3.out).mono ?_); (case side1 => repeat (first | exact HO127.out.2 | (with_reducible refine Kd.C_alloc ?_ _) | (with_reducible refine Kd.C_drewN ?_ _) | (with_reducible refine Kd.C_drew ?_))); (case side2 => exact HO127.out.1); rintro e w41 ⟨rfl, hb⟩; refine ⟨_, rfl, ?_⟩; have n0_ := True.intro; have n1_ := Aside0.mk (Kd.R_below (by (with_reducible repeat (first | apply Kd.R_alloc | apply Kd.R_drewN | apply Kd.R_drew)); exact HO120.out) hb); have n2_ := Aside0.mk (Kd.V_below (by (with_reducible repeat (first | apply Kd.V_alloc | apply Kd.V_drewN | apply Kd.V_drew)); exact HO123.out) hb); have n3_ := True.intro; have n4_ := Aside0.mk (below_step (by repeat (first | (with_reducible first | exact HB.out | apply below_alloc | apply pw_below_drewN | apply below_drew1) | exact HB.out)) hb); clear HO117; clear HO120; clear HO123; clear HO127; clear HB; have HO117 := n0_; have HO120 := n1_; have HO123 := n2_; have HO127 := n3_; have HB := n4_; clear n0_ n1_ n2_ n3_ n4_; (try clear hb); (try clear hb2); (try clear hk); (try clear hi)) | (go_at_call 10; (refine (crc_Sum.calls _ _ ([] : List Int) t129 _ ?side1 ?side2 A5.out).mono ?_); (case side1 => exact Kd.C_nil _ _); (case side2 => exact Nat.le_refl _); rintro e w42 ⟨rfl, hb⟩; have n0_ := True.intro; have n1_ := Aside0.mk (Kd.R_below (by (with_reducible repeat (first | apply Kd.R_alloc | apply Kd.R_drewN | apply Kd.R_drew)); exact HO120.out) hb); have n2_ := Aside0.mk (Kd.V_below (by (with_reducible repeat (first | apply Kd.V_alloc | apply Kd.V_drewN | apply Kd.V_drew)); exact HO123.out) hb); have n3_ := True.intro; have n4_ := Aside0.mk (below_step (by repeat (first | (with_reducible first | exact HB.out | apply below_alloc | apply pw_below_drewN | apply below_drew1) | exact HB.out)) hb); clear HO117; clear HO120; clear HO123; clear HO127; clear HB; have HO117 := n0_; have HO120 := n1_; have HO123 := n2_; have HO127 := n3_; have HB := n4_; clear n0_ n1_ n2_ n3_ n4_; (try clear hb); (try clear hb2); (try clear hk); (try clear hi)))
      go_ret
      exact ⟨by first | rfl | (simp [errW_none, errW_some] <;> rfl) | (simp [*, errW_none, errW_some] <;> rfl), by repeat (first | (with_reducible first | exact HB.out | apply below_alloc | apply pw_below_drewN | apply below_drew1) | exact HB.out)⟩
  · rw [if_neg c4] at H
    have c4b0 : (t128 == 3808858755) = false := beq_eq_false_iff_ne.mpr c4
    have c4b1 : (t128 != 3808858755) = true := bne_iff_ne.mpr c4
    obtain rfl := Option.some.inj H
    go_enter Try.func9, Try.ntmps9
    go_wp2_with (first | ((with_reducible refine gate_dst (N := 5) rfl ?_); refine Go.Proofs.Ytgkdigaieelopaa.Hand.lit_conv (xs := ([120] : List Int)) (ys := y115) rfl rfl rfl ?ly ?lm Try.underlying22 Try.underlying5 ?_; (case ly => exact Ny115.out); (case lm => decide); intro Ao45 w43 hc_ hb; have n0_ := Aside0.mk (And.intro (Nat.le_refl y115.length) hc_); have n1_ := Aside0.mk (below_step (by repeat (first | (with_reducible first | exact HB.out | apply below_alloc | apply pw_below_drewN | apply below_drew1) | exact HB.out)) hb); clear HB; have HO117 := n0_; have HB := n1_; clear n0_ n1_; clear hb hc_) | ((with_reducible refine gate_callee (f := 11) rfl ?_); refine goesL_ (some 6) rfl rfl Try.func11 (by kernel_rfl) rfl #[.slice Ao45 y115.length y115.length] rfl (by (try simp only [List.map_toArray, List.map_cons, List.map_nil]); first | done | rfl | (simp only [List.length_drop, List.length_take]; rfl)) ?_; (with_reducible refine (crc_Seal.calls _ _ y115 t118 _ ?side1 ?side2 A1.out).mono ?_); (case side1 => repeat (first | exact HO117.out.2 | (with_reducible refine Kd.C_alloc ?_ _) | (with_reducible refine Kd.C_drewN ?_ _) | (with_reducible refine Kd.C_drew ?_))); (case side2 => exact HO117.out.1); rintro e w46 ⟨v119, rfl, ho0, hb⟩; refine ⟨_, rfl, ?_⟩; have n0_ := True.intro; have n1_ := Aside0.mk (Kd.R_lower ho0 (below_size (by repeat (first | (with_reducible first | exact HB.out | apply below_alloc | apply pw_below_drewN | apply below_drew1) | exact HB.out)))); have n2_ := Aside0.mk (below_step (by repeat (first | (with_reducible first | exact HB.out | apply below_alloc | apply pw_below_drewN | apply below_drew1) | exact HB.out)) hb); clear HO117; clear HB; have HO117 := n0_; have HO120 := n1_; have HB := n2_; clear n0_ n1_ n2_; (try clear hb); (try clear hb2); (try clear hk); (try clear hi); (try clear ho0); obtain ⟨Ao47, co47, eo47⟩ := Kd.R_slice HO120.out; subst eo47) | ((with_reducible refine gate_callee (f := 12) rfl ?_); refine goesL_ (some 7) rfl rfl Try.func12 (by kernel_rfl) rfl #[.slice Ao47 t118.length co47] rfl (by (try simp only [List.map_toArray, List.map_cons, List.map_nil]); first | done | rfl | (simp only [List.length_drop, List.length_take]; rfl)) ?_; (with_reducible refine (crc_Open.calls _ _ t118 t121 t124 _ ?side1 ?side2 A2.out).mono ?_); (case side1 => repeat (first | exact (Kd.R_reads' HO120.out).2.2 | (with_reducible refine Kd.C_alloc ?_ _) | (with_reducible refine Kd.C_drewN ?_ _) | (with_reducible refine Kd.C_drew ?_))); (case side2 => exact (Kd.R_reads' HO120.out).2.1); rintro e w48 ⟨v122, rfl, ho0, hb⟩; refine ⟨_, rfl, ?_⟩; have n0_ := True.intro; have n1_ := Aside0.mk (Kd.R_below (by (with_reducible repeat (first | apply Kd.R_alloc | apply Kd.R_drewN | apply Kd.R_drew)); exact HO120.out) hb); have n2_ := Aside0.mk (Kd.V_lower (Kd.V_mono (ok' := fun k_ => some k_ ≠ (.slice Ao47 t118.length co47 : Value).ownBlock) ho0 (fun k_ hk_ => (Kd.fresh' (Kd.R_lt (by (with_reducible repeat (first | apply Kd.R_alloc | apply Kd.R_drewN | apply Kd.R_drew)); exact HO120.out)) k_ hk_))) (below_size (by repeat (first | (with_reducible first | exact HB.out | apply below_alloc | apply pw_below_drewN | apply below_drew1) | exact HB.out)))); have n3_ := Aside0.mk (below_step (by repeat (first | (with_reducible first | exact HB.out | apply below_alloc | apply pw_below_drewN | apply below_drew1) | exact HB.out)) hb); clear HO117; clear HO120; clear HB; have HO117 := n0_; have HO120 := n1_; have HO123 := n2_; have HB := n3_; clear n0_ n1_ n2_ n3_; (try clear hb); (try clear hb2); (try clear hk); (try clear hi); (try clear ho0)) | ((with_reducible refine gate_dst (N := 11) rfl ?_); refine Go.Proofs.Ytgkdigaieelopaa.Hand.lit_conv (xs := ([49, 50, 51, 52, 53, 54, 55, 56, 57] : List Int)) (ys := y125) rfl rfl rfl ?ly ?lm Try.underlying22 Try.underlying5 ?_; (case ly => exact Ny125.out); (case lm => decide); intro Ao51 w49 hc_ hb; have n0_ := True.intro; have n1_ := Aside0.mk (Kd.R_below (by (with_reducible repeat (first | apply Kd.R_alloc | apply Kd.R_drewN | apply Kd.R_drew)); exact HO120.out) hb); have n2_ := Aside0.mk (Kd.V_below (by (with_reducible repeat (first | apply Kd.V_alloc | apply Kd.V_drewN | apply Kd.V_drew)); exact HO123.out) hb); have n3_ := Aside0.mk (And.intro (Nat.le_refl y125.length) hc_); have n4_ := Aside0.mk (below_step (by repeat (first | (with_reducible first | exact HB.out | apply below_alloc | apply pw_below_drewN | apply below_drew1) | exact HB.out)) hb); clear HO117; clear HO120; clear HO123; clear HB; have HO117 := n0_; have HO120 := n1_; have HO123 := n2_; have HO127 := n3_; have HB := n4_; clear n0_ n1_ n2_ n3_ n4_; clear hb hc_) | ((with_reducible refine gate_callee (f := 10) rfl ?_); refine goesL_ (some 12) rfl rfl Try.func10 (by kernel_rfl) rfl #[.slice Ao51 y125.length y125.length] rfl (by (try simp only [List.map_toArray, List.map_cons, List.map_nil]); first | done | rfl | (simp only [List.length_drop, List.length_take]; rfl)) ?_; (with_reducible refine (crc_Sum.calls _ _ y125 t128 _ ?side1 ?side2 A3.out).mono ?_); (case side1 => repeat (first | exact HO127.out.2 | (with_reducible refine Kd.C_alloc ?_ _) | (with_reducible refine Kd.C_drewN ?_ _) | (with_reducible refine Kd.C_drew ?_))); (case side2 => exact HO127.out.1); rintro e w52 ⟨rfl, hb⟩; refine ⟨_, rfl, ?_⟩; have n0_ := True.intro; have n1_ := Aside0.mk (Kd.R_below (by (with_reducible repeat (first | apply Kd.R_alloc | apply Kd.R_drewN | apply Kd.R_drew)); exact HO120.out) hb); have n2_ := Aside0.mk (Kd.V_below (by (with_reducible repeat (first | apply Kd.V_alloc | apply Kd.V_drewN | apply Kd.V_drew)); exact HO123.out) hb); have n3_ := True.intro; have n4_ := Aside0.mk (below_step (by repeat (first | (with_reducible first | exact HB.out | apply below_alloc | apply pw_below_drewN | apply below_drew1) | exact HB.out)) hb); clear HO117; clear HO120; clear HO123; clear HO127; clear HB; have HO117 := n0_; have HO120 := n1_; have HO123 := n2_; have HO127 := n3_; have HB := n4_; clear n0_ n1_ n2_ n3_ n4_; (try clear hb); (try clear hb2); (try clear hk); (try clear hi)))
    go_ret
    exact ⟨by first | rfl | (simp [errW_none, errW_some] <;> rfl) | (simp [*, errW_none, errW_some] <;> rfl), by repeat (first | (with_reducible first | exact HB.out | apply below_alloc | apply pw_below_drewN | apply below_drew1) | exact HB.out)⟩

end Go.Proofs.Ytgkdigaieelopaa.PCrc

/- Plain facts on sums: a row of bytes as one number; two unlike rows of which only four bytes in a row differ have unlike sums. -/
namespace Go.Proofs.Ytgkdigaieelopaa.Plain

theorem bitN_inj {a b : Nat} (ha : a < 4294967296) (hb : b < 4294967296) (h : bitN a = bitN b) : a = b := by
  have h31 : ∀ n : Nat, n < 4294967296 → (bitN n).testBit 31 = decide (n % 2 = 1) := by
    intro n hn
    unfold bitN
    rw [Nat.testBit_xor, Nat.testBit_lt_two_pow (x := n / 2) (i := 31) (by omega)]
    by_cases h2 : n % 2 = 1
    · rw [if_pos h2, decide_eq_true h2, show polyN.testBit 31 = true from by decide]
      rfl
    · rw [if_neg h2, decide_eq_false h2, Nat.zero_testBit]
      rfl
  have e1 := h31 a ha
  rw [h, h31 b hb] at e1
  have hm : a % 2 = b % 2 := by
    rcases Nat.mod_two_eq_zero_or_one a with h1 | h1 <;> rcases Nat.mod_two_eq_zero_or_one b with h2 | h2 <;> rw [h1, h2] at e1 <;> first | omega | (exact absurd e1 (by decide))
  unfold bitN at h
  rw [hm] at h
  have h9 := congrArg (fun x => x ^^^ (if b % 2 = 1 then polyN else 0)) h
  simp only [Nat.xor_assoc, Nat.xor_self, Nat.xor_zero] at h9
  omega
theorem bitsN_inj (k : Nat) : ∀ {a b : Nat}, a < 4294967296 → b < 4294967296 → bitsN k a = bitsN k b → a = b := by
  induction k with
  | zero => intro a b _ _ h; exact h
  | succ k ih => intro a b ha hb h; exact bitN_inj ha hb (ih (bitN_lt ha) (bitN_lt hb) h)
theorem bitsN_zero (k : Nat) : bitsN k 0 = 0 := by
  induction k with
  | zero => rfl
  | succ k ih => exact ih
theorem xor_cancel_right {a b c : Nat} (h : a ^^^ c = b ^^^ c) : a = b := by
  have h9 := congrArg (fun x => x ^^^ c) h
  simpa only [Nat.xor_assoc, Nat.xor_self, Nat.xor_zero] using h9
theorem xor_cancel_left {a b c : Nat} (h : c ^^^ a = c ^^^ b) : a = b := by
  rw [Nat.xor_comm c a, Nat.xor_comm c b] at h
  exact xor_cancel_right h
theorem stepN_inj {n m c : Nat} (hn : n < 4294967296) (hm : m < 4294967296) (hc : c < 4294967296) (h : stepN n c = stepN m c) : n = m :=
  xor_cancel_right (bitsN_inj 8 (Nat.xor_lt_two_pow (n := 32) hn hc) (Nat.xor_lt_two_pow (n := 32) hm hc) h)
theorem sumN_inj (l : List Int) : ∀ {n m : Nat}, n < 4294967296 → m < 4294967296 → (∀ x ∈ l, 0 ≤ x ∧ x < 256) → sumN n l = sumN m l → n = m := by
  induction l with
  | nil => intro n m _ _ _ h; exact h
  | cons c l ih =>
    intro n m hn hm hl h
    have hc := hl c (.head _)
    have hc' : c.toNat < 4294967296 := by omega
    exact stepN_inj hn hm hc' (ih (stepN_lt hn hc') (stepN_lt hm hc') (fun x hx => hl x (.tail _ hx)) h)

/-- A row of bytes as one number, the least byte first. -/
def numL : List Int → Nat
  | [] => 0
  | c :: r => c.toNat + 256 * numL r
theorem add_xor (c m : Nat) (hc : c < 256) : c + 256 * m = c ^^^ (m * 2 ^ 8) := by
  have h1 := Go.nat_join 8 (m * 2 ^ 8) c (Nat.mul_mod_left _ _) hc
  have h3 : (m * 2 ^ 8) ||| c = (m * 2 ^ 8) ^^^ c := by
    apply Nat.eq_of_testBit_eq
    intro i
    rw [Nat.testBit_or, Nat.testBit_xor, Nat.testBit_mul_two_pow]
    by_cases hi : 8 ≤ i
    · rw [Nat.testBit_lt_two_pow (x := c) (i := i) (Nat.lt_of_lt_of_le hc (Nat.pow_le_pow_right (by omega) hi : 2 ^ 8 ≤ 2 ^ i))]
      simp
    · simp [hi]
  rw [h3, Nat.xor_comm] at h1
  rw [h1]
  omega
theorem sumN_num (l : List Int) : ∀ n : Nat, (∀ x ∈ l, 0 ≤ x ∧ x < 256) → sumN n l = bitsN (8 * l.length) (n ^^^ numL l) := by
  induction l with
  | nil => intro n _; simp [sumN, numL, bitsN]
  | cons c l ih =>
    intro n hl
    have hc := hl c (.head _)
    show sumN (stepN n c.toNat) l = _
    rw [ih _ (fun x hx => hl x (.tail _ hx)), numL, add_xor _ _ (by omega), ← Nat.xor_assoc, List.length_cons, show 8 * (l.length + 1) = 8 + 8 * l.length from by omega, bitsN_add, bitsN_xor 8, bitsN_shl]
    rfl
theorem numL_lt (l : List Int) : (∀ x ∈ l, 0 ≤ x ∧ x < 256) → numL l < 2 ^ (8 * l.length) := by
  induction l with
  | nil => intro _; simp [numL]
  | cons c l ih =>
    intro hl
    have hc := hl c (.head _)
    have := ih (fun x hx => hl x (.tail _ hx))
    rw [numL, List.length_cons, show 8 * (l.length + 1) = 8 * l.length + 8 from by omega, Nat.pow_add]
    omega
theorem numL_append (l r : List Int) : numL (l ++ r) = numL l + 2 ^ (8 * l.length) * numL r := by
  induction l with
  | nil => simp [numL]
  | cons c l ih =>
    rw [List.cons_append, numL, numL, ih, List.length_cons, show 8 * (l.length + 1) = 8 * l.length + 8 from by omega, Nat.pow_add]
    rw [Nat.mul_add, Nat.add_assoc]
    congr 2
    rw [← Nat.mul_assoc, Nat.mul_comm 256, show (2 : Nat) ^ 8 = 256 from rfl]
/-- One bit turned. -/
theorem numL_turn (l : List Int) : ∀ (j b v : Nat), j < l.length → b < 8 → (∀ x ∈ l, 0 ≤ x ∧ x < 256) → v = (l.getD j 0).toNat ^^^ 2 ^ b → numL (l.set j (v : Int)) = numL l ^^^ 2 ^ (8 * j + b) := by
  induction l with
  | nil => intro j b v hj; simp at hj
  | cons c l ih =>
    intro j b v hj hb hl hv
    have hc := hl c (.head _)
    have hp : 2 ^ b ≤ 2 ^ 7 := Nat.pow_le_pow_right (by omega) (by omega)
    cases j with
    | zero =>
      have hv' : v < 256 := by
        rw [hv]
        exact Nat.xor_lt_two_pow (n := 8) (by simp; omega) (by omega)
      rw [List.set_cons_zero, numL, numL, Int.toNat_natCast, add_xor _ _ hv', add_xor _ _ (by omega), hv]
      simp only [List.getD_cons_zero, Nat.mul_zero, Nat.zero_add]
      rw [Nat.xor_assoc, Nat.xor_comm (2 ^ b), ← Nat.xor_assoc]
    | succ j =>
      have := ih j b v (by simpa using hj) hb (fun x hx => hl x (.tail _ hx)) (by simpa using hv)
      rw [List.set_cons_succ, numL, numL, this, add_xor _ _ (by omega), add_xor _ _ (by omega)]
      have e : (numL l ^^^ 2 ^ (8 * j + b)) * 2 ^ 8 = numL l * 2 ^ 8 ^^^ 2 ^ (8 * (j + 1) + b) := by
        have h9 := Nat.shiftLeft_xor_distrib (a := numL l) (b := 2 ^ (8 * j + b)) (i := 8)
        simp only [Nat.shiftLeft_eq] at h9
        rw [h9, ← Nat.pow_add, show 8 * j + b + 8 = 8 * (j + 1) + b from by omega]
      rw [e, Nat.xor_assoc]
/-- What is not nought and no longer than 32 bits is found, wherever it lies. -/
theorem burst_found {P k L : Nat} (hP : P < 4294967296) (hk : k ≤ L) (h : bitsN L (P * 2 ^ k) = 0) : P = 0 := by
  obtain ⟨m, rfl⟩ : ∃ m, L = k + m := ⟨L - k, by omega⟩
  rw [bitsN_add, bitsN_shl] at h
  exact bitsN_inj m hP (by omega) (by rw [h, bitsN_zero])
end Go.Proofs.Ytgkdigaieelopaa.Plain

/- What the printed crc.Sum, crc.Seal, crc.Open and awake tell, in plain words. -/
namespace Go.Proofs.Ytgkdigaieelopaa.Plain
open Go.RowKit Go.Proofs.YtgkdigaieelopaaW.PrintWords Go.Proofs.YtgkdigaieelopaaW.PrintLast Go.Proofs.YtgkdigaieelopaaW.PrintMore
open Go.Proofs.Ytgkdigaieelopaa.PCrc
open Go.Proofs.Ytgkdigaieelopaa.Hand (moreF sealF ownF tailL sum_f tail_f)
set_option linter.unusedVariables false
set_option linter.unusedSimpArgs false

theorem tailL_isB (n : Nat) : isB (tailL n) := by
  intro x hx
  simp only [tailL, List.mem_cons, List.not_mem_nil, or_false] at hx
  omega
theorem tailL_length (n : Nat) : (tailL n).length = 4 := rfl
theorem numL_tail {n : Nat} (h : n < 4294967296) : numL (tailL n) = n := by
  simp only [tailL, numL, Int.toNat_natCast]
  omega
theorem tail_numL {t : List Int} (h : isB t) (hl : t.length = 4) : tailL (numL t) = t := by
  obtain ⟨a, b, c, d, rfl⟩ : ∃ a b c d, t = [a, b, c, d] := by
    match t, hl with
    | [a, b, c, d], _ => exact ⟨a, b, c, d, rfl⟩
  have ha := h a (by simp)
  have hb := h b (by simp)
  have hc := h c (by simp)
  have hd := h d (by simp)
  simp only [tailL, numL, List.cons.injEq, and_true]
  omega
theorem ones_lt : ones < 4294967296 := by decide
theorem moreN0 (l : List Int) : moreN 0 l = sumN ones l ^^^ ones := by
  unfold moreN
  rw [Nat.zero_xor]
/-- When four bytes are the sum of what lies ahead of them. -/
theorem sealed_iff {p t : List Int} (hp : isB p) (ht : isB t) (hl : t.length = 4) : tailL (moreN 0 p) = t ↔ sumN ones (p ++ t) = bitsN 32 ones := by
  have hm := moreN_lt (s := 0) (by omega) hp
  have hs : sumN ones p < 4294967296 := sumN_lt p ones_lt hp
  have hn : numL t < 4294967296 := by have := numL_lt t ht; rw [hl] at this; exact this
  have e : sumN ones (p ++ t) = bitsN 32 (sumN ones p ^^^ numL t) := by
    rw [sumN_append, sumN_num t _ ht, hl]
  rw [e]
  constructor
  · intro h
    rw [← h, numL_tail hm, moreN0, ← Nat.xor_assoc, Nat.xor_self, Nat.zero_xor]
  · intro h
    have h9 := bitsN_inj 32 (Nat.xor_lt_two_pow (n := 32) hs hn) ones_lt h
    have h8 : moreN 0 p = numL t := by
      have h7 := congrArg (fun x => sumN ones p ^^^ x) h9
      simp only [← Nat.xor_assoc, Nat.xor_self, Nat.zero_xor] at h7
      rw [moreN0, h7]
    rw [h8, tail_numL ht hl]

/-- What crc.Open tells. -/
def openL (l : List Int) : List Int × Int := if l.length < 4 then ([], 4) else if tailL (moreN 0 (l.take (l.length - 4))) = l.drop (l.length - 4) then (l.take (l.length - 4), 0) else ([], 5)
theorem open_f {l : List Int} (hb : isB l) (hl : l.length ≤ 140737488355328) : crc_Open.f l = some (openL l) := by
  unfold crc_Open.f openL
  rw [w64 (by omega) (by omega)]
  by_cases h4 : l.length < 4
  · rw [if_pos (by omega), if_pos h4]
  · have e : ((l.length : Int) - 4).toNat = l.length - 4 := by omega
    have e0 : (l.length : Int) - 4 = ((l.length - 4 : Nat) : Int) := by omega
    rw [if_neg (by omega), if_pos (by omega), if_pos (by omega), if_neg h4, e, sum_f (isB_take hb _) (by rw [List.length_take]; omega), Option.bind_some, tail_f, Option.bind_some]
    by_cases ht : tailL (moreN 0 (l.take (l.length - 4))) = l.drop (l.length - 4)
    · rw [if_pos ht, ht, if_pos rfl]
      unfold num_Own.f ownF
      rw [if_pos (by rw [List.length_take]; omega)]
      rfl
    · rw [if_neg ht, if_neg]
      intro h
      exact ht (strOfNums_inj (tailL_isB _) (isB_drop hb _) h)
theorem openL_seal (l : List Int) : openL (l ++ tailL (moreN 0 l)) = (l, 0) := by
  unfold openL
  have e : (l ++ tailL (moreN 0 l)).length = l.length + 4 := by rw [List.length_append, tailL_length]
  rw [if_neg (by omega), e, show l.length + 4 - 4 = l.length from by omega, List.take_left, List.drop_left, if_pos rfl]
theorem seal_f {l : List Int} (hb : isB l) (hl : l.length ≤ 140737488355000) : crc_Seal.f l = some (l ++ tailL (moreN 0 l)) := by
  unfold crc_Seal.f sealF
  rw [if_pos ⟨hb, hl⟩]
theorem sealed_isB {l : List Int} (hb : isB l) : isB (l ++ tailL (moreN 0 l)) := isB_append hb (tailL_isB _)
/-- awake tells true. -/
theorem awake_f : concordancelaw2_awake.f = some true := by
  unfold concordancelaw2_awake.f
  have h1 : isB [120] := by intro x hx; simp at hx; omega
  have h2 : isB [49, 50, 51, 52, 53, 54, 55, 56, 57] := by intro x hx; simp at hx; omega
  have e : moreN 0 [49, 50, 51, 52, 53, 54, 55, 56, 57] = 3808858755 := by decide +kernel
  rw [seal_f h1 (by simp), Option.bind_some, open_f (sealed_isB h1) (by rw [List.length_append, tailL_length]; simp), Option.bind_some, openL_seal, sum_f h2 (by simp), e, Option.bind_some, if_pos (by decide), sum_f (by intro x hx; simp at hx) (by simp), Option.bind_some, if_pos (by decide)]
  decide +kernel
end Go.Proofs.Ytgkdigaieelopaa.Plain

/- concordancelaw2.CrcParts, walked by hand: a text that is cut at two places has the sum of the whole. -/
namespace Go.Proofs.Ytgkdigaieelopaa.Hand
open Go.RowKit Go.Proofs.YtgkdigaieelopaaW.PrintWords Go.Proofs.YtgkdigaieelopaaW.PrintLast Go.Proofs.YtgkdigaieelopaaW.PrintMore
open Go.Proofs.Ytgkdigaieelopaa.Plain Go.Proofs.Ytgkdigaieelopaa.PCrc
attribute [local go_sem] max2_int min2_int max_two min_two
set_option linter.unusedVariables false
set_option linter.unusedSimpArgs false

theorem more_f {s : Nat} {l : List Int} (hs : s < 4294967296) (hb : isB l) (hl : l.length ≤ 140737488355328) : crc_More.f (s : Int) l = some ((moreN s l : Nat) : Int) := by
  unfold crc_More.f moreF
  rw [if_pos ⟨⟨by omega, by omega⟩, hb, hl⟩]
  rfl
theorem parts_f {x y z : List Int} (hx : isB x) (hy : isB y) (hz : isB z) (lx : x.length ≤ 140737488355328) (ly : y.length ≤ 140737488355328) (lz : z.length ≤ 140737488355328) : crc_Parts.f 5 [x, y, z] = some ((moreN 0 (x ++ y ++ z) : Nat) : Int) := by
  unfold crc_Parts.f
  simp only [List.length_cons, List.length_nil]
  have m1 := more_f (s := 0) (by omega) hx lx
  have b1 := moreN_lt (s := 0) (by omega) hx
  have m2 := more_f b1 hy ly
  have b2 := moreN_lt b1 hy
  have m3 := more_f b2 hz lz
  rw [crc_Parts.l0, if_pos (by omega), if_pos (by omega), if_pos (by simp), show rd_L1 [x, y, z] 0 = x from rfl, show (0 : Int) = ((0 : Nat) : Int) from rfl, m1, Option.bind_some, show wrap64 (((0 : Nat) : Int) + 1) = 1 from by unfold wrap64; omega,
    crc_Parts.l0, if_pos (by omega), if_pos (by omega), if_pos (by simp), show rd_L1 [x, y, z] 1 = y from rfl, m2, Option.bind_some, show wrap64 (1 + 1) = 2 from by unfold wrap64; omega,
    crc_Parts.l0, if_pos (by omega), if_pos (by omega), if_pos (by simp), show rd_L1 [x, y, z] 2 = z from rfl, m3, Option.bind_some, show wrap64 (2 + 1) = 3 from by unfold wrap64; omega,
    crc_Parts.l0, if_neg (by omega), moreN_append, moreN_append, List.append_assoc]
/-- Three rows in a literal. -/
theorem C_three {W : World} {g t : Nat} {A1 A2 A3 : Option Addr} {c1 c2 c3 : Nat} {x y z : List Int} (h : W.heap[g]? = some (.cells #[.slice A1 x.length c1, .slice A2 y.length c2, .slice A3 z.length c3] t (0, 0)))
    (l1 : x.length ≤ c1) (l2 : y.length ≤ c2) (l3 : z.length ≤ c3) (h1 : Kd.C (Kd.int .u8) W A1 x.length x) (h2 : Kd.C (Kd.int .u8) W A2 y.length y) (h3 : Kd.C (Kd.int .u8) W A3 z.length z) :
    Kd.C (Kd.slice 5 (Kd.int .u8)) W (some ⟨g, 0, none⟩) [x, y, z].length [x, y, z] := by
  refine ⟨rfl, by simp, fun _ => ⟨_, rfl, fun j p hj => ?_⟩⟩
  have hc : ∀ m v, #[Value.slice A1 x.length c1, .slice A2 y.length c2, .slice A3 z.length c3][m]? = some v → ∀ i u, [v][i]? = some u → W.cell? (Addr.add ⟨g, 0, none⟩ (m * 1 + i)) = some u := by
    intro m v hm i u hu
    obtain ⟨rfl, rfl⟩ : i = 0 ∧ v = u := by
      rcases i with _ | i
      · simpa using hu
      · simp at hu
    rw [add_plain, blk_cell h]
    simpa using hm
  match j, hj with
  | 0, hj => cases hj; exact ⟨_, rfl, ⟨A1, c1, rfl, l1, h1⟩, hc 0 _ rfl⟩
  | 1, hj => cases hj; exact ⟨_, rfl, ⟨A2, c2, rfl, l2, h2⟩, hc 1 _ rfl⟩
  | 2, hj => cases hj; exact ⟨_, rfl, ⟨A3, c3, rfl, l3, h3⟩, hc 2 _ rfl⟩
  | j + 3, hj => simp at hj

def partsF (l : List Int) (i k : Int) : Option Bool := if ∀ x ∈ l, 0 ≤ x ∧ x < 256 then some true else none

def parts.T7 : Bool × List (List Nat × List Nat) := (true, [([], []), ([], []), ([0, 1], [0, 1]), ([], []), ([], []), ([], []), ([3, 4, 5], [3, 4, 5]), ([], []), ([], []), ([7, 8], [7, 8]), ([2, 6, 9], [2, 6, 9]), ([10], [10]), ([], []), ([11, 12], [11, 12]), ([13, 11], [13]), ([14], [14]), ([14], [14]), ([15, 16, 14], [14, 15, 16]), ([17, 14, 14], [14, 17]), ([14], [14]), ([14], [14]), ([14], [14]), ([19, 20, 21, 14], [14, 19, 20, 21]), ([18, 22, 18, 14], [14, 18, 22]), ([14], [14]), ([14], [14]), ([24, 25, 14], [14, 24, 25]), ([23, 26, 23, 14], [14, 23, 26]), ([14], [14]), ([27, 28, 14], [14, 27, 28]), ([14, 29], [14, 29]), ([30, 27], [30]), ([31], [31]), ([32, 31, 31], [31, 32]), ([31], [31]), ([33, 34, 31], [31, 33, 34]), ([31, 35], [31, 35]), ([36, 33], [36]), ([37, 37], [37]), ([37, 38], [37, 38]), ([39, 38, 0, 1, 2, 3, 4, 5, 6, 7, 8, 9, 10, 11, 12, 13, 14, 15, 16, 17, 18, 19, 20, 21, 22, 23, 24, 25, 26, 27, 28, 29, 30, 31, 32, 33, 34, 35, 36, 37, 38, 39], [39])])
def parts.B7 : List Nat := [0, 0, 3, 0, 0, 0, 56, 0, 0, 384, 1023, 2047, 0, 8191, 16383, 32767, 32767, 131071, 262143, 32767, 32767, 32767, 3702783, 8388607, 32767, 32767, 50364415, 134217727, 32767, 536870911, 1073741823, 2147483647, 4294967295, 8589934591, 4294967295, 34359738367, 68719476735, 137438953471, 274877906943, 549755813887, 1099511627775]
theorem parts.tab7 : rtab .any (opsOf Try.f8 7) = parts.T7 := by kernel_rfl
theorem parts.bits7 : waitsOk parts.T7.2 parts.B7 = true := by kernel_rfl

set_option maxHeartbeats 4000000 in
set_option maxRecDepth 100000 in
theorem parts_calls (A0 : Option Addr) (c0 : Nat) (l0 : List Int) (a1 a2 : Int) (r : Bool) (w : World) (hr0 : Kd.C (Kd.int .u8) w A0 l0.length l0) (hc0 : l0.length ≤ c0) (h : partsF l0 a1 a2 = some r) :
    Calls Try.prog 8 #[.slice A0 l0.length c0, .int .i64 a1, .int .i64 a2] w fun e w' => e = .returned (.bool r) ∧ Below w.heap.size w w' := by
  unfold partsF at h
  by_cases hb : ∀ x ∈ l0, 0 ≤ x ∧ x < 256
  · rw [if_pos hb] at h
    obtain rfl := Option.some.inj h
    clear h
    have HBY := Aside0.mk (show isB l0 from hb)
    have HR := Aside0.mk hr0
    clear hb hr0
    by_cases hl : (l0.length : Int) > 5000
    · have d1 : decide (5000 < (l0.length : Int)) = true := decide_eq_true hl
      go_enter Try.func8, Try.ntmps8
      go_wp2_with (go_at_call 9; refine (concordancelaw2_awake.calls _ _ awake_f).mono ?_; rintro e w1 ⟨rfl, hb⟩; have HB := Aside0.mk hb; clear hb)
      go_ret
      exact ⟨rfl, HB.out⟩
    · have d1 : decide (5000 < (l0.length : Int)) = false := decide_eq_false hl
      have hw1 : wrap64 ((l0.length : Int) + 1) = (l0.length : Int) + 1 := by unfold wrap64; omega
      have hand : ∀ a : Int, ∃ N : Nat, Int.tmod (Go.bits .and .i64 a 65535) ((l0.length : Int) + 1) = (N : Int) ∧ N ≤ l0.length := by
        intro a
        have e := and_low a 16 (by omega)
        rw [show ((2 ^ 16 - 1 : Nat) : Int) = 65535 from rfl, show ((2 ^ 16 : Nat) : Int) = 65536 from rfl] at e
        rw [e, Int.tmod_eq_emod_of_nonneg (by omega)]
        have h1 := Int.emod_nonneg (a % 65536) (b := (l0.length : Int) + 1) (by omega)
        have h2 := Int.emod_lt_of_pos (a % 65536) (b := (l0.length : Int) + 1) (by omega)
        exact ⟨((a % 65536) % ((l0.length : Int) + 1)).toNat, by omega, by omega⟩
      obtain ⟨i, hi, hil⟩ := hand a1
      obtain ⟨k, hk, hkl⟩ := hand a2
      have HL := Aside0.mk (show l0.length ≤ 5000 by omega)
      have HIL := Aside0.mk hil
      have HKL := Aside0.mk hkl
      clear hl hil hkl hand
      by_cases hik : (k : Int) < (i : Int)
      · have d2 : decide ((k : Int) < (i : Int)) = true := decide_eq_true hik
        have d3 : decide (k < i) = true := decide_eq_true (by omega)
        have HIK := Aside0.mk hik
        have hsum := sum_f HBY.out (by have := HL.out; omega)
        have hparts := parts_f (isB_take HBY.out k) (isB_drop (isB_take HBY.out i) k) (isB_drop HBY.out i) (by have := HL.out; rw [List.length_take]; omega) (by have := HL.out; rw [List.length_drop, List.length_take]; omega) (by have := HL.out; rw [List.length_drop]; omega)
        have happ : l0.take k ++ (l0.take i).drop k ++ l0.drop i = l0 := by
          have h1 : l0.take k = (l0.take i).take k := by rw [List.take_take, Nat.min_eq_left (by omega)]
          rw [h1, List.take_append_drop, List.take_append_drop]
        rw [happ] at hparts
        have hs1 := sum_f (l := l0.take k) (isB_take HBY.out k) (by have := HL.out; rw [List.length_take]; omega)
        have b1 := moreN_lt (s := 0) (by omega) (isB_take HBY.out k)
        have hm2 := more_f b1 (isB_drop (isB_take HBY.out i) k) (by have := HL.out; rw [List.length_drop, List.length_take]; omega)
        have b2 := moreN_lt b1 (isB_drop (isB_take HBY.out i) k)
        have hm3 := more_f b2 (isB_drop HBY.out i) (by have := HL.out; rw [List.length_drop]; omega)
        rw [moreN_append, moreN_append, happ] at hm3
        have hm0 : crc_More.f 0 l0 = some ((moreN 0 l0 : Nat) : Int) := more_f (s := 0) (by omega) HBY.out (by have := HL.out; omega)
        obtain ⟨m1, e1⟩ : ∃ m1, moreN 0 (l0.take k) = m1 := ⟨_, rfl⟩
        rw [e1] at hs1 hm2
        obtain ⟨m2, e2⟩ : ∃ m2, moreN m1 ((l0.take i).drop k) = m2 := ⟨_, rfl⟩
        rw [← moreN_append, e1, e2] at hm3
        rw [e2] at hm2
        obtain ⟨i0, hi0, _, hsz0, _⟩ := info_parts hinfo_u8
        obtain ⟨hcut1, hA1, hC1⟩ := print_take_of (P := Try.prog) (Value.int .u8) 0 22 5 .i64 Try.underlying22 hi0 hsz0 A0 c0 l0 (k : Int) (by omega) (by have := HIL.out; have := HKL.out; omega) hc0
        obtain ⟨A2, hcut2, hA2, hC2⟩ := print_mid_of (P := Try.prog) (Value.int .u8) 0 22 5 .i64 .i64 Try.underlying22 hi0 hsz0 A0 c0 l0 (k : Int) (i : Int) (by omega) (by omega) (by have := HIL.out; have := HKL.out; omega) hc0
        obtain ⟨A3, hcut3, hA3, hC3⟩ := print_drop_of (P := Try.prog) (Value.int .u8) 0 22 5 .i64 Try.underlying22 hi0 hsz0 A0 c0 l0 (i : Int) (by omega) (by have := HIL.out; have := HKL.out; omega) hc0
        have hR1 := Kd.C_of_reads (h1 := fun _ => rfl) (hA1 _ (Kd.reads_of_C HR.out))
        have hR2 := Kd.C_of_reads (h1 := fun _ => rfl) (hA2 _ (Kd.reads_of_C HR.out))
        have hR3 := Kd.C_of_reads (h1 := fun _ => rfl) (hA3 _ (Kd.reads_of_C HR.out))
        simp only [Int.toNat_natCast] at hcut1 hcut2 hcut3 hR1 hR2 hR3 hC1 hC2 hC3
        have HC1 := Aside0.mk hC1
        have HC2 := Aside0.mk hC2
        have HC3 := Aside0.mk hC3
        obtain ⟨x1, ex1⟩ : ∃ x, l0.take k = x := ⟨_, rfl⟩
        obtain ⟨x2, ex2⟩ : ∃ x, (l0.take i).drop k = x := ⟨_, rfl⟩
        obtain ⟨x3, ex3⟩ : ∃ x, l0.drop i = x := ⟨_, rfl⟩
        rw [ex1] at hs1 hparts hcut1 hR1 HC1
        rw [ex2] at hm2 hparts hcut2 hR2 HC2
        rw [ex3] at hm3 hparts hcut3 hR3 HC3
        obtain ⟨m, em⟩ : ∃ m, moreN 0 l0 = m := ⟨_, rfl⟩
        rw [em] at hsum hparts hm3 hm0
        have HR1 : Aside0 (Kd.C (Kd.int .u8) w A0 x1.length x1) := ⟨hR1⟩
        have HR2 : Aside0 (Kd.C (Kd.int .u8) w A2 x2.length x2) := ⟨hR2⟩
        have HR3 : Aside0 (Kd.C (Kd.int .u8) w A3 x3.length x3) := ⟨hR3⟩
        clear hR1 hR2 hR3
        have HSUM := Aside0.mk hsum
        have HPARTS := Aside0.mk hparts
        have HS1 := Aside0.mk hs1
        have HM2 := Aside0.mk hm2
        have HM3 := Aside0.mk hm3
        have HM0 := Aside0.mk hm0
        clear hsum hparts hs1 hm2 hm3 hm0 b1 b2 happ e1 e2 em ex1 ex2 ex3 hi0 hsz0 hA1 hA2 hA3 hC1 hC2 hC3 hik
        go_enter Try.func8, Try.ntmps8
        go_wp2
        go_quiet (fail)
        go_wp2_with (go_at_call 10; refine (crc_Sum.calls _ _ l0 _ _ (Kd.C_drewN HR.out _) hc0 HSUM.out).mono ?_; rintro e w1 ⟨rfl, hb⟩; have HB := Aside0.mk (below_step (pw_below_drewN (Below.refl _ _) _) hb); clear hb)
        refine start_ (n := 41) (S := fun _ => True) (ds := []) #[false, false, false, false, false, false, false, false, false, false, false, false, false, false, false, false, false, false, false, false, false, false, false, false, false, false, false, false, false, false, false, false, false, false, false, false, false, false, false, false, false] (by kernel_rfl) rfl rfl trivial (fun hHeld => ?_)
        refine with_tabW parts.tab7 parts.bits7 (fun HT_ HW_ => ?_)
        replace HB := Aside0.mk (below_drew1 HB.out)
        generalize w1.drew = w2 at HB ⊢
        refine pure_ (i := 0) (N := some 31) (v := ?_) (a' := ?_) #[true, false, false, false, false, false, false, false, false, false, false, false, false, false, false, false, false, false, false, false, false, false, false, false, false, false, false, false, false, false, false, false, false, false, false, false, false, false, false, false, false] rfl rfl (any_of HT_.out (by kernel_rfl)) (fun _ _ _ h => h) (Or.inl ⟨by rfl, ?_⟩) ?_ ?_
        rotate_left
        · intro w'
          go_simp
          with_reducible rfl
        rotate_left
        · simp only [Act.put, List.setIfInBounds_toArray, List.set_cons_zero, List.set_cons_succ, i64_w, i32_w]
          rfl
        refine pure_ (i := 1) (N := some 32) (v := ?_) (a' := ?_) #[true, true, false, false, false, false, false, false, false, false, false, false, false, false, false, false, false, false, false, false, false, false, false, false, false, false, false, false, false, false, false, false, false, false, false, false, false, false, false, false, false] rfl rfl (any_of HT_.out (by kernel_rfl)) (fun _ _ _ h => h) (Or.inl ⟨by rfl, ?_⟩) ?_ ?_
        rotate_left
        · intro w'
          go_simp
          with_reducible rfl
        rotate_left
        · simp only [Act.put, List.setIfInBounds_toArray, List.set_cons_zero, List.set_cons_succ, i64_w, i32_w]
          rfl
        refine pure_ (i := 2) (N := some 33) (v := ?_) (a' := ?_) #[true, true, true, false, false, false, false, false, false, false, false, false, false, false, false, false, false, false, false, false, false, false, false, false, false, false, false, false, false, false, false, false, false, false, false, false, false, false, false, false, false] rfl rfl (any_of HT_.out (by kernel_rfl)) (fun _ _ _ h => h) (Or.inl ⟨by rfl, ?_⟩) ?_ ?_
        rotate_left
        · intro w'
          go_simp
          with_reducible rfl
        rotate_left
        · simp only [Act.put, List.setIfInBounds_toArray, List.set_cons_zero, List.set_cons_succ, i64_w, i32_w]
          rfl
        refine pure_ (i := 3) (N := some 34) (v := ?_) (a' := ?_) #[true, true, true, true, false, false, false, false, false, false, false, false, false, false, false, false, false, false, false, false, false, false, false, false, false, false, false, false, false, false, false, false, false, false, false, false, false, false, false, false, false] rfl rfl (any_of HT_.out (by kernel_rfl)) (fun _ _ _ h => h) (Or.inl ⟨by rfl, ?_⟩) ?_ ?_
        rotate_left
        · intro w'
          go_simp
          with_reducible rfl
        rotate_left
        · simp only [Act.put, List.setIfInBounds_toArray, List.set_cons_zero, List.set_cons_succ, i64_w, i32_w]
          rfl
        refine pure_ (i := 4) (N := some 35) (v := ?_) (a' := ?_) #[true, true, true, true, true, false, false, false, false, false, false, false, false, false, false, false, false, false, false, false, false, false, false, false, false, false, false, false, false, false, false, false, false, false, false, false, false, false, false, false, false] rfl rfl (any_of HT_.out (by kernel_rfl)) (fun _ _ _ h => h) (Or.inl ⟨by rfl, ?_⟩) ?_ ?_
        rotate_left
        · intro w'
          go_simp
          with_reducible rfl
        rotate_left
        · simp only [Act.put, List.setIfInBounds_toArray, List.set_cons_zero, List.set_cons_succ, i64_w, i32_w]
          rfl
        refine pure_ (i := 5) (N := some 36) (v := ?_) (a' := ?_) #[true, true, true, true, true, true, false, false, false, false, false, false, false, false, false, false, false, false, false, false, false, false, false, false, false, false, false, false, false, false, false, false, false, false, false, false, false, false, false, false, false] rfl rfl (any_of HT_.out (by kernel_rfl)) (fun _ _ _ h => h) (Or.inl ⟨by rfl, ?_⟩) ?_ ?_
        rotate_left
        · intro w'
          go_simp
          with_reducible rfl
        rotate_left
        · simp only [Act.put, List.setIfInBounds_toArray, List.set_cons_zero, List.set_cons_succ, i64_w, i32_w]
          rfl
        refine pure_ (i := 6) (N := some 37) (v := ?_) (a' := ?_) #[true, true, true, true, true, true, true, false, false, false, false, false, false, false, false, false, false, false, false, false, false, false, false, false, false, false, false, false, false, false, false, false, false, false, false, false, false, false, false, false, false] rfl rfl (any_of HT_.out (by kernel_rfl)) (fun _ _ _ h => h) (Or.inl ⟨by rfl, ?_⟩) ?_ ?_
        rotate_left
        · intro w'
          go_simp
          with_reducible rfl
        rotate_left
        · simp only [Act.put, List.setIfInBounds_toArray, List.set_cons_zero, List.set_cons_succ, i64_w, i32_w]
          rfl
        refine pure_ (i := 7) (N := some 38) (v := ?_) (a' := ?_) #[true, true, true, true, true, true, true, true, false, false, false, false, false, false, false, false, false, false, false, false, false, false, false, false, false, false, false, false, false, false, false, false, false, false, false, false, false, false, false, false, false] rfl rfl (any_of HT_.out (by kernel_rfl)) (fun _ _ _ h => h) (Or.inl ⟨by rfl, ?_⟩) ?_ ?_
        rotate_left
        · intro w'
          go_simp
          with_reducible rfl
        rotate_left
        · simp only [Act.put, List.setIfInBounds_toArray, List.set_cons_zero, List.set_cons_succ, i64_w, i32_w]
          rfl
        refine pure_ (i := 8) (N := some 39) (v := ?_) (a' := ?_) #[true, true, true, true, true, true, true, true, true, false, false, false, false, false, false, false, false, false, false, false, false, false, false, false, false, false, false, false, false, false, false, false, false, false, false, false, false, false, false, false, false] rfl rfl (any_of HT_.out (by kernel_rfl)) (fun _ _ _ h => h) (Or.inl ⟨by rfl, ?_⟩) ?_ ?_
        rotate_left
        · intro w'
          go_simp
          with_reducible rfl
        rotate_left
        · simp only [Act.put, List.setIfInBounds_toArray, List.set_cons_zero, List.set_cons_succ, i64_w, i32_w]
          rfl
        refine pure_ (i := 9) (N := some 40) (v := ?_) (a' := ?_) #[true, true, true, true, true, true, true, true, true, true, false, false, false, false, false, false, false, false, false, false, false, false, false, false, false, false, false, false, false, false, false, false, false, false, false, false, false, false, false, false, false] rfl rfl (any_of HT_.out (by kernel_rfl)) (fun _ _ _ h => h) (Or.inl ⟨by rfl, ?_⟩) ?_ ?_
        rotate_left
        · intro w'
          go_simp
          with_reducible rfl
        rotate_left
        · simp only [Act.put, List.setIfInBounds_toArray, List.set_cons_zero, List.set_cons_succ, i64_w, i32_w]
          rfl
        refine pure_ (i := 12) (N := some 43) (v := ?_) (a' := ?_) #[true, true, true, true, true, true, true, true, true, true, false, false, true, false, false, false, false, false, false, false, false, false, false, false, false, false, false, false, false, false, false, false, false, false, false, false, false, false, false, false, false] rfl rfl (any_of HT_.out (by kernel_rfl)) (fun _ _ _ h => h) (Or.inl ⟨by rfl, ?_⟩) ?_ ?_
        rotate_left
        · intro w'
          go_simp
          with_reducible rfl
        rotate_left
        · simp only [Act.put, List.setIfInBounds_toArray, List.set_cons_zero, List.set_cons_succ, i64_w, i32_w]
          rfl
        refine one_ (i := 10) (N := some 41) #[true, true, true, true, true, true, true, true, true, true, true, false, true, false, false, false, false, false, false, false, false, false, false, false, false, false, false, false, false, false, false, false, false, false, false, false, false, false, false, false, false] rfl rfl (one_of HT_.out (by kernel_rfl)) (by decide) (fun K hK => ?_)
        refine value_ (v := .slice (some ⟨w2.heap.size, 0, none⟩) 3 3) (w1 := w2.alloc (.cells #[.slice A0 x1.length c0, .slice A2 x2.length (c0 - k), .slice A3 x3.length (c0 - i)] 22)) (by rfl) rfl ?_ ?_
        · go_simp
        have HT := Aside0.mk (C_three (blk_new w2 (.cells #[.slice A0 x1.length c0, .slice A2 x2.length (c0 - k), .slice A3 x3.length (c0 - i)] 22)) HC1.out HC2.out HC3.out (Kd.C_alloc (Kd.C_below HR1.out HB.out) _) (Kd.C_alloc (Kd.C_below HR2.out HB.out) _) (Kd.C_alloc (Kd.C_below HR3.out HB.out) _))
        replace HB := Aside0.mk (below_alloc HB.out (.cells #[.slice A0 x1.length c0, .slice A2 x2.length (c0 - k), .slice A3 x3.length (c0 - i)] 22))
        refine hK.out _ _ trivial (fun hHeld => ?_)
        clear hK K
        refine norm_ (a' := ?_) ?_ ?_
        rotate_left
        · show Act.put _ (some 41) _ = _
          simp only [Act.put, List.setIfInBounds_toArray, List.set_cons_zero, List.set_cons_succ, i64_w, i32_w]
          rfl
        refine one_ (i := 11) (N := some 42) #[true, true, true, true, true, true, true, true, true, true, true, true, true, false, false, false, false, false, false, false, false, false, false, false, false, false, false, false, false, false, false, false, false, false, false, false, false, false, false, false, false] rfl rfl (one_of HT_.out (by kernel_rfl)) (by decide) (fun K hK => ?_)
        refine goes_ Try.func15 (by kernel_rfl) rfl #[.slice (some ⟨w2.heap.size, 0, none⟩) 3 3] (by rfl) rfl rfl (by (try simp only [List.map_toArray, List.map_cons, List.map_nil]); first | done | rfl) ?_
        refine (crc_Parts.calls 5 _ 3 [x1, x2, x3] _ _ HT.out (Nat.le_refl _) HPARTS.out).mono ?_
        rintro e w3 ⟨rfl, hb⟩
        refine ⟨_, rfl, ?_⟩
        replace HB := Aside0.mk (below_step HB.out hb)
        clear hb HT
        refine hK.out _ _ trivial (fun hHeld => ?_)
        clear hK K
        refine norm_ (a' := ?_) ?_ ?_
        rotate_left
        · show Act.put _ (some 42) _ = _
          simp only [Act.put, List.setIfInBounds_toArray, List.set_cons_zero, List.set_cons_succ, i64_w, i32_w]
          rfl
        refine pure_ (i := 13) (N := some 44) (v := ?_) (a' := ?_) #[true, true, true, true, true, true, true, true, true, true, true, true, true, true, false, false, false, false, false, false, false, false, false, false, false, false, false, false, false, false, false, false, false, false, false, false, false, false, false, false, false] rfl rfl (any_of HT_.out (by kernel_rfl)) (fun _ _ _ h => h) (Or.inl ⟨by rfl, ?_⟩) ?_ ?_
        rotate_left
        · intro w'
          go_simp
          with_reducible rfl
        rotate_left
        · simp only [Act.put, List.setIfInBounds_toArray, List.set_cons_zero, List.set_cons_succ, i64_w, i32_w]
          rfl
        refine pure_ (i := 14) (N := some 45) (v := ?_) (a' := ?_) #[true, true, true, true, true, true, true, true, true, true, true, true, true, true, true, false, false, false, false, false, false, false, false, false, false, false, false, false, false, false, false, false, false, false, false, false, false, false, false, false, false] rfl rfl (any_of HT_.out (by kernel_rfl)) (fun _ _ _ h => h) (Or.inl ⟨by rfl, ?_⟩) ?_ ?_
        rotate_left
        · intro w'
          go_simp
          with_reducible rfl
        rotate_left
        · simp only [Act.put, List.setIfInBounds_toArray, List.set_cons_zero, List.set_cons_succ, i64_w, i32_w]
          rfl
        refine pure_ (i := 15) (N := some 46) (v := ?_) (a' := ?_) #[true, true, true, true, true, true, true, true, true, true, true, true, true, true, true, true, false, false, false, false, false, false, false, false, false, false, false, false, false, false, false, false, false, false, false, false, false, false, false, false, false] rfl rfl (any_of HT_.out (by kernel_rfl)) (fun _ _ _ h => h) (Or.inl ⟨by rfl, ?_⟩) ?_ ?_
        rotate_left
        · intro w'
          go_simp
          with_reducible rfl
        rotate_left
        · simp only [Act.put, List.setIfInBounds_toArray, List.set_cons_zero, List.set_cons_succ, i64_w, i32_w]
          rfl
        refine pure_ (i := 16) (N := some 47) (v := ?_) (a' := ?_) #[true, true, true, true, true, true, true, true, true, true, true, true, true, true, true, true, true, false, false, false, false, false, false, false, false, false, false, false, false, false, false, false, false, false, false, false, false, false, false, false, false] rfl rfl (any_of HT_.out (by kernel_rfl)) (fun _ _ _ h => h) (Or.inl ⟨by rfl, ?_⟩) ?_ ?_
        rotate_left
        · intro w'
          go_simp
          with_reducible rfl
        rotate_left
        · simp only [Act.put, List.setIfInBounds_toArray, List.set_cons_zero, List.set_cons_succ, i64_w, i32_w]
          rfl
        refine pure_ (i := 17) (N := some 48) (v := ?_) (a' := ?_) #[true, true, true, true, true, true, true, true, true, true, true, true, true, true, true, true, true, true, false, false, false, false, false, false, false, false, false, false, false, false, false, false, false, false, false, false, false, false, false, false, false] rfl rfl (any_of HT_.out (by kernel_rfl)) (fun _ _ _ h => h) (Or.inl ⟨by rfl, ?_⟩) ?_ ?_
        rotate_left
        · intro w'
          go_simp
          with_reducible rfl
        rotate_left
        · simp only [Act.put, List.setIfInBounds_toArray, List.set_cons_zero, List.set_cons_succ, i64_w, i32_w]
          rfl
        refine pure_ (i := 19) (N := some 50) (v := ?_) (a' := ?_) #[true, true, true, true, true, true, true, true, true, true, true, true, true, true, true, true, true, true, false, true, false, false, false, false, false, false, false, false, false, false, false, false, false, false, false, false, false, false, false, false, false] rfl rfl (any_of HT_.out (by kernel_rfl)) (fun _ _ _ h => h) (Or.inl ⟨by rfl, ?_⟩) ?_ ?_
        rotate_left
        · intro w'
          go_simp
          with_reducible rfl
        rotate_left
        · simp only [Act.put, List.setIfInBounds_toArray, List.set_cons_zero, List.set_cons_succ, i64_w, i32_w]
          rfl
        refine pure_ (i := 20) (N := some 51) (v := ?_) (a' := ?_) #[true, true, true, true, true, true, true, true, true, true, true, true, true, true, true, true, true, true, false, true, true, false, false, false, false, false, false, false, false, false, false, false, false, false, false, false, false, false, false, false, false] rfl rfl (any_of HT_.out (by kernel_rfl)) (fun _ _ _ h => h) (Or.inl ⟨by rfl, ?_⟩) ?_ ?_
        rotate_left
        · intro w'
          go_simp
          with_reducible rfl
        rotate_left
        · simp only [Act.put, List.setIfInBounds_toArray, List.set_cons_zero, List.set_cons_succ, i64_w, i32_w]
          rfl
        refine pure_ (i := 21) (N := some 52) (v := ?_) (a' := ?_) #[true, true, true, true, true, true, true, true, true, true, true, true, true, true, true, true, true, true, false, true, true, true, false, false, false, false, false, false, false, false, false, false, false, false, false, false, false, false, false, false, false] rfl rfl (any_of HT_.out (by kernel_rfl)) (fun _ _ _ h => h) (Or.inl ⟨by rfl, ?_⟩) ?_ ?_
        rotate_left
        · intro w'
          go_simp
          with_reducible rfl
        rotate_left
        · simp only [Act.put, List.setIfInBounds_toArray, List.set_cons_zero, List.set_cons_succ, i64_w, i32_w]
          rfl
        refine pure_ (i := 22) (N := some 53) (v := ?_) (a' := ?_) #[true, true, true, true, true, true, true, true, true, true, true, true, true, true, true, true, true, true, false, true, true, true, true, false, false, false, false, false, false, false, false, false, false, false, false, false, false, false, false, false, false] rfl rfl (any_of HT_.out (by kernel_rfl)) (fun _ _ _ h => h) (Or.inl ⟨by rfl, ?_⟩) ?_ ?_
        rotate_left
        · intro w'
          go_simp
          with_reducible rfl
        rotate_left
        · simp only [Act.put, List.setIfInBounds_toArray, List.set_cons_zero, List.set_cons_succ, i64_w, i32_w]
          rfl
        refine pure_ (i := 24) (N := some 55) (v := ?_) (a' := ?_) #[true, true, true, true, true, true, true, true, true, true, true, true, true, true, true, true, true, true, false, true, true, true, true, false, true, false, false, false, false, false, false, false, false, false, false, false, false, false, false, false, false] rfl rfl (any_of HT_.out (by kernel_rfl)) (fun _ _ _ h => h) (Or.inl ⟨by rfl, ?_⟩) ?_ ?_
        rotate_left
        · intro w'
          go_simp
          with_reducible rfl
        rotate_left
        · simp only [Act.put, List.setIfInBounds_toArray, List.set_cons_zero, List.set_cons_succ, i64_w, i32_w]
          rfl
        refine pure_ (i := 25) (N := some 56) (v := ?_) (a' := ?_) #[true, true, true, true, true, true, true, true, true, true, true, true, true, true, true, true, true, true, false, true, true, true, true, false, true, true, false, false, false, false, false, false, false, false, false, false, false, false, false, false, false] rfl rfl (any_of HT_.out (by kernel_rfl)) (fun _ _ _ h => h) (Or.inl ⟨by rfl, ?_⟩) ?_ ?_
        rotate_left
        · intro w'
          go_simp
          with_reducible rfl
        rotate_left
        · simp only [Act.put, List.setIfInBounds_toArray, List.set_cons_zero, List.set_cons_succ, i64_w, i32_w]
          rfl
        refine pure_ (i := 26) (N := some 57) (v := ?_) (a' := ?_) #[true, true, true, true, true, true, true, true, true, true, true, true, true, true, true, true, true, true, false, true, true, true, true, false, true, true, true, false, false, false, false, false, false, false, false, false, false, false, false, false, false] rfl rfl (any_of HT_.out (by kernel_rfl)) (fun _ _ _ h => h) (Or.inl ⟨by rfl, ?_⟩) ?_ ?_
        rotate_left
        · intro w'
          go_simp
          with_reducible rfl
        rotate_left
        · simp only [Act.put, List.setIfInBounds_toArray, List.set_cons_zero, List.set_cons_succ, i64_w, i32_w]
          rfl
        refine pure_ (i := 28) (N := some 59) (v := ?_) (a' := ?_) #[true, true, true, true, true, true, true, true, true, true, true, true, true, true, true, true, true, true, false, true, true, true, true, false, true, true, true, false, true, false, false, false, false, false, false, false, false, false, false, false, false] rfl rfl (any_of HT_.out (by kernel_rfl)) (fun _ _ _ h => h) (Or.inl ⟨by rfl, ?_⟩) ?_ ?_
        rotate_left
        · intro w'
          go_simp
          with_reducible rfl
        rotate_left
        · simp only [Act.put, List.setIfInBounds_toArray, List.set_cons_zero, List.set_cons_succ, i64_w, i32_w]
          rfl
        refine one_ (i := 18) (N := some 49) #[true, true, true, true, true, true, true, true, true, true, true, true, true, true, true, true, true, true, true, true, true, true, true, false, true, true, true, false, true, false, false, false, false, false, false, false, false, false, false, false, false] rfl rfl (one_of HT_.out (by kernel_rfl)) (by decide) (fun K hK => ?_)
        refine goes_ Try.func10 (by kernel_rfl) rfl #[.slice A0 x1.length c0] (by rfl) rfl rfl (by (try simp only [List.map_toArray, List.map_cons, List.map_nil]); first | done | rfl) ?_
        with_reducible refine (crc_Sum.calls _ _ x1 _ _ (Kd.C_below HR1.out HB.out) HC1.out HS1.out).mono ?_
        rintro e w4 ⟨rfl, hb⟩
        refine ⟨_, rfl, ?_⟩
        replace HB := Aside0.mk (below_step HB.out hb)
        clear hb
        refine hK.out _ _ trivial (fun hHeld => ?_)
        clear hK K
        refine norm_ (a' := ?_) ?_ ?_
        rotate_left
        · show Act.put _ (some 49) _ = _
          simp only [Act.put, List.setIfInBounds_toArray, List.set_cons_zero, List.set_cons_succ, i64_w, i32_w]
          rfl
        refine one_ (i := 23) (N := some 54) #[true, true, true, true, true, true, true, true, true, true, true, true, true, true, true, true, true, true, true, true, true, true, true, true, true, true, true, false, true, false, false, false, false, false, false, false, false, false, false, false, false] rfl rfl (one_of HT_.out (by kernel_rfl)) (by decide) (fun K hK => ?_)
        refine goes_ Try.func16 (by kernel_rfl) rfl #[.int .u32 (m1 : Int), .slice A2 x2.length (c0 - k)] (by rfl) rfl rfl (by (try simp only [List.map_toArray, List.map_cons, List.map_nil]); first | done | rfl) ?_
        with_reducible refine (crc_More.calls _ _ _ x2 _ _ (Kd.C_below HR2.out HB.out) HC2.out HM2.out).mono ?_
        rintro e w5 ⟨rfl, hb⟩
        refine ⟨_, rfl, ?_⟩
        replace HB := Aside0.mk (below_step HB.out hb)
        clear hb
        refine hK.out _ _ trivial (fun hHeld => ?_)
        clear hK K
        refine norm_ (a' := ?_) ?_ ?_
        rotate_left
        · show Act.put _ (some 54) _ = _
          simp only [Act.put, List.setIfInBounds_toArray, List.set_cons_zero, List.set_cons_succ, i64_w, i32_w]
          rfl
        refine one_ (i := 27) (N := some 58) #[true, true, true, true, true, true, true, true, true, true, true, true, true, true, true, true, true, true, true, true, true, true, true, true, true, true, true, true, true, false, false, false, false, false, false, false, false, false, false, false, false] rfl rfl (one_of HT_.out (by kernel_rfl)) (by decide) (fun K hK => ?_)
        refine goes_ Try.func16 (by kernel_rfl) rfl #[.int .u32 (m2 : Int), .slice A3 x3.length (c0 - i)] (by rfl) rfl rfl (by (try simp only [List.map_toArray, List.map_cons, List.map_nil]); first | done | rfl) ?_
        with_reducible refine (crc_More.calls _ _ _ x3 _ _ (Kd.C_below HR3.out HB.out) HC3.out HM3.out).mono ?_
        rintro e w6 ⟨rfl, hb⟩
        refine ⟨_, rfl, ?_⟩
        replace HB := Aside0.mk (below_step HB.out hb)
        clear hb
        refine hK.out _ _ trivial (fun hHeld => ?_)
        clear hK K
        refine norm_ (a' := ?_) ?_ ?_
        rotate_left
        · show Act.put _ (some 58) _ = _
          simp only [Act.put, List.setIfInBounds_toArray, List.set_cons_zero, List.set_cons_succ, i64_w, i32_w]
          rfl
        refine pure_ (i := 29) (N := some 60) (v := ?_) (a' := ?_) #[true, true, true, true, true, true, true, true, true, true, true, true, true, true, true, true, true, true, true, true, true, true, true, true, true, true, true, true, true, true, false, false, false, false, false, false, false, false, false, false, false] rfl rfl (any_of HT_.out (by kernel_rfl)) (fun _ _ _ h => h) (Or.inl ⟨by rfl, ?_⟩) ?_ ?_
        rotate_left
        · intro w'
          go_simp
          with_reducible rfl
        rotate_left
        · simp only [Act.put, List.setIfInBounds_toArray, List.set_cons_zero, List.set_cons_succ, i64_w, i32_w]
          rfl
        refine pure_ (i := 30) (N := some 61) (v := ?_) (a' := ?_) #[true, true, true, true, true, true, true, true, true, true, true, true, true, true, true, true, true, true, true, true, true, true, true, true, true, true, true, true, true, true, true, false, false, false, false, false, false, false, false, false, false] rfl rfl (any_of HT_.out (by kernel_rfl)) (fun _ _ _ h => h) (Or.inl ⟨by rfl, ?_⟩) ?_ ?_
        rotate_left
        · intro w'
          go_simp
          with_reducible rfl
        rotate_left
        · simp only [Act.put, List.setIfInBounds_toArray, List.set_cons_zero, List.set_cons_succ, i64_w, i32_w]
          rfl
        refine pure_ (i := 31) (N := some 62) (v := ?_) (a' := ?_) #[true, true, true, true, true, true, true, true, true, true, true, true, true, true, true, true, true, true, true, true, true, true, true, true, true, true, true, true, true, true, true, true, false, false, false, false, false, false, false, false, false] rfl rfl (any_of HT_.out (by kernel_rfl)) (fun _ _ _ h => h) (Or.inl ⟨by rfl, ?_⟩) ?_ ?_
        rotate_left
        · intro w'
          go_simp
          with_reducible rfl
        rotate_left
        · simp only [Act.put, List.setIfInBounds_toArray, List.set_cons_zero, List.set_cons_succ, i64_w, i32_w]
          rfl
        refine pure_ (i := 32) (N := some 63) (v := ?_) (a' := ?_) #[true, true, true, true, true, true, true, true, true, true, true, true, true, true, true, true, true, true, true, true, true, true, true, true, true, true, true, true, true, true, true, true, true, false, false, false, false, false, false, false, false] rfl rfl (any_of HT_.out (by kernel_rfl)) (fun _ _ _ h => h) (Or.inl ⟨by rfl, ?_⟩) ?_ ?_
        rotate_left
        · intro w'
          go_simp
          with_reducible rfl
        rotate_left
        · simp only [Act.put, List.setIfInBounds_toArray, List.set_cons_zero, List.set_cons_succ, i64_w, i32_w]
          rfl
        refine pure_ (i := 34) (N := some 65) (v := ?_) (a' := ?_) #[true, true, true, true, true, true, true, true, true, true, true, true, true, true, true, true, true, true, true, true, true, true, true, true, true, true, true, true, true, true, true, true, true, false, true, false, false, false, false, false, false] rfl rfl (any_of HT_.out (by kernel_rfl)) (fun _ _ _ h => h) (Or.inl ⟨by rfl, ?_⟩) ?_ ?_
        rotate_left
        · intro w'
          go_simp
          with_reducible rfl
        rotate_left
        · simp only [Act.put, List.setIfInBounds_toArray, List.set_cons_zero, List.set_cons_succ, i64_w, i32_w]
          rfl
        refine one_ (i := 33) (N := some 64) #[true, true, true, true, true, true, true, true, true, true, true, true, true, true, true, true, true, true, true, true, true, true, true, true, true, true, true, true, true, true, true, true, true, true, true, false, false, false, false, false, false] rfl rfl (one_of HT_.out (by kernel_rfl)) (by decide) (fun K hK => ?_)
        refine goes_ Try.func16 (by kernel_rfl) rfl #[.int .u32 0, .slice A0 l0.length c0] (by rfl) rfl rfl (by (try simp only [List.map_toArray, List.map_cons, List.map_nil]); first | done | rfl) ?_
        with_reducible refine (crc_More.calls _ _ _ l0 _ _ (Kd.C_below HR.out HB.out) hc0 HM0.out).mono ?_
        rintro e w7 ⟨rfl, hb⟩
        refine ⟨_, rfl, ?_⟩
        replace HB := Aside0.mk (below_step HB.out hb)
        clear hb
        refine hK.out _ _ trivial (fun hHeld => ?_)
        clear hK K
        refine norm_ (a' := ?_) ?_ ?_
        rotate_left
        · show Act.put _ (some 64) _ = _
          simp only [Act.put, List.setIfInBounds_toArray, List.set_cons_zero, List.set_cons_succ, i64_w, i32_w]
          rfl
        refine pure_ (i := 35) (N := some 66) (v := ?_) (a' := ?_) #[true, true, true, true, true, true, true, true, true, true, true, true, true, true, true, true, true, true, true, true, true, true, true, true, true, true, true, true, true, true, true, true, true, true, true, true, false, false, false, false, false] rfl rfl (any_of HT_.out (by kernel_rfl)) (fun _ _ _ h => h) (Or.inl ⟨by rfl, ?_⟩) ?_ ?_
        rotate_left
        · intro w'
          go_simp
          with_reducible rfl
        rotate_left
        · simp only [Act.put, List.setIfInBounds_toArray, List.set_cons_zero, List.set_cons_succ, i64_w, i32_w]
          rfl
        refine pure_ (i := 36) (N := some 67) (v := ?_) (a' := ?_) #[true, true, true, true, true, true, true, true, true, true, true, true, true, true, true, true, true, true, true, true, true, true, true, true, true, true, true, true, true, true, true, true, true, true, true, true, true, false, false, false, false] rfl rfl (any_of HT_.out (by kernel_rfl)) (fun _ _ _ h => h) (Or.inl ⟨by rfl, ?_⟩) ?_ ?_
        rotate_left
        · intro w'
          go_simp
          with_reducible rfl
        rotate_left
        · simp only [Act.put, List.setIfInBounds_toArray, List.set_cons_zero, List.set_cons_succ, i64_w, i32_w]
          rfl
        refine pure_ (i := 37) (N := some 68) (v := ?_) (a' := ?_) #[true, true, true, true, true, true, true, true, true, true, true, true, true, true, true, true, true, true, true, true, true, true, true, true, true, true, true, true, true, true, true, true, true, true, true, true, true, true, false, false, false] rfl rfl (any_of HT_.out (by kernel_rfl)) (fun _ _ _ h => h) (Or.inl ⟨by rfl, ?_⟩) ?_ ?_
        rotate_left
        · intro w'
          go_simp
          with_reducible rfl
        rotate_left
        · simp only [Act.put, List.setIfInBounds_toArray, List.set_cons_zero, List.set_cons_succ, i64_w, i32_w]
          rfl
        refine one_ (i := 38) (N := some 69) #[true, true, true, true, true, true, true, true, true, true, true, true, true, true, true, true, true, true, true, true, true, true, true, true, true, true, true, true, true, true, true, true, true, true, true, true, true, true, true, false, false] rfl rfl (one_of HT_.out (by kernel_rfl)) (by decide) (fun K hK => ?_)
        refine goes_ Try.func9 (by kernel_rfl) rfl #[] (by rfl) rfl rfl (by (try simp only [List.map_toArray, List.map_cons, List.map_nil]); first | done | rfl) ?_
        with_reducible refine (concordancelaw2_awake.calls _ _ awake_f).mono ?_
        rintro e w8 ⟨rfl, hb⟩
        refine ⟨_, rfl, ?_⟩
        replace HB := Aside0.mk (below_step HB.out hb)
        clear hb
        refine hK.out _ _ trivial (fun hHeld => ?_)
        clear hK K
        refine norm_ (a' := ?_) ?_ ?_
        rotate_left
        · show Act.put _ (some 69) _ = _
          simp only [Act.put, List.setIfInBounds_toArray, List.set_cons_zero, List.set_cons_succ, i64_w, i32_w]
          rfl
        refine pure_ (i := 39) (N := some 70) (v := ?_) (a' := ?_) #[true, true, true, true, true, true, true, true, true, true, true, true, true, true, true, true, true, true, true, true, true, true, true, true, true, true, true, true, true, true, true, true, true, true, true, true, true, true, true, true, false] rfl rfl (any_of HT_.out (by kernel_rfl)) (fun _ _ _ h => h) (Or.inl ⟨by rfl, ?_⟩) ?_ ?_
        rotate_left
        · intro w'
          go_simp
          with_reducible rfl
        rotate_left
        · simp only [Act.put, List.setIfInBounds_toArray, List.set_cons_zero, List.set_cons_succ, i64_w, i32_w]
          rfl
        refine pure_ (i := 40) (N := some 6) (v := ?_) (a' := ?_) #[true, true, true, true, true, true, true, true, true, true, true, true, true, true, true, true, true, true, true, true, true, true, true, true, true, true, true, true, true, true, true, true, true, true, true, true, true, true, true, true, true] rfl rfl (any_of HT_.out (by kernel_rfl)) (fun _ _ _ h => h) (Or.inl ⟨by rfl, ?_⟩) ?_ ?_
        rotate_left
        · intro w'
          go_simp
          with_reducible rfl
        rotate_left
        · simp only [Act.put, List.setIfInBounds_toArray, List.set_cons_zero, List.set_cons_succ, i64_w, i32_w]
          rfl
        refine done_ (done_of HT_.out (by kernel_rfl)) ?_
        go_wp2
        go_ret
        exact ⟨rfl, HB.out⟩
      · have d2 : decide ((k : Int) < (i : Int)) = false := decide_eq_false hik
        have d3 : decide (k < i) = false := decide_eq_false (by omega)
        have HIK := Aside0.mk hik
        have hsum := sum_f HBY.out (by have := HL.out; omega)
        have hparts := parts_f (isB_take HBY.out i) (isB_drop (isB_take HBY.out k) i) (isB_drop HBY.out k) (by have := HL.out; rw [List.length_take]; omega) (by have := HL.out; rw [List.length_drop, List.length_take]; omega) (by have := HL.out; rw [List.length_drop]; omega)
        have happ : l0.take i ++ (l0.take k).drop i ++ l0.drop k = l0 := by
          have h1 : l0.take i = (l0.take k).take i := by rw [List.take_take, Nat.min_eq_left (by omega)]
          rw [h1, List.take_append_drop, List.take_append_drop]
        rw [happ] at hparts
        have hs1 := sum_f (l := l0.take i) (isB_take HBY.out i) (by have := HL.out; rw [List.length_take]; omega)
        have b1 := moreN_lt (s := 0) (by omega) (isB_take HBY.out i)
        have hm2 := more_f b1 (isB_drop (isB_take HBY.out k) i) (by have := HL.out; rw [List.length_drop, List.length_take]; omega)
        have b2 := moreN_lt b1 (isB_drop (isB_take HBY.out k) i)
        have hm3 := more_f b2 (isB_drop HBY.out k) (by have := HL.out; rw [List.length_drop]; omega)
        rw [moreN_append, moreN_append, happ] at hm3
        have hm0 : crc_More.f 0 l0 = some ((moreN 0 l0 : Nat) : Int) := more_f (s := 0) (by omega) HBY.out (by have := HL.out; omega)
        obtain ⟨m1, e1⟩ : ∃ m1, moreN 0 (l0.take i) = m1 := ⟨_, rfl⟩
        rw [e1] at hs1 hm2
        obtain ⟨m2, e2⟩ : ∃ m2, moreN m1 ((l0.take k).drop i) = m2 := ⟨_, rfl⟩
        rw [← moreN_append, e1, e2] at hm3
        rw [e2] at hm2
        obtain ⟨i0, hi0, _, hsz0, _⟩ := info_parts hinfo_u8
        obtain ⟨hcut1, hA1, hC1⟩ := print_take_of (P := Try.prog) (Value.int .u8) 0 22 5 .i64 Try.underlying22 hi0 hsz0 A0 c0 l0 (i : Int) (by omega) (by have := HIL.out; have := HKL.out; omega) hc0
        obtain ⟨A2, hcut2, hA2, hC2⟩ := print_mid_of (P := Try.prog) (Value.int .u8) 0 22 5 .i64 .i64 Try.underlying22 hi0 hsz0 A0 c0 l0 (i : Int) (k : Int) (by omega) (by omega) (by have := HIL.out; have := HKL.out; omega) hc0
        obtain ⟨A3, hcut3, hA3, hC3⟩ := print_drop_of (P := Try.prog) (Value.int .u8) 0 22 5 .i64 Try.underlying22 hi0 hsz0 A0 c0 l0 (k : Int) (by omega) (by have := HIL.out; have := HKL.out; omega) hc0
        have hR1 := Kd.C_of_reads (h1 := fun _ => rfl) (hA1 _ (Kd.reads_of_C HR.out))
        have hR2 := Kd.C_of_reads (h1 := fun _ => rfl) (hA2 _ (Kd.reads_of_C HR.out))
        have hR3 := Kd.C_of_reads (h1 := fun _ => rfl) (hA3 _ (Kd.reads_of_C HR.out))
        simp only [Int.toNat_natCast] at hcut1 hcut2 hcut3 hR1 hR2 hR3 hC1 hC2 hC3
        have HC1 := Aside0.mk hC1
        have HC2 := Aside0.mk hC2
        have HC3 := Aside0.mk hC3
        obtain ⟨x1, ex1⟩ : ∃ x, l0.take i = x := ⟨_, rfl⟩
        obtain ⟨x2, ex2⟩ : ∃ x, (l0.take k).drop i = x := ⟨_, rfl⟩
        obtain ⟨x3, ex3⟩ : ∃ x, l0.drop k = x := ⟨_, rfl⟩
        rw [ex1] at hs1 hparts hcut1 hR1 HC1
        rw [ex2] at hm2 hparts hcut2 hR2 HC2
        rw [ex3] at hm3 hparts hcut3 hR3 HC3
        obtain ⟨m, em⟩ : ∃ m, moreN 0 l0 = m := ⟨_, rfl⟩
        rw [em] at hsum hparts hm3 hm0
        have HR1 : Aside0 (Kd.C (Kd.int .u8) w A0 x1.length x1) := ⟨hR1⟩
        have HR2 : Aside0 (Kd.C (Kd.int .u8) w A2 x2.length x2) := ⟨hR2⟩
        have HR3 : Aside0 (Kd.C (Kd.int .u8) w A3 x3.length x3) := ⟨hR3⟩
        clear hR1 hR2 hR3
        have HSUM := Aside0.mk hsum
        have HPARTS := Aside0.mk hparts
        have HS1 := Aside0.mk hs1
        have HM2 := Aside0.mk hm2
        have HM3 := Aside0.mk hm3
        have HM0 := Aside0.mk hm0
        clear hsum hparts hs1 hm2 hm3 hm0 b1 b2 happ e1 e2 em ex1 ex2 ex3 hi0 hsz0 hA1 hA2 hA3 hC1 hC2 hC3 hik
        go_enter Try.func8, Try.ntmps8
        go_wp2
        go_quiet (fail)
        go_wp2_with (go_at_call 10; refine (crc_Sum.calls _ _ l0 _ _ (Kd.C_drewN HR.out _) hc0 HSUM.out).mono ?_; rintro e w1 ⟨rfl, hb⟩; have HB := Aside0.mk (below_step (pw_below_drewN (Below.refl _ _) _) hb); clear hb)
        refine start_ (n := 41) (S := fun _ => True) (ds := []) #[false, false, false, false, false, false, false, false, false, false, false, false, false, false, false, false, false, false, false, false, false, false, false, false, false, false, false, false, false, false, false, false, false, false, false, false, false, false, false, false, false] (by kernel_rfl) rfl rfl trivial (fun hHeld => ?_)
        refine with_tabW parts.tab7 parts.bits7 (fun HT_ HW_ => ?_)
        replace HB := Aside0.mk (below_drew1 HB.out)
        generalize w1.drew = w2 at HB ⊢
        refine pure_ (i := 0) (N := some 31) (v := ?_) (a' := ?_) #[true, false, false, false, false, false, false, false, false, false, false, false, false, false, false, false, false, false, false, false, false, false, false, false, false, false, false, false, false, false, false, false, false, false, false, false, false, false, false, false, false] rfl rfl (any_of HT_.out (by kernel_rfl)) (fun _ _ _ h => h) (Or.inl ⟨by rfl, ?_⟩) ?_ ?_
        rotate_left
        · intro w'
          go_simp
          with_reducible rfl
        rotate_left
        · simp only [Act.put, List.setIfInBounds_toArray, List.set_cons_zero, List.set_cons_succ, i64_w, i32_w]
          rfl
        refine pure_ (i := 1) (N := some 32) (v := ?_) (a' := ?_) #[true, true, false, false, false, false, false, false, false, false, false, false, false, false, false, false, false, false, false, false, false, false, false, false, false, false, false, false, false, false, false, false, false, false, false, false, false, false, false, false, false] rfl rfl (any_of HT_.out (by kernel_rfl)) (fun _ _ _ h => h) (Or.inl ⟨by rfl, ?_⟩) ?_ ?_
        rotate_left
        · intro w'
          go_simp
          with_reducible rfl
        rotate_left
        · simp only [Act.put, List.setIfInBounds_toArray, List.set_cons_zero, List.set_cons_succ, i64_w, i32_w]
          rfl
        refine pure_ (i := 2) (N := some 33) (v := ?_) (a' := ?_) #[true, true, true, false, false, false, false, false, false, false, false, false, false, false, false, false, false, false, false, false, false, false, false, false, false, false, false, false, false, false, false, false, false, false, false, false, false, false, false, false, false] rfl rfl (any_of HT_.out (by kernel_rfl)) (fun _ _ _ h => h) (Or.inl ⟨by rfl, ?_⟩) ?_ ?_
        rotate_left
        · intro w'
          go_simp
          with_reducible rfl
        rotate_left
        · simp only [Act.put, List.setIfInBounds_toArray, List.set_cons_zero, List.set_cons_succ, i64_w, i32_w]
          rfl
        refine pure_ (i := 3) (N := some 34) (v := ?_) (a' := ?_) #[true, true, true, true, false, false, false, false, false, false, false, false, false, false, false, false, false, false, false, false, false, false, false, false, false, false, false, false, false, false, false, false, false, false, false, false, false, false, false, false, false] rfl rfl (any_of HT_.out (by kernel_rfl)) (fun _ _ _ h => h) (Or.inl ⟨by rfl, ?_⟩) ?_ ?_
        rotate_left
        · intro w'
          go_simp
          with_reducible rfl
        rotate_left
        · simp only [Act.put, List.setIfInBounds_toArray, List.set_cons_zero, List.set_cons_succ, i64_w, i32_w]
          rfl
        refine pure_ (i := 4) (N := some 35) (v := ?_) (a' := ?_) #[true, true, true, true, true, false, false, false, false, false, false, false, false, false, false, false, false, false, false, false, false, false, false, false, false, false, false, false, false, false, false, false, false, false, false, false, false, false, false, false, false] rfl rfl (any_of HT_.out (by kernel_rfl)) (fun _ _ _ h => h) (Or.inl ⟨by rfl, ?_⟩) ?_ ?_
        rotate_left
        · intro w'
          go_simp
          with_reducible rfl
        rotate_left
        · simp only [Act.put, List.setIfInBounds_toArray, List.set_cons_zero, List.set_cons_succ, i64_w, i32_w]
          rfl
        refine pure_ (i := 5) (N := some 36) (v := ?_) (a' := ?_) #[true, true, true, true, true, true, false, false, false, false, false, false, false, false, false, false, false, false, false, false, false, false, false, false, false, false, false, false, false, false, false, false, false, false, false, false, false, false, false, false, false] rfl rfl (any_of HT_.out (by kernel_rfl)) (fun _ _ _ h => h) (Or.inl ⟨by rfl, ?_⟩) ?_ ?_
        rotate_left
        · intro w'
          go_simp
          with_reducible rfl
        rotate_left
        · simp only [Act.put, List.setIfInBounds_toArray, List.set_cons_zero, List.set_cons_succ, i64_w, i32_w]
          rfl
        refine pure_ (i := 6) (N := some 37) (v := ?_) (a' := ?_) #[true, true, true, true, true, true, true, false, false, false, false, false, false, false, false, false, false, false, false, false, false, false, false, false, false, false, false, false, false, false, false, false, false, false, false, false, false, false, false, false, false] rfl rfl (any_of HT_.out (by kernel_rfl)) (fun _ _ _ h => h) (Or.inl ⟨by rfl, ?_⟩) ?_ ?_
        rotate_left
        · intro w'
          go_simp
          with_reducible rfl
        rotate_left
        · simp only [Act.put, List.setIfInBounds_toArray, List.set_cons_zero, List.set_cons_succ, i64_w, i32_w]
          rfl
        refine pure_ (i := 7) (N := some 38) (v := ?_) (a' := ?_) #[true, true, true, true, true, true, true, true, false, false, false, false, false, false, false, false, false, false, false, false, false, false, false, false, false, false, false, false, false, false, false, false, false, false, false, false, false, false, false, false, false] rfl rfl (any_of HT_.out (by kernel_rfl)) (fun _ _ _ h => h) (Or.inl ⟨by rfl, ?_⟩) ?_ ?_
        rotate_left
        · intro w'
          go_simp
          with_reducible rfl
        rotate_left
        · simp only [Act.put, List.setIfInBounds_toArray, List.set_cons_zero, List.set_cons_succ, i64_w, i32_w]
          rfl
        refine pure_ (i := 8) (N := some 39) (v := ?_) (a' := ?_) #[true, true, true, true, true, true, true, true, true, false, false, false, false, false, false, false, false, false, false, false, false, false, false, false, false, false, false, false, false, false, false, false, false, false, false, false, false, false, false, false, false] rfl rfl (any_of HT_.out (by kernel_rfl)) (fun _ _ _ h => h) (Or.inl ⟨by rfl, ?_⟩) ?_ ?_
        rotate_left
        · intro w'
          go_simp
          with_reducible rfl
        rotate_left
        · simp only [Act.put, List.setIfInBounds_toArray, List.set_cons_zero, List.set_cons_succ, i64_w, i32_w]
          rfl
        refine pure_ (i := 9) (N := some 40) (v := ?_) (a' := ?_) #[true, true, true, true, true, true, true, true, true, true, false, false, false, false, false, false, false, false, false, false, false, false, false, false, false, false, false, false, false, false, false, false, false, false, false, false, false, false, false, false, false] rfl rfl (any_of HT_.out (by kernel_rfl)) (fun _ _ _ h => h) (Or.inl ⟨by rfl, ?_⟩) ?_ ?_
        rotate_left
        · intro w'
          go_simp
          with_reducible rfl
        rotate_left
        · simp only [Act.put, List.setIfInBounds_toArray, List.set_cons_zero, List.set_cons_succ, i64_w, i32_w]
          rfl
        refine pure_ (i := 12) (N := some 43) (v := ?_) (a' := ?_) #[true, true, true, true, true, true, true, true, true, true, false, false, true, false, false, false, false, false, false, false, false, false, false, false, false, false, false, false, false, false, false, false, false, false, false, false, false, false, false, false, false] rfl rfl (any_of HT_.out (by kernel_rfl)) (fun _ _ _ h => h) (Or.inl ⟨by rfl, ?_⟩) ?_ ?_
        rotate_left
        · intro w'
          go_simp
          with_reducible rfl
        rotate_left
        · simp only [Act.put, List.setIfInBounds_toArray, List.set_cons_zero, List.set_cons_succ, i64_w, i32_w]
          rfl
        refine one_ (i := 10) (N := some 41) #[true, true, true, true, true, true, true, true, true, true, true, false, true, false, false, false, false, false, false, false, false, false, false, false, false, false, false, false, false, false, false, false, false, false, false, false, false, false, false, false, false] rfl rfl (one_of HT_.out (by kernel_rfl)) (by decide) (fun K hK => ?_)
        refine value_ (v := .slice (some ⟨w2.heap.size, 0, none⟩) 3 3) (w1 := w2.alloc (.cells #[.slice A0 x1.length c0, .slice A2 x2.length (c0 - i), .slice A3 x3.length (c0 - k)] 22)) (by rfl) rfl ?_ ?_
        · go_simp
        have HT := Aside0.mk (C_three (blk_new w2 (.cells #[.slice A0 x1.length c0, .slice A2 x2.length (c0 - i), .slice A3 x3.length (c0 - k)] 22)) HC1.out HC2.out HC3.out (Kd.C_alloc (Kd.C_below HR1.out HB.out) _) (Kd.C_alloc (Kd.C_below HR2.out HB.out) _) (Kd.C_alloc (Kd.C_below HR3.out HB.out) _))
        replace HB := Aside0.mk (below_alloc HB.out (.cells #[.slice A0 x1.length c0, .slice A2 x2.length (c0 - i), .slice A3 x3.length (c0 - k)] 22))
        refine hK.out _ _ trivial (fun hHeld => ?_)
        clear hK K
        refine norm_ (a' := ?_) ?_ ?_
        rotate_left
        · show Act.put _ (some 41) _ = _
          simp only [Act.put, List.setIfInBounds_toArray, List.set_cons_zero, List.set_cons_succ, i64_w, i32_w]
          rfl
        refine one_ (i := 11) (N := some 42) #[true, true, true, true, true, true, true, true, true, true, true, true, true, false, false, false, false, false, false, false, false, false, false, false, false, false, false, false, false, false, false, false, false, false, false, false, false, false, false, false, false] rfl rfl (one_of HT_.out (by kernel_rfl)) (by decide) (fun K hK => ?_)
        refine goes_ Try.func15 (by kernel_rfl) rfl #[.slice (some ⟨w2.heap.size, 0, none⟩) 3 3] (by rfl) rfl rfl (by (try simp only [List.map_toArray, List.map_cons, List.map_nil]); first | done | rfl) ?_
        refine (crc_Parts.calls 5 _ 3 [x1, x2, x3] _ _ HT.out (Nat.le_refl _) HPARTS.out).mono ?_
        rintro e w3 ⟨rfl, hb⟩
        refine ⟨_, rfl, ?_⟩
        replace HB := Aside0.mk (below_step HB.out hb)
        clear hb HT
        refine hK.out _ _ trivial (fun hHeld => ?_)
        clear hK K
        refine norm_ (a' := ?_) ?_ ?_
        rotate_left
        · show Act.put _ (some 42) _ = _
          simp only [Act.put, List.setIfInBounds_toArray, List.set_cons_zero, List.set_cons_succ, i64_w, i32_w]
          rfl
        refine pure_ (i := 13) (N := some 44) (v := ?_) (a' := ?_) #[true, true, true, true, true, true, true, true, true, true, true, true, true, true, false, false, false, false, false, false, false, false, false, false, false, false, false, false, false, false, false, false, false, false, false, false, false, false, false, false, false] rfl rfl (any_of HT_.out (by kernel_rfl)) (fun _ _ _ h => h) (Or.inl ⟨by rfl, ?_⟩) ?_ ?_
        rotate_left
        · intro w'
          go_simp
          with_reducible rfl
        rotate_left
        · simp only [Act.put, List.setIfInBounds_toArray, List.set_cons_zero, List.set_cons_succ, i64_w, i32_w]
          rfl
        refine pure_ (i := 14) (N := some 45) (v := ?_) (a' := ?_) #[true, true, true, true, true, true, true, true, true, true, true, true, true, true, true, false, false, false, false, false, false, false, false, false, false, false, false, false, false, false, false, false, false, false, false, false, false, false, false, false, false] rfl rfl (any_of HT_.out (by kernel_rfl)) (fun _ _ _ h => h) (Or.inl ⟨by rfl, ?_⟩) ?_ ?_
        rotate_left
        · intro w'
          go_simp
          with_reducible rfl
        rotate_left
        · simp only [Act.put, List.setIfInBounds_toArray, List.set_cons_zero, List.set_cons_succ, i64_w, i32_w]
          rfl
        refine pure_ (i := 15) (N := some 46) (v := ?_) (a' := ?_) #[true, true, true, true, true, true, true, true, true, true, true, true, true, true, true, true, false, false, false, false, false, false, false, false, false, false, false, false, false, false, false, false, false, false, false, false, false, false, false, false, false] rfl rfl (any_of HT_.out (by kernel_rfl)) (fun _ _ _ h => h) (Or.inl ⟨by rfl, ?_⟩) ?_ ?_
        rotate_left
        · intro w'
          go_simp
          with_reducible rfl
        rotate_left
        · simp only [Act.put, List.setIfInBounds_toArray, List.set_cons_zero, List.set_cons_succ, i64_w, i32_w]
          rfl
        refine pure_ (i := 16) (N := some 47) (v := ?_) (a' := ?_) #[true, true, true, true, true, true, true, true, true, true, true, true, true, true, true, true, true, false, false, false, false, false, false, false, false, false, false, false, false, false, false, false, false, false, false, false, false, false, false, false, false] rfl rfl (any_of HT_.out (by kernel_rfl)) (fun _ _ _ h => h) (Or.inl ⟨by rfl, ?_⟩) ?_ ?_
        rotate_left
        · intro w'
          go_simp
          with_reducible rfl
        rotate_left
        · simp only [Act.put, List.setIfInBounds_toArray, List.set_cons_zero, List.set_cons_succ, i64_w, i32_w]
          rfl
        refine pure_ (i := 17) (N := some 48) (v := ?_) (a' := ?_) #[true, true, true, true, true, true, true, true, true, true, true, true, true, true, true, true, true, true, false, false, false, false, false, false, false, false, false, false, false, false, false, false, false, false, false, false, false, false, false, false, false] rfl rfl (any_of HT_.out (by kernel_rfl)) (fun _ _ _ h => h) (Or.inl ⟨by rfl, ?_⟩) ?_ ?_
        rotate_left
        · intro w'
          go_simp
          with_reducible rfl
        rotate_left
        · simp only [Act.put, List.setIfInBounds_toArray, List.set_cons_zero, List.set_cons_succ, i64_w, i32_w]
          rfl
        refine pure_ (i := 19) (N := some 50) (v := ?_) (a' := ?_) #[true, true, true, true, true, true, true, true, true, true, true, true, true, true, true, true, true, true, false, true, false, false, false, false, false, false, false, false, false, false, false, false, false, false, false, false, false, false, false, false, false] rfl rfl (any_of HT_.out (by kernel_rfl)) (fun _ _ _ h => h) (Or.inl ⟨by rfl, ?_⟩) ?_ ?_
        rotate_left
        · intro w'
          go_simp
          with_reducible rfl
        rotate_left
        · simp only [Act.put, List.setIfInBounds_toArray, List.set_cons_zero, List.set_cons_succ, i64_w, i32_w]
          rfl
        refine pure_ (i := 20) (N := some 51) (v := ?_) (a' := ?_) #[true, true, true, true, true, true, true, true, true, true, true, true, true, true, true, true, true, true, false, true, true, false, false, false, false, false, false, false, false, false, false, false, false, false, false, false, false, false, false, false, false] rfl rfl (any_of HT_.out (by kernel_rfl)) (fun _ _ _ h => h) (Or.inl ⟨by rfl, ?_⟩) ?_ ?_
        rotate_left
        · intro w'
          go_simp
          with_reducible rfl
        rotate_left
        · simp only [Act.put, List.setIfInBounds_toArray, List.set_cons_zero, List.set_cons_succ, i64_w, i32_w]
          rfl
        refine pure_ (i := 21) (N := some 52) (v := ?_) (a' := ?_) #[true, true, true, true, true, true, true, true, true, true, true, true, true, true, true, true, true, true, false, true, true, true, false, false, false, false, false, false, false, false, false, false, false, false, false, false, false, false, false, false, false] rfl rfl (any_of HT_.out (by kernel_rfl)) (fun _ _ _ h => h) (Or.inl ⟨by rfl, ?_⟩) ?_ ?_
        rotate_left
        · intro w'
          go_simp
          with_reducible rfl
        rotate_left
        · simp only [Act.put, List.setIfInBounds_toArray, List.set_cons_zero, List.set_cons_succ, i64_w, i32_w]
          rfl
        refine pure_ (i := 22) (N := some 53) (v := ?_) (a' := ?_) #[true, true, true, true, true, true, true, true, true, true, true, true, true, true, true, true, true, true, false, true, true, true, true, false, false, false, false, false, false, false, false, false, false, false, false, false, false, false, false, false, false] rfl rfl (any_of HT_.out (by kernel_rfl)) (fun _ _ _ h => h) (Or.inl ⟨by rfl, ?_⟩) ?_ ?_
        rotate_left
        · intro w'
          go_simp
          with_reducible rfl
        rotate_left
        · simp only [Act.put, List.setIfInBounds_toArray, List.set_cons_zero, List.set_cons_succ, i64_w, i32_w]
          rfl
        refine pure_ (i := 24) (N := some 55) (v := ?_) (a' := ?_) #[true, true, true, true, true, true, true, true, true, true, true, true, true, true, true, true, true, true, false, true, true, true, true, false, true, false, false, false, false, false, false, false, false, false, false, false, false, false, false, false, false] rfl rfl (any_of HT_.out (by kernel_rfl)) (fun _ _ _ h => h) (Or.inl ⟨by rfl, ?_⟩) ?_ ?_
        rotate_left
        · intro w'
          go_simp
          with_reducible rfl
        rotate_left
        · simp only [Act.put, List.setIfInBounds_toArray, List.set_cons_zero, List.set_cons_succ, i64_w, i32_w]
          rfl
        refine pure_ (i := 25) (N := some 56) (v := ?_) (a' := ?_) #[true, true, true, true, true, true, true, true, true, true, true, true, true, true, true, true, true, true, false, true, true, true, true, false, true, true, false, false, false, false, false, false, false, false, false, false, false, false, false, false, false] rfl rfl (any_of HT_.out (by kernel_rfl)) (fun _ _ _ h => h) (Or.inl ⟨by rfl, ?_⟩) ?_ ?_
        rotate_left
        · intro w'
          go_simp
          with_reducible rfl
        rotate_left
        · simp only [Act.put, List.setIfInBounds_toArray, List.set_cons_zero, List.set_cons_succ, i64_w, i32_w]
          rfl
        refine pure_ (i := 26) (N := some 57) (v := ?_) (a' := ?_) #[true, true, true, true, true, true, true, true, true, true, true, true, true, true, true, true, true, true, false, true, true, true, true, false, true, true, true, false, false, false, false, false, false, false, false, false, false, false, false, false, false] rfl rfl (any_of HT_.out (by kernel_rfl)) (fun _ _ _ h => h) (Or.inl ⟨by rfl, ?_⟩) ?_ ?_
        rotate_left
        · intro w'
          go_simp
          with_reducible rfl
        rotate_left
        · simp only [Act.put, List.setIfInBounds_toArray, List.set_cons_zero, List.set_cons_succ, i64_w, i32_w]
          rfl
        refine pure_ (i := 28) (N := some 59) (v := ?_) (a' := ?_) #[true, true, true, true, true, true, true, true, true, true, true, true, true, true, true, true, true, true, false, true, true, true, true, false, true, true, true, false, true, false, false, false, false, false, false, false, false, false, false, false, false] rfl rfl (any_of HT_.out (by kernel_rfl)) (fun _ _ _ h => h) (Or.inl ⟨by rfl, ?_⟩) ?_ ?_
        rotate_left
        · intro w'
          go_simp
          with_reducible rfl
        rotate_left
        · simp only [Act.put, List.setIfInBounds_toArray, List.set_cons_zero, List.set_cons_succ, i64_w, i32_w]
          rfl
        refine one_ (i := 18) (N := some 49) #[true, true, true, true, true, true, true, true, true, true, true, true, true, true, true, true, true, true, true, true, true, true, true, false, true, true, true, false, true, false, false, false, false, false, false, false, false, false, false, false, false] rfl rfl (one_of HT_.out (by kernel_rfl)) (by decide) (fun K hK => ?_)
        refine goes_ Try.func10 (by kernel_rfl) rfl #[.slice A0 x1.length c0] (by rfl) rfl rfl (by (try simp only [List.map_toArray, List.map_cons, List.map_nil]); first | done | rfl) ?_
        with_reducible refine (crc_Sum.calls _ _ x1 _ _ (Kd.C_below HR1.out HB.out) HC1.out HS1.out).mono ?_
        rintro e w4 ⟨rfl, hb⟩
        refine ⟨_, rfl, ?_⟩
        replace HB := Aside0.mk (below_step HB.out hb)
        clear hb
        refine hK.out _ _ trivial (fun hHeld => ?_)
        clear hK K
        refine norm_ (a' := ?_) ?_ ?_
        rotate_left
        · show Act.put _ (some 49) _ = _
          simp only [Act.put, List.setIfInBounds_toArray, List.set_cons_zero, List.set_cons_succ, i64_w, i32_w]
          rfl
        refine one_ (i := 23) (N := some 54) #[true, true, true, true, true, true, true, true, true, true, true, true, true, true, true, true, true, true, true, true, true, true, true, true, true, true, true, false, true, false, false, false, false, false, false, false, false, false, false, false, false] rfl rfl (one_of HT_.out (by kernel_rfl)) (by decide) (fun K hK => ?_)
        refine goes_ Try.func16 (by kernel_rfl) rfl #[.int .u32 (m1 : Int), .slice A2 x2.length (c0 - i)] (by rfl) rfl rfl (by (try simp only [List.map_toArray, List.map_cons, List.map_nil]); first | done | rfl) ?_
        with_reducible refine (crc_More.calls _ _ _ x2 _ _ (Kd.C_below HR2.out HB.out) HC2.out HM2.out).mono ?_
        rintro e w5 ⟨rfl, hb⟩
        refine ⟨_, rfl, ?_⟩
        replace HB := Aside0.mk (below_step HB.out hb)
        clear hb
        refine hK.out _ _ trivial (fun hHeld => ?_)
        clear hK K
        refine norm_ (a' := ?_) ?_ ?_
        rotate_left
        · show Act.put _ (some 54) _ = _
          simp only [Act.put, List.setIfInBounds_toArray, List.set_cons_zero, List.set_cons_succ, i64_w, i32_w]
          rfl
        refine one_ (i := 27) (N := some 58) #[true, true, true, true, true, true, true, true, true, true, true, true, true, true, true, true, true, true, true, true, true, true, true, true, true, true, true, true, true, false, false, false, false, false, false, false, false, false, false, false, false] rfl rfl (one_of HT_.out (by kernel_rfl)) (by decide) (fun K hK => ?_)
        refine goes_ Try.func16 (by kernel_rfl) rfl #[.int .u32 (m2 : Int), .slice A3 x3.length (c0 - k)] (by rfl) rfl rfl (by (try simp only [List.map_toArray, List.map_cons, List.map_nil]); first | done | rfl) ?_
        with_reducible refine (crc_More.calls _ _ _ x3 _ _ (Kd.C_below HR3.out HB.out) HC3.out HM3.out).mono ?_
        rintro e w6 ⟨rfl, hb⟩
        refine ⟨_, rfl, ?_⟩
        replace HB := Aside0.mk (below_step HB.out hb)
        clear hb
        refine hK.out _ _ trivial (fun hHeld => ?_)
        clear hK K
        refine norm_ (a' := ?_) ?_ ?_
        rotate_left
        · show Act.put _ (some 58) _ = _
          simp only [Act.put, List.setIfInBounds_toArray, List.set_cons_zero, List.set_cons_succ, i64_w, i32_w]
          rfl
        refine pure_ (i := 29) (N := some 60) (v := ?_) (a' := ?_) #[true, true, true, true, true, true, true, true, true, true, true, true, true, true, true, true, true, true, true, true, true, true, true, true, true, true, true, true, true, true, false, false, false, false, false, false, false, false, false, false, false] rfl rfl (any_of HT_.out (by kernel_rfl)) (fun _ _ _ h => h) (Or.inl ⟨by rfl, ?_⟩) ?_ ?_
        rotate_left
        · intro w'
          go_simp
          with_reducible rfl
        rotate_left
        · simp only [Act.put, List.setIfInBounds_toArray, List.set_cons_zero, List.set_cons_succ, i64_w, i32_w]
          rfl
        refine pure_ (i := 30) (N := some 61) (v := ?_) (a' := ?_) #[true, true, true, true, true, true, true, true, true, true, true, true, true, true, true, true, true, true, true, true, true, true, true, true, true, true, true, true, true, true, true, false, false, false, false, false, false, false, false, false, false] rfl rfl (any_of HT_.out (by kernel_rfl)) (fun _ _ _ h => h) (Or.inl ⟨by rfl, ?_⟩) ?_ ?_
        rotate_left
        · intro w'
          go_simp
          with_reducible rfl
        rotate_left
        · simp only [Act.put, List.setIfInBounds_toArray, List.set_cons_zero, List.set_cons_succ, i64_w, i32_w]
          rfl
        refine pure_ (i := 31) (N := some 62) (v := ?_) (a' := ?_) #[true, true, true, true, true, true, true, true, true, true, true, true, true, true, true, true, true, true, true, true, true, true, true, true, true, true, true, true, true, true, true, true, false, false, false, false, false, false, false, false, false] rfl rfl (any_of HT_.out (by kernel_rfl)) (fun _ _ _ h => h) (Or.inl ⟨by rfl, ?_⟩) ?_ ?_
        rotate_left
        · intro w'
          go_simp
          with_reducible rfl
        rotate_left
        · simp only [Act.put, List.setIfInBounds_toArray, List.set_cons_zero, List.set_cons_succ, i64_w, i32_w]
          rfl
        refine pure_ (i := 32) (N := some 63) (v := ?_) (a' := ?_) #[true, true, true, true, true, true, true, true, true, true, true, true, true, true, true, true, true, true, true, true, true, true, true, true, true, true, true, true, true, true, true, true, true, false, false, false, false, false, false, false, false] rfl rfl (any_of HT_.out (by kernel_rfl)) (fun _ _ _ h => h) (Or.inl ⟨by rfl, ?_⟩) ?_ ?_
        rotate_left
        · intro w'
          go_simp
          with_reducible rfl
        rotate_left
        · simp only [Act.put, List.setIfInBounds_toArray, List.set_cons_zero, List.set_cons_succ, i64_w, i32_w]
          rfl
        refine pure_ (i := 34) (N := some 65) (v := ?_) (a' := ?_) #[true, true, true, true, true, true, true, true, true, true, true, true, true, true, true, true, true, true, true, true, true, true, true, true, true, true, true, true, true, true, true, true, true, false, true, false, false, false, false, false, false] rfl rfl (any_of HT_.out (by kernel_rfl)) (fun _ _ _ h => h) (Or.inl ⟨by rfl, ?_⟩) ?_ ?_
        rotate_left
        · intro w'
          go_simp
          with_reducible rfl
        rotate_left
        · simp only [Act.put, List.setIfInBounds_toArray, List.set_cons_zero, List.set_cons_succ, i64_w, i32_w]
          rfl
        refine one_ (i := 33) (N := some 64) #[true, true, true, true, true, true, true, true, true, true, true, true, true, true, true, true, true, true, true, true, true, true, true, true, true, true, true, true, true, true, true, true, true, true, true, false, false, false, false, false, false] rfl rfl (one_of HT_.out (by kernel_rfl)) (by decide) (fun K hK => ?_)
        refine goes_ Try.func16 (by kernel_rfl) rfl #[.int .u32 0, .slice A0 l0.length c0] (by rfl) rfl rfl (by (try simp only [List.map_toArray, List.map_cons, List.map_nil]); first | done | rfl) ?_
        with_reducible refine (crc_More.calls _ _ _ l0 _ _ (Kd.C_below HR.out HB.out) hc0 HM0.out).mono ?_
        rintro e w7 ⟨rfl, hb⟩
        refine ⟨_, rfl, ?_⟩
        replace HB := Aside0.mk (below_step HB.out hb)
        clear hb
        refine hK.out _ _ trivial (fun hHeld => ?_)
        clear hK K
        refine norm_ (a' := ?_) ?_ ?_
        rotate_left
        · show Act.put _ (some 64) _ = _
          simp only [Act.put, List.setIfInBounds_toArray, List.set_cons_zero, List.set_cons_succ, i64_w, i32_w]
          rfl
        refine pure_ (i := 35) (N := some 66) (v := ?_) (a' := ?_) #[true, true, true, true, true, true, true, true, true, true, true, true, true, true, true, true, true, true, true, true, true, true, true, true, true, true, true, true, true, true, true, true, true, true, true, true, false, false, false, false, false] rfl rfl (any_of HT_.out (by kernel_rfl)) (fun _ _ _ h => h) (Or.inl ⟨by rfl, ?_⟩) ?_ ?_
        rotate_left
        · intro w'
          go_simp
          with_reducible rfl
        rotate_left
        · simp only [Act.put, List.setIfInBounds_toArray, List.set_cons_zero, List.set_cons_succ, i64_w, i32_w]
          rfl
        refine pure_ (i := 36) (N := some 67) (v := ?_) (a' := ?_) #[true, true, true, true, true, true, true, true, true, true, true, true, true, true, true, true, true, true, true, true, true, true, true, true, true, true, true, true, true, true, true, true, true, true, true, true, true, false, false, false, false] rfl rfl (any_of HT_.out (by kernel_rfl)) (fun _ _ _ h => h) (Or.inl ⟨by rfl, ?_⟩) ?_ ?_
        rotate_left
        · intro w'
          go_simp
          with_reducible rfl
        rotate_left
        · simp only [Act.put, List.setIfInBounds_toArray, List.set_cons_zero, List.set_cons_succ, i64_w, i32_w]
          rfl
        refine pure_ (i := 37) (N := some 68) (v := ?_) (a' := ?_) #[true, true, true, true, true, true, true, true, true, true, true, true, true, true, true, true, true, true, true, true, true, true, true, true, true, true, true, true, true, true, true, true, true, true, true, true, true, true, false, false, false] rfl rfl (any_of HT_.out (by kernel_rfl)) (fun _ _ _ h => h) (Or.inl ⟨by rfl, ?_⟩) ?_ ?_
        rotate_left
        · intro w'
          go_simp
          with_reducible rfl
        rotate_left
        · simp only [Act.put, List.setIfInBounds_toArray, List.set_cons_zero, List.set_cons_succ, i64_w, i32_w]
          rfl
        refine one_ (i := 38) (N := some 69) #[true, true, true, true, true, true, true, true, true, true, true, true, true, true, true, true, true, true, true, true, true, true, true, true, true, true, true, true, true, true, true, true, true, true, true, true, true, true, true, false, false] rfl rfl (one_of HT_.out (by kernel_rfl)) (by decide) (fun K hK => ?_)
        refine goes_ Try.func9 (by kernel_rfl) rfl #[] (by rfl) rfl rfl (by (try simp only [List.map_toArray, List.map_cons, List.map_nil]); first | done | rfl) ?_
        with_reducible refine (concordancelaw2_awake.calls _ _ awake_f).mono ?_
        rintro e w8 ⟨rfl, hb⟩
        refine ⟨_, rfl, ?_⟩
        replace HB := Aside0.mk (below_step HB.out hb)
        clear hb
        refine hK.out _ _ trivial (fun hHeld => ?_)
        clear hK K
        refine norm_ (a' := ?_) ?_ ?_
        rotate_left
        · show Act.put _ (some 69) _ = _
          simp only [Act.put, List.setIfInBounds_toArray, List.set_cons_zero, List.set_cons_succ, i64_w, i32_w]
          rfl
        refine pure_ (i := 39) (N := some 70) (v := ?_) (a' := ?_) #[true, true, true, true, true, true, true, true, true, true, true, true, true, true, true, true, true, true, true, true, true, true, true, true, true, true, true, true, true, true, true, true, true, true, true, true, true, true, true, true, false] rfl rfl (any_of HT_.out (by kernel_rfl)) (fun _ _ _ h => h) (Or.inl ⟨by rfl, ?_⟩) ?_ ?_
        rotate_left
        · intro w'
          go_simp
          with_reducible rfl
        rotate_left
        · simp only [Act.put, List.setIfInBounds_toArray, List.set_cons_zero, List.set_cons_succ, i64_w, i32_w]
          rfl
        refine pure_ (i := 40) (N := some 6) (v := ?_) (a' := ?_) #[true, true, true, true, true, true, true, true, true, true, true, true, true, true, true, true, true, true, true, true, true, true, true, true, true, true, true, true, true, true, true, true, true, true, true, true, true, true, true, true, true] rfl rfl (any_of HT_.out (by kernel_rfl)) (fun _ _ _ h => h) (Or.inl ⟨by rfl, ?_⟩) ?_ ?_
        rotate_left
        · intro w'
          go_simp
          with_reducible rfl
        rotate_left
        · simp only [Act.put, List.setIfInBounds_toArray, List.set_cons_zero, List.set_cons_succ, i64_w, i32_w]
          rfl
        refine done_ (done_of HT_.out (by kernel_rfl)) ?_
        go_wp2
        go_ret
        exact ⟨rfl, HB.out⟩
  · rw [if_neg hb] at h
    cases h
/-- As its row wants it. -/
theorem parts_walk (A0 : Option Addr) (c0 : Nat) (l0 : List Int) (a1 a2 : Int) (w : World) (hr0 : Kd.C (Kd.int .u8) w A0 l0.length l0) (hc0 : l0.length ≤ c0) (_y : l0.length * 1 ≤ 140737488351232) (hw : ∀ n ∈ l0, (Lit.int .u8 n).wf = true) (_w1 : (Lit.int .i64 a1).wf = true) (_w2 : (Lit.int .i64 a2).wf = true) :
    Calls Try.prog 8 #[.slice A0 l0.length c0, .int .i64 a1, .int .i64 a2] w fun e w' => e = .returned (.bool true) ∧ Below w.heap.size w w' :=
  parts_calls A0 c0 l0 a1 a2 true w hr0 hc0 (by unfold partsF; rw [if_pos (fun x hx => Plain.wf_u8 (hw x hx))])
end Go.Proofs.Ytgkdigaieelopaa.Hand
