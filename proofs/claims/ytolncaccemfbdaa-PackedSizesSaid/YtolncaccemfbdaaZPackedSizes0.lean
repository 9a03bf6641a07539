/- Texts of this seat, one behind the other: what concordance's PackedSizes reaches. -/
import Derived.Test.YtolncaccemfbdaaProg
import Derived.Below
import Derived.Deep.Draws
import Derived.OwnWalk
import Derived.Laws.MakeOwn
import Derived.Laws.OwnMore
import Derived.Tactics
import Derived.WalkKit
import Derived.KernelRfl
import Derived.RowKit3
import Derived.Deep.LoopGhost
import Derived.Deep.DeepCutAuto
import Derived.WalkSpells
import Derived.Laws.BitsLemmas
import Derived.Laws.BitsAllLaws
import Derived.RowKit
import Derived.Test.YtolncaccemfbdaaWWords
import Derived.Test.YtolncaccemfbdaaWLast
import Derived.Test.YtolncaccemfbdaaWMore
import Derived.Laws.BytesArg
import Derived.Lib.Small
import Derived.Lib.Walk
import Derived.Lib.BitFns
import Derived.ArgAppend
import Derived.Lib.AppendZeros
import Derived.Deep.AppendLies
import Derived.Maps.AppendAt
import Derived.Deep.OwnRows
import Derived.Lib.ConvBytes
import Derived.Laws.Slices
import Derived.Deep.QuietTactic
import Derived.BigQuiet
import Derived.WideLaws
import Derived.Deep.CutBlock
import Derived.Deep.RegionHeld3
import Derived.Laws.Rows
import Derived.Lib.AppendStr
import Derived.Laws.IdiomCopy
import Derived.OrdersHeld
import Derived.Test.YtolncaccemfbdaaWTab
import Derived.Test.YtolncaccemfbdaaWFour
import Derived.Test.YtolncaccemfbdaaWQPut
import Derived.Test.YtolncaccemfbdaaWApart
import Derived.Test.YtolncaccemfbdaaWArr
import Derived.Test.YtolncaccemfbdaaWZeros
import Derived.Test.YtolncaccemfbdaaWFoot
import Derived.Test.YtolncaccemfbdaaWKept
import Derived.Test.YtolncaccemfbdaaWShare
import Derived.Test.YtolncaccemfbdaaWN
import Derived.Test.YtolncaccemfbdaaWFootNe
import Derived.Test.YtolncaccemfbdaaWAt
import Derived.Test.YtolncaccemfbdaaWEqStruct
import Derived.Test.YtolncaccemfbdaaWRepsOne
import Derived.Test.YtolncaccemfbdaaWInv
import Derived.Test.YtolncaccemfbdaaWInvWords
import Derived.Test.YtolncaccemfbdaaWGuard
import Derived.Test.YtolncaccemfbdaaWNEv
/- Contracts, proved by hand, of slices.Clone and slices.Clip at bytes: Clone hands back a row of the call's own with the same bytes (no more than 2^47 of them); Clip hands back what it is given, its capacity cut to its length. -/
namespace Go.Proofs.Ytolncaccemfbdaa.Hand
open Go.RowKit Go.Proofs.YtolncaccemfbdaaW.PrintWords Go.Proofs.YtolncaccemfbdaaW.PrintLast Go.Proofs.YtolncaccemfbdaaW.PrintMore
set_option linter.unusedVariables false
set_option linter.unusedSimpArgs false

theorem hinfo_u8 : (Try.prog.info? 5).map (fun i => (i.zero, i.size, i.bytes)) = some (some (.int .u8 0), 1, 1) := by kernel_rfl

theorem C_none {α : Type} {d : Kd α} {w : World} {n : Nat} {xs : List α} (h : d.C w none n xs) : n = 0 := by
  rcases Nat.eq_zero_or_pos n with h0 | h0
  · exact h0
  · obtain ⟨ad, e, _⟩ := h.2.2 h0
    cases e

set_option maxHeartbeats 800000 in
set_option maxRecDepth 100000 in
theorem clone_calls (A0 : Option Addr) (c0 : Nat) (l0 : List Int) (w : World) (hr0 : Kd.C (Kd.int .u8) w A0 l0.length l0) (hl : l0.length ≤ 140737488355328) :
    Calls Try.prog 63 #[.slice A0 l0.length c0] w fun e w' => ∃ v0_ : Value, e = .returned v0_ ∧ Kd.R (Kd.int .u8) 5 w' w.heap.size (fun _ => True) v0_ l0 ∧ Below w.heap.size w w' := by
  cases A0 with
  | none =>
    have h0 := C_none hr0
    obtain rfl : l0 = [] := List.eq_nil_of_length_eq_zero h0
    clear h0
    have hnil := fun W => Lib.run_eql_slice_nil (P := Try.prog) W 23 5 none 0 c0 0 0 Try.underlying23
    go_enter Try.func63, Try.ntmps63
    go_wp2
    go_ret
    exact ⟨_, rfl, Kd.R_nil _ _ _ _ _, Below.refl _ _⟩
  | some ad =>
    have hnil := fun W => Lib.run_eql_slice_nil (P := Try.prog) W 23 5 (some ad) l0.length c0 0 0 Try.underlying23
    have HR0 := Aside0.mk hr0
    have HL := Aside0.mk hl
    have HB := Aside0.mk (Below.refl w.heap.size w)
    clear hr0 hl
    go_enter Try.func63, Try.ntmps63
    go_wp2_with (first | ((with_reducible refine gate_dst (N := 5) rfl ?_); refine Kd.R_lit (Kd.int .u8) _ 5 ?hg (N := 5) ?hd (xs := ([] : List Int)) (inner := []) (ok := fun _ => True) (okp := fun _ => True) ?hr ?hp (fun _ hk => hk) trivial (Below.refl _ _) (Nat.le_refl _) (by simp) ?_; (case hd => rfl); (case hg => rfl); (case hr => first | (go_simp; done) | (go_simp; rfl)); (case hp => exact Reps.none _ _); intro v1 w1 ho hb hg_ hnew_; clear hg_ hnew_; have HO := Aside0.mk ho; clear HB; have HB := Aside0.mk hb; clear ho hb) | ((with_reducible refine gate_builtin (b := .append) (xs := #[.tmp 5, .tmp 6]) rfl ?_); at_builtin; refine Kd.R_append_rows (Kd.int .u8) (w0 := w) w.heap.size rfl (.tmp 5) (.tmp 6) 23 5 (.int .u8 0) 1 rfl Try.underlying23 hinfo_u8 rfl (by decide) (by omega) v1 [] l0 _ _ _ (fun _ => True) (fun _ => False) rfl rfl ?aO ?aR (fun _ _ h => h) (fun _ h => h.elim) ?aF ?aB ?aS ?aL ?_; (case aR => exact (Kd.C_below HR0.out HB.out)); (case aB => exact HB.out); (case aF => exact (fun _ _ => trivial)); (case aO => exact HO.out); (case aS => exact (below_size HB.out)); (case aL => have := HL.out; simp only [List.length_nil]; omega); intro v2 w2 ho hb hg hat; clear HB HO; have HO := Aside0.mk ho; have HB := Aside0.mk hb; clear ho hb hg hat))
    go_ret
    exact ⟨_, rfl, HO.out, HB.out⟩

/-- What a row of one's own becomes by Clip: the same cells, the capacity cut to the length. -/
def Clipped (e : Nat) (w : World) (base : Nat) (v : Value) (xs : List Int) : Prop :=
  ∃ A c, v = .slice A xs.length xs.length ∧ Kd.R (Kd.int .u8) e w base (fun _ => True) (.slice A xs.length c) xs

theorem Clipped.V {e : Nat} {w : World} {base base' : Nat} {v : Value} {xs : List Int} (h : Clipped e w base v xs) : Kd.V (Kd.int .u8) e w base' (fun k_ => base ≤ k_) v xs := by
  obtain ⟨A, c, rfl, h⟩ := h
  have h2 := Kd.R_mono (Kd.R_bound h) (ok' := fun k_ => base ≤ k_) (fun k hk => hk.2.1)
  exact ⟨A, xs.length, rfl, Nat.le_refl _, Kd.R_F h2⟩

/-- A string made of a row that is only read. -/
theorem V_string {P : Program} {w : World} {src dst e : TypeId} {ok : Nat → Prop} {v : Value} {xs : List Int} (hs : P.underlying src = some (.slice e)) (he : P.underlying e = some (.int .u8)) (hd : P.underlying dst = some .string)
    (h : Kd.V (Kd.int .u8) 0 w 0 ok v xs) : (convert src dst v).run P w = .ok (.string (strOfNums xs)) w := by
  obtain ⟨A, c, rfl, _, hf⟩ := h
  exact Kd.C_string hs he hd (Kd.F_now hf)

set_option maxHeartbeats 800000 in
set_option maxRecDepth 100000 in
theorem clip_calls (v : Value) (xs : List Int) (w : World) (base : Nat) (ho : Kd.R (Kd.int .u8) 5 w base (fun _ => True) v xs) :
    Calls Try.prog 64 #[v] w fun e w' => (∃ v0_ : Value, e = .returned v0_ ∧ Clipped 5 w' base v0_ xs) ∧ w = w' := by
  obtain ⟨A, c, rfl⟩ := Kd.R_slice ho
  have hrd := Kd.R_reads' ho
  have hle : xs.length ≤ c := hrd.2.1
  have hmax : xs.length ≤ 9223372036854775807 := Kd.C_max hrd.2.2
  have HO := Aside0.mk ho
  clear ho hrd
  go_enter Try.func64, Try.ntmps64
  go_wp2
  go_ret
  exact ⟨⟨_, rfl, A, c, rfl, HO.out⟩, rfl⟩

end Go.Proofs.Ytolncaccemfbdaa.Hand

/- Plain facts on rows of bytes and on whole numbers of a kind, without any program. -/
namespace Go.Proofs.Ytolncaccemfbdaa.Plain
open Go.RowKit Go.Proofs.YtolncaccemfbdaaW.PrintWords Go.Proofs.YtolncaccemfbdaaW.PrintLast Go.Proofs.YtolncaccemfbdaaW.PrintMore
set_option linter.unusedVariables false
set_option linter.unusedSimpArgs false

def isB (l : List Int) : Prop := ∀ x ∈ l, 0 ≤ x ∧ x < 256
theorem w64 {x : Int} (h0 : -9223372036854775808 ≤ x) (h1 : x < 9223372036854775808) : wrap64 x = x := by unfold wrap64; omega
theorem wrap_u64 (n : Int) : IntKind.u64.wrap n = n % 18446744073709551616 := by simp [IntKind.wrap, IntKind.bits, IntKind.signed]
theorem rd_at (l : List Int) (i : Nat) (h : i < l.length) : rd l (i : Int) = l[i] := by
  unfold rd
  rw [Int.toNat_natCast, List.getD_eq_getElem?_getD, List.getElem?_eq_getElem h]
  rfl

theorem isB_drop {l : List Int} (h : isB l) (i : Nat) : isB (l.drop i) := fun x hx => h x (List.mem_of_mem_drop hx)
theorem isB_take {l : List Int} (h : isB l) (i : Nat) : isB (l.take i) := fun x hx => h x (List.mem_of_mem_take hx)
theorem isB_append {l r : List Int} (h : isB l) (h' : isB r) : isB (l ++ r) := fun x hx => (List.mem_append.1 hx).elim (h x) (h' x)
theorem isB_bytesOf (s : ByteArray) : isB (bytesOf s) := by
  intro x hx
  obtain ⟨b, _, rfl⟩ := List.mem_map.1 hx
  have := b.toNat_lt
  omega
theorem bytesOf_strOfNums {l : List Int} (h : isB l) : bytesOf (strOfNums l) = l := by
  unfold bytesOf
  rw [strOfNums_data, List.map_map]
  conv => rhs; rw [← List.map_id l]
  refine List.map_congr_left fun x hx => ?_
  have := h x hx
  show (((UInt8.ofNat x.toNat).toNat : Nat) : Int) = x
  rw [UInt8.toNat_ofNat']
  omega
theorem strOfNums_inj {l r : List Int} (h : isB l) (h' : isB r) (e : (strOfNums l).toList = (strOfNums r).toList) : l = r := by
  have := congrArg (fun s : List UInt8 => s.map fun b => (b.toNat : Int)) e
  rw [ByteArray.toList_eq, ByteArray.toList_eq] at this
  have e2 : bytesOf (strOfNums l) = bytesOf (strOfNums r) := this
  rwa [bytesOf_strOfNums h, bytesOf_strOfNums h'] at e2
theorem strOfNums_append (l r : List Int) : strOfNums l ++ strOfNums r = strOfNums (l ++ r) := by
  apply ByteArray.ext
  rw [ByteArray.data_append]
  apply Array.ext'
  simp [strOfNums]

theorem wf_i64 {a : Int} (h : (Lit.int .i64 a).wf = true) : -9223372036854775808 ≤ a ∧ a < 9223372036854775808 := by
  have h : IntKind.i64.min ≤ a ∧ a ≤ IntKind.i64.max := by simpa [Lit.wf] using h
  rw [show IntKind.i64.min = -9223372036854775808 from by decide, show IntKind.i64.max = 9223372036854775807 from by decide] at h
  omega
theorem wf_u64 {a : Int} (h : (Lit.int .u64 a).wf = true) : 0 ≤ a ∧ a < 18446744073709551616 := by
  have h : IntKind.u64.min ≤ a ∧ a ≤ IntKind.u64.max := by simpa [Lit.wf] using h
  rw [show IntKind.u64.min = 0 from by decide, show IntKind.u64.max = 18446744073709551615 from by decide] at h
  omega
theorem wf_u8 {a : Int} (h : (Lit.int .u8 a).wf = true) : 0 ≤ a ∧ a < 256 := by
  have h : IntKind.u8.min ≤ a ∧ a ≤ IntKind.u8.max := by simpa [Lit.wf] using h
  rw [show IntKind.u8.min = 0 from by decide, show IntKind.u8.max = 255 from by decide] at h
  omega

theorem wf_u32 {a : Int} (h : (Lit.int .u32 a).wf = true) : 0 ≤ a ∧ a < 4294967296 := by
  have h : IntKind.u32.min ≤ a ∧ a ≤ IntKind.u32.max := by simpa [Lit.wf] using h
  rw [show IntKind.u32.min = 0 from by decide, show IntKind.u32.max = 4294967295 from by decide] at h
  omega
/-- A row of low bits, taken out of a whole number. -/
theorem and_low (a : Int) (j : Nat) (hj : j < 63) : Go.bits .and .i64 a ((2 ^ j - 1 : Nat) : Int) = a % ((2 ^ j : Nat) : Int) := by
  show IntKind.i64.wrap ((BitVec.ofInt 64 a &&& BitVec.ofInt 64 ((2 ^ j - 1 : Nat) : Int)).toNat : Int) = _
  have hp : 2 ^ j ≤ 2 ^ 62 := Nat.pow_le_pow_right (by omega) (by omega)
  have hp0 : 0 < 2 ^ j := Nat.pow_pos (by omega)
  have e : (BitVec.ofInt 64 a &&& BitVec.ofInt 64 ((2 ^ j - 1 : Nat) : Int)).toNat = (a % 18446744073709551616).toNat % 2 ^ j := by
    rw [BitVec.toNat_and, BitVec.toNat_ofInt, Go.ofInt_u64 _ (by omega)]
    exact Nat.and_two_pow_sub_one_eq_mod _ j
  have hd : (2 : Int) ^ 64 = ((2 ^ j : Nat) : Int) * ((2 ^ (64 - j) : Nat) : Int) := by
    rw [← Int.natCast_mul, ← Nat.pow_add, show j + (64 - j) = 64 from by omega]
    rfl
  have hm : a % 18446744073709551616 % ((2 ^ j : Nat) : Int) = a % ((2 ^ j : Nat) : Int) := by
    refine Int.emod_emod_of_dvd a ⟨((2 ^ (64 - j) : Nat) : Int), ?_⟩
    rw [← hd]
    rfl
  have h0 : 0 ≤ a % ((2 ^ j : Nat) : Int) := Int.emod_nonneg _ (by omega)
  have h1 : a % ((2 ^ j : Nat) : Int) < ((2 ^ j : Nat) : Int) := Int.emod_lt_of_pos _ (by omega)
  rw [e]
  have e2 : (((a % 18446744073709551616).toNat % 2 ^ j : Nat) : Int) = a % ((2 ^ j : Nat) : Int) := by
    rw [Int.natCast_emod, Int.toNat_of_nonneg (by omega), hm]
  rw [e2, Go.IntKind.wrap_i64]
  generalize a % ((2 ^ j : Nat) : Int) = q at h0 h1
  generalize 2 ^ j = p at hp h1
  omega
end Go.Proofs.Ytolncaccemfbdaa.Plain

/- The contract of math/bits.Len64: how many bits a number has. -/
namespace Go.Proofs.Ytolncaccemfbdaa.Hand
open Go.RowKit Go.Proofs.YtolncaccemfbdaaW.PrintWords Go.Proofs.YtolncaccemfbdaaW.PrintLast Go.Proofs.YtolncaccemfbdaaW.PrintMore
set_option linter.unusedVariables false
set_option linter.unusedSimpArgs false
theorem tab_size : Lib.len8tab.size = 256 := by decide +kernel
theorem tab_len : ∀ n : Fin 256, (Lib.len8tab[n.val]'(by rw [tab_size]; exact n.isLt)).toNat = Lib.bitLen n.val := by decide +kernel
theorem len_far {x y : Int} (k : Nat) (hx : x.toNat < 18446744073709551616) (h : k = 0 ∨ 2 ^ k ≤ x.toNat) (hk : k ≤ 56) (hy : y.toNat = x.toNat / 2 ^ k) (h0 : 0 ≤ y) (h1 : y ≤ 255) (hb : y.toNat < Lib.len8tab.size) :
    wrap64 ((k : Int) + wrap64 ((Lib.len8tab[y.toNat]'hb).toNat : Int)) = (Lib.bitLen x.toNat : Int) := by
  have hl := Lib.bitLen_le8' y h0 h1
  have ht := tab_len ⟨y.toNat, by omega⟩
  dsimp only at ht
  rw [ht]
  have hs : Lib.bitLen x.toNat = k + Lib.bitLen y.toNat := by
    rcases h with rfl | h
    · rw [hy, Nat.pow_zero, Nat.div_one, Nat.zero_add]
    · rw [hy]
      exact Lib.bitLen_shift k x.toNat h hx
  have e : wrap64 (Lib.bitLen y.toNat : Int) = (Lib.bitLen y.toNat : Int) := by unfold wrap64; omega
  rw [e, hs]
  unfold wrap64
  omega
def len64F (x : Int) : Option Int := if 0 ≤ x ∧ x ≤ 18446744073709551615 then some (Lib.bitLen x.toNat : Int) else none
set_option maxHeartbeats 4000000 in
set_option maxRecDepth 100000 in
theorem len64_calls (x r : Int) (w : World) (h : len64F x = some r) : Calls Try.prog 47 #[.int .u64 x] w fun e w' => e = .returned (.int .i64 r) ∧ Drawn0 w w' := by
  unfold len64F at h
  by_cases hx : 0 ≤ x ∧ x ≤ 18446744073709551615
  · rw [if_pos hx] at h
    obtain rfl := Option.some.inj h
    obtain ⟨h0, h1⟩ := hx
    clear h
    go_enter Try.func47, Try.ntmps47
    go_wp2
    all_goals first
      | (exfalso; have hs := tab_size; omega)
      | (have hb : (x / 4294967296 / 65536 / 256).toNat < Lib.len8tab.size := by (rw [tab_size]; omega)
         have hz := len_far (x := x) (y := x / 4294967296 / 65536 / 256) 56 (by omega) (.inr (by omega)) (by omega) (by omega) (by omega) (by omega) hb
         go_ret
         exact ⟨congrArg Ending.returned (congrArg (Value.int IntKind.i64) hz), Drawn0.refl _⟩)
      | (have hb : (x / 4294967296 / 65536).toNat < Lib.len8tab.size := by (rw [tab_size]; omega)
         have hz := len_far (x := x) (y := x / 4294967296 / 65536) 48 (by omega) (.inr (by omega)) (by omega) (by omega) (by omega) (by omega) hb
         go_ret
         exact ⟨congrArg Ending.returned (congrArg (Value.int IntKind.i64) hz), Drawn0.refl _⟩)
      | (have hb : (x / 4294967296 / 256).toNat < Lib.len8tab.size := by (rw [tab_size]; omega)
         have hz := len_far (x := x) (y := x / 4294967296 / 256) 40 (by omega) (.inr (by omega)) (by omega) (by omega) (by omega) (by omega) hb
         go_ret
         exact ⟨congrArg Ending.returned (congrArg (Value.int IntKind.i64) hz), Drawn0.refl _⟩)
      | (have hb : (x / 4294967296).toNat < Lib.len8tab.size := by (rw [tab_size]; omega)
         have hz := len_far (x := x) (y := x / 4294967296) 32 (by omega) (.inr (by omega)) (by omega) (by omega) (by omega) (by omega) hb
         go_ret
         exact ⟨congrArg Ending.returned (congrArg (Value.int IntKind.i64) hz), Drawn0.refl _⟩)
      | (have hb : (x / 65536 / 256).toNat < Lib.len8tab.size := by (rw [tab_size]; omega)
         have hz := len_far (x := x) (y := x / 65536 / 256) 24 (by omega) (.inr (by omega)) (by omega) (by omega) (by omega) (by omega) hb
         go_ret
         exact ⟨congrArg Ending.returned (congrArg (Value.int IntKind.i64) hz), Drawn0.refl _⟩)
      | (have hb : (x / 65536).toNat < Lib.len8tab.size := by (rw [tab_size]; omega)
         have hz := len_far (x := x) (y := x / 65536) 16 (by omega) (.inr (by omega)) (by omega) (by omega) (by omega) (by omega) hb
         go_ret
         exact ⟨congrArg Ending.returned (congrArg (Value.int IntKind.i64) hz), Drawn0.refl _⟩)
      | (have hb : (x / 256).toNat < Lib.len8tab.size := by (rw [tab_size]; omega)
         have hz := len_far (x := x) (y := x / 256) 8 (by omega) (.inr (by omega)) (by omega) (by omega) (by omega) (by omega) hb
         go_ret
         exact ⟨congrArg Ending.returned (congrArg (Value.int IntKind.i64) hz), Drawn0.refl _⟩)
      | (have hb : (x).toNat < Lib.len8tab.size := by (rw [tab_size]; omega)
         have hz := len_far (x := x) (y := x) 0 (by omega) (.inl rfl) (by omega) (by omega) (by omega) (by omega) hb
         rw [show ((0 : Nat) : Int) = 0 from rfl, Int.zero_add] at hz
         go_ret
         exact ⟨congrArg Ending.returned (congrArg (Value.int IntKind.i64) hz), Drawn0.refl _⟩)
  · rw [if_neg hx] at h
    cases h
end Go.Proofs.Ytolncaccemfbdaa.Hand

/- Numbers of a few bits as bytes, in plain words: what is packed, and what is read. -/
namespace Go.Proofs.Ytolncaccemfbdaa.Plain
set_option linter.unusedVariables false
set_option linter.unusedSimpArgs false
/-- The bytes of a number, the least ones first. -/
def leB (N size : Nat) : List Int := (List.range size).map fun j => ((N / 2 ^ (8 * j) % 256 : Nat) : Int)
theorem leB_length (N size : Nat) : (leB N size).length = size := by simp [leB]
theorem leB_get (N : Nat) {size j : Nat} (h : j < size) : (leB N size)[j]? = some ((N / 2 ^ (8 * j) % 256 : Nat) : Int) := by simp [leB, h]
theorem leB_getD (N : Nat) {size j : Nat} (h : j < size) : (leB N size).getD j 0 = ((N / 2 ^ (8 * j) % 256 : Nat) : Int) := by
  rw [List.getD_eq_getElem?_getD, leB_get N h, Option.getD_some]
theorem leB_zero (size : Nat) : leB 0 size = List.replicate size 0 := by
  apply List.ext_getElem?
  intro j
  by_cases h : j < size
  · rw [leB_get 0 h, List.getElem?_replicate, if_pos h, Nat.zero_div]
    rfl
  · rw [List.getElem?_eq_none (by rw [leB_length]; omega), List.getElem?_replicate, if_neg h]
theorem leB_bytes (N size : Nat) : ∀ x ∈ leB N size, 0 ≤ x ∧ x < 256 := by
  intro x hx
  obtain ⟨j, _, rfl⟩ := List.mem_map.1 hx
  omega
/-- What is packed, as one number. -/
def packN (w : Nat) : List Int → Nat
  | [] => 0
  | x :: r => x.toNat % 2 ^ w + 2 ^ w * packN w r
theorem packN_lt (w : Nat) : ∀ l : List Int, packN w l < 2 ^ (w * l.length)
  | [] => by simp [packN]
  | x :: r => by
    have h := packN_lt w r
    have h2 := Nat.mod_lt x.toNat (Nat.two_pow_pos w)
    rw [packN, List.length_cons, Nat.mul_succ, Nat.pow_add, Nat.mul_comm (2 ^ (w * r.length))]
    calc x.toNat % 2 ^ w + 2 ^ w * packN w r < 2 ^ w + 2 ^ w * packN w r := by omega
      _ = 2 ^ w * (packN w r + 1) := by rw [Nat.mul_succ, Nat.add_comm]
      _ ≤ 2 ^ w * 2 ^ (w * r.length) := Nat.mul_le_mul_left _ h
theorem packN_snoc (w : Nat) (x : Int) : ∀ l : List Int, packN w (l ++ [x]) = packN w l + x.toNat % 2 ^ w * 2 ^ (w * l.length)
  | [] => by simp [packN]
  | y :: r => by
    rw [List.cons_append, packN, packN, packN_snoc w x r, List.length_cons, Nat.mul_succ, Nat.pow_add, Nat.mul_add, Nat.add_assoc]
    congr 2
    rw [Nat.mul_left_comm, Nat.mul_comm (2 ^ w)]
/-- What is packed of the first numbers, and of some bits of the next one. -/
def partN (w : Nat) (l : List Int) (i k : Nat) : Nat := packN w (l.take i) + (l.getD i 0).toNat % 2 ^ k * 2 ^ (w * i)
theorem partN_zero (w : Nat) (l : List Int) (i : Nat) : partN w l i 0 = packN w (l.take i) := by
  unfold partN
  rw [Nat.pow_zero, Nat.mod_one, Nat.zero_mul, Nat.add_zero]
theorem mod_next' (P i : Nat) : P % 2 ^ (i + 1) = P / 2 ^ i % 2 * 2 ^ i + P % 2 ^ i := by
  rw [Nat.pow_succ, Nat.mod_mul, Nat.add_comm, Nat.mul_comm]
theorem partN_step (w : Nat) (l : List Int) (i k : Nat) : partN w l i (k + 1) = partN w l i k + (l.getD i 0).toNat / 2 ^ k % 2 * 2 ^ (w * i + k) := by
  unfold partN
  rw [mod_next', Nat.add_mul, Nat.pow_add, Nat.add_assoc]
  congr 1
  rw [Nat.add_comm, Nat.mul_assoc, Nat.mul_comm (2 ^ k)]
theorem partN_lt (w : Nat) (l : List Int) (i k : Nat) (hi : i ≤ l.length) : partN w l i k < 2 ^ (w * i + k) := by
  unfold partN
  have h := packN_lt w (l.take i)
  rw [List.length_take, Nat.min_eq_left hi] at h
  have h2 := Nat.mod_lt (l.getD i 0).toNat (Nat.two_pow_pos k)
  rw [Nat.pow_add]
  calc packN w (l.take i) + (l.getD i 0).toNat % 2 ^ k * 2 ^ (w * i) < 2 ^ (w * i) + (l.getD i 0).toNat % 2 ^ k * 2 ^ (w * i) := by omega
    _ = ((l.getD i 0).toNat % 2 ^ k + 1) * 2 ^ (w * i) := by rw [Nat.succ_mul, Nat.add_comm]
    _ ≤ 2 ^ k * 2 ^ (w * i) := Nat.mul_le_mul_right _ h2
    _ = 2 ^ (w * i) * 2 ^ k := Nat.mul_comm _ _
theorem partN_full (w : Nat) (l : List Int) (i : Nat) (hi : i < l.length) : partN w l i w = packN w (l.take (i + 1)) := by
  unfold partN
  rw [List.take_succ_eq_append_getElem hi, packN_snoc, List.length_take, Nat.min_eq_left (by omega), List.getD_eq_getElem?_getD, List.getElem?_eq_getElem hi, Option.getD_some]
/-- One bit more. -/
theorem bit_at {N p b : Nat} (hN : N < 2 ^ p) (hb : b < 2) : (N / 2 ^ (8 * (p / 8)) % 256) ||| (b * 2 ^ (p % 8)) = (N + b * 2 ^ p) / 2 ^ (8 * (p / 8)) % 256 ∧ b * 2 ^ (p % 8) < 256 := by
  have hp : p = 8 * (p / 8) + p % 8 := by omega
  have hr : p % 8 < 8 := Nat.mod_lt _ (by decide)
  have h8 : 2 ^ (p % 8) ≤ 128 := by have := Nat.pow_le_pow_right (n := 2) (by decide) (show p % 8 ≤ 7 by omega); omega
  have e : (N + b * 2 ^ p) / 2 ^ (8 * (p / 8)) = N / 2 ^ (8 * (p / 8)) + b * 2 ^ (p % 8) := by
    conv => lhs; rw [show 2 ^ p = 2 ^ (8 * (p / 8)) * 2 ^ (p % 8) from by rw [← Nat.pow_add, ← hp]]
    rw [Nat.mul_left_comm, Nat.add_mul_div_left _ _ (Nat.two_pow_pos _)]
  have hq : N / 2 ^ (8 * (p / 8)) < 2 ^ (p % 8) := by
    rw [Nat.div_lt_iff_lt_mul (Nat.two_pow_pos _), ← Nat.pow_add, Nat.add_comm, ← hp]
    exact hN
  have hbb : b * 2 ^ (p % 8) ≤ 2 ^ (p % 8) := by
    have := Nat.mul_le_mul_right (2 ^ (p % 8)) (show b ≤ 1 by omega)
    omega
  refine ⟨?_, by omega⟩
  rw [e, Nat.mod_eq_of_lt (a := N / 2 ^ (8 * (p / 8))) (by omega), Nat.mod_eq_of_lt (a := N / 2 ^ (8 * (p / 8)) + b * 2 ^ (p % 8)) (by omega), Nat.or_comm, Nat.mul_comm b, ← Nat.two_pow_add_eq_or_of_lt hq, Nat.add_comm]
theorem leB_put {N p b size : Nat} (hN : N < 2 ^ p) (hb : b < 2) (hp : p < 8 * size) : (leB N size).set (p / 8) (((N / 2 ^ (8 * (p / 8)) % 256) ||| (b * 2 ^ (p % 8)) : Nat) : Int) = leB (N + b * 2 ^ p) size := by
  have hp8 : p = 8 * (p / 8) + p % 8 := by omega
  have hr : p % 8 < 8 := Nat.mod_lt _ (by decide)
  apply List.ext_getElem?
  intro j
  rw [List.getElem?_set, leB_length]
  by_cases hj : j < size
  · rw [leB_get _ hj]
    by_cases e : p / 8 = j
    · rw [if_pos e, if_pos (by omega), (bit_at hN hb).1, e, leB_get _ hj]
    · rw [if_neg e, leB_get _ hj]
      congr 2
      by_cases hlt : j < p / 8
      · have e1 : 2 ^ p = 2 ^ (8 * j) * (256 * 2 ^ (p - 8 * j - 8)) := by
          rw [show (256 : Nat) = 2 ^ 8 from rfl, ← Nat.pow_add, ← Nat.pow_add]
          congr 1
          omega
        rw [e1, Nat.mul_left_comm, Nat.add_mul_div_left _ _ (Nat.two_pow_pos _), Nat.mul_left_comm, Nat.add_mul_mod_self_left]
      · have hjp : 2 ^ (p + 1) ≤ 2 ^ (8 * j) := Nat.pow_le_pow_right (by decide) (by omega)
        rw [Nat.pow_succ] at hjp
        have hb2 : b * 2 ^ p ≤ 2 ^ p := by
          have := Nat.mul_le_mul_right (2 ^ p) (show b ≤ 1 by omega)
          omega
        rw [Nat.div_eq_of_lt (show N < 2 ^ (8 * j) by omega), Nat.div_eq_of_lt (show N + b * 2 ^ p < 2 ^ (8 * j) by omega)]
  · rw [List.getElem?_eq_none (by rw [leB_length]; omega)]
    by_cases e : p / 8 = j
    · omega
    · rw [if_neg e, List.getElem?_eq_none (by rw [leB_length]; omega)]
/-- Bytes as one number, the least ones first. -/
def numB : List Int → Nat
  | [] => 0
  | x :: l => x.toNat + 256 * numB l
theorem numB_lt : ∀ l : List Int, (∀ x ∈ l, 0 ≤ x ∧ x < 256) → numB l < 2 ^ (8 * l.length)
  | [], _ => by simp [numB]
  | x :: l, h => by
    have h1 := numB_lt l (fun y hy => h y (.tail _ hy))
    have h2 := h x (.head _)
    have e : 2 ^ (8 * (x :: l).length) = 256 * 2 ^ (8 * l.length) := by
      rw [List.length_cons, Nat.mul_succ, Nat.pow_add, Nat.mul_comm]
    rw [numB, e]
    omega
theorem numB_at : ∀ (l : List Int) (j : Nat), (∀ x ∈ l, 0 ≤ x ∧ x < 256) → numB l / 2 ^ (8 * j) % 256 = (l.getD j 0).toNat
  | [], j, _ => by simp [numB]
  | x :: l, 0, h => by
    have h2 := h x (.head _)
    simp only [numB, Nat.mul_zero, Nat.pow_zero, Nat.div_one, List.getD_cons_zero]
    omega
  | x :: l, j + 1, h => by
    have h2 := h x (.head _)
    have h1 := numB_at l j (fun y hy => h y (.tail _ hy))
    rw [List.getD_cons_succ, ← h1, numB, Nat.mul_succ, Nat.add_comm (8 * j), Nat.pow_add, ← Nat.div_div_eq_div_mul, show (2 : Nat) ^ 8 = 256 from rfl, Nat.add_mul_div_left _ _ (by decide : 0 < 256), show x.toNat / 256 = 0 from by omega, Nat.zero_add]
theorem numB_bit {l : List Int} (h : ∀ x ∈ l, 0 ≤ x ∧ x < 256) (p : Nat) : numB l / 2 ^ p % 2 = (l.getD (p / 8) 0).toNat / 2 ^ (p % 8) % 2 := by
  have hr : p % 8 < 8 := Nat.mod_lt _ (by decide)
  rw [← numB_at l (p / 8) h]
  conv => lhs; rw [show p = 8 * (p / 8) + p % 8 from by omega, Nat.pow_add, ← Nat.div_div_eq_div_mul]
  generalize numB l / 2 ^ (8 * (p / 8)) = X
  have e : (256 : Nat) = 2 ^ (p % 8) * (2 * 2 ^ (7 - p % 8)) := by
    rw [Nat.mul_comm 2, ← Nat.pow_succ, ← Nat.pow_add, show p % 8 + (7 - p % 8).succ = 8 from by omega]
  conv => rhs; rw [e, Nat.mod_mul_right_div_self, Nat.mod_mul_right_mod]
theorem numB_leB (size : Nat) : ∀ N : Nat, N < 2 ^ (8 * size) → numB (leB N size) = N := by
  induction size with
  | zero => intro N h; simp only [Nat.mul_zero, Nat.pow_zero] at h; show 0 = N; omega
  | succ s ih =>
    intro N h
    have e : leB N (s + 1) = ((N % 256 : Nat) : Int) :: leB (N / 256) s := by
      unfold leB
      rw [List.range_succ_eq_map, List.map_cons, List.map_map]
      congr 1
      · simp
      · apply List.map_congr_left
        intro j _
        show ((N / 2 ^ (8 * (j + 1)) % 256 : Nat) : Int) = _
        rw [Nat.mul_succ, Nat.add_comm (8 * j), Nat.pow_add, ← Nat.div_div_eq_div_mul]
    have e2 : 2 ^ (8 * (s + 1)) = 256 * 2 ^ (8 * s) := by
      rw [Nat.mul_succ, Nat.pow_add, Nat.mul_comm]
    rw [e2] at h
    rw [e, numB, ih _ (by rw [Nat.div_lt_iff_lt_mul (by decide)]; omega), Int.toNat_natCast]
    omega
theorem leB_numB {l : List Int} (h : ∀ x ∈ l, 0 ≤ x ∧ x < 256) : leB (numB l) l.length = l := by
  apply List.ext_getElem?
  intro j
  by_cases hj : j < l.length
  · have hx := h _ (List.getElem_mem hj)
    rw [leB_get _ hj, numB_at l j h, List.getD_eq_getElem?_getD, List.getElem?_eq_getElem hj, Option.getD_some, Int.toNat_of_nonneg hx.1]
  · rw [List.getElem?_eq_none (by rw [leB_length]; omega), List.getElem?_eq_none (by omega)]
/-- The i-th number of so many bits. -/
def valN (N w i : Nat) : Nat := N / 2 ^ (w * i) % 2 ^ w
def valsN (N w n : Nat) : List Int := (List.range n).map fun i => ((valN N w i : Nat) : Int)
theorem valsN_length (N w n : Nat) : (valsN N w n).length = n := by simp [valsN]
theorem valsN_succ (N w n : Nat) : valsN N w (n + 1) = valsN N w n ++ [((valN N w n : Nat) : Int)] := by
  unfold valsN
  rw [List.range_succ, List.map_append]
  rfl
/-- Bit for bit. -/
theorem val_bit (N w i k : Nat) : (N / 2 ^ (w * i) % 2 ^ k) ||| (N / 2 ^ (w * i + k) % 2 * 2 ^ k) = N / 2 ^ (w * i) % 2 ^ (k + 1) := by
  rw [mod_next', Nat.div_div_eq_div_mul, ← Nat.pow_add, Nat.or_comm, Nat.mul_comm _ (2 ^ k), ← Nat.two_pow_add_eq_or_of_lt (Nat.mod_lt _ (Nat.two_pow_pos k))]
theorem val_none {N w i k : Nat} (h : N / 2 ^ (w * i + k) % 2 = 0) : N / 2 ^ (w * i) % 2 ^ (k + 1) = N / 2 ^ (w * i) % 2 ^ k := by
  rw [← val_bit, h, Nat.zero_mul, Nat.or_zero]
theorem val_one {N w i k : Nat} (h : N / 2 ^ (w * i + k) % 2 = 1) : N / 2 ^ (w * i) % 2 ^ (k + 1) = (N / 2 ^ (w * i) % 2 ^ k) ||| 2 ^ k := by
  rw [← val_bit, h, Nat.one_mul]
/-- The bits behind the numbers are nought. -/
theorem high_zero {N a : Nat} : ∀ (d : Nat), N < 2 ^ (a + d) → ((∀ p, a ≤ p → p < a + d → N / 2 ^ p % 2 = 0) ↔ N < 2 ^ a) := by
  intro d h
  constructor
  · intro hz
    induction d with
    | zero => exact h
    | succ d ih =>
      refine ih ?_ (fun p h1 h2 => hz p h1 (by omega))
      have h1 := hz (a + d) (by omega) (by omega)
      have h2 : N / 2 ^ (a + d) < 2 := by rw [Nat.div_lt_iff_lt_mul (Nat.two_pow_pos _), Nat.mul_comm, ← Nat.pow_succ]; exact h
      have h3 : N / 2 ^ (a + d) = 0 := by
        generalize N / 2 ^ (a + d) = X at h1 h2 ⊢
        omega
      rcases Nat.div_eq_zero_iff.1 h3 with h4 | h4
      · exact absurd h4 (Nat.ne_of_gt (Nat.two_pow_pos _))
      · exact h4
  · intro hl p h1 h2
    rw [Nat.div_eq_of_lt (Nat.lt_of_lt_of_le hl (Nat.pow_le_pow_right (by decide) h1))]
/-- What was packed is read again. -/
theorem valN_pack (w : Nat) : ∀ (l : List Int) (i : Nat), i < l.length → valN (packN w l) w i = (l.getD i 0).toNat % 2 ^ w
  | [], i, h => by simp at h
  | x :: r, 0, _ => by
    unfold valN
    rw [packN, Nat.mul_zero, Nat.pow_zero, Nat.div_one, Nat.add_mul_mod_self_left, Nat.mod_mod, List.getD_cons_zero]
  | x :: r, i + 1, h => by
    have ih := valN_pack w r i (by simpa using h)
    unfold valN at ih ⊢
    rw [packN, Nat.mul_succ, Nat.add_comm (w * i), Nat.pow_add, ← Nat.div_div_eq_div_mul, Nat.add_mul_div_left _ _ (Nat.two_pow_pos _), Nat.div_eq_of_lt (Nat.mod_lt _ (Nat.two_pow_pos _)), Nat.zero_add, ih, List.getD_cons_succ]
theorem valsN_pack {w : Nat} {l : List Int} (h : ∀ x ∈ l, 0 ≤ x ∧ x < 2 ^ w) : valsN (packN w l) w l.length = l := by
  apply List.ext_getElem?
  intro j
  by_cases hj : j < l.length
  · have hx := h _ (List.getElem_mem hj)
    have hv := valN_pack w l j hj
    rw [List.getD_eq_getElem?_getD, List.getElem?_eq_getElem hj, Option.getD_some, Nat.mod_eq_of_lt (by have h2 := hx.2; rw [← Int.toNat_of_nonneg hx.1] at h2; exact_mod_cast h2)] at hv
    unfold valsN
    rw [List.getElem?_map, List.getElem?_range hj, Option.map_some, hv, List.getElem?_eq_getElem hj, Int.toNat_of_nonneg hx.1]
  · rw [List.getElem?_eq_none (by rw [valsN_length]; omega), List.getElem?_eq_none (by omega)]
end Go.Proofs.Ytolncaccemfbdaa.Plain

/- Packed numbers: how many bits a row of numbers needs, what New tells, how a Vec lies in memory. -/
namespace Go.Proofs.Ytolncaccemfbdaa.Plain
open Go.RowKit Go.Proofs.YtolncaccemfbdaaW.PrintWords Go.Proofs.YtolncaccemfbdaaW.PrintLast Go.Proofs.YtolncaccemfbdaaW.PrintMore
set_option linter.unusedVariables false
set_option linter.unusedSimpArgs false
/-- How many bits the greatest of them needs. -/
def widthL (l : List Int) : Nat := l.foldl (fun m x => max m (Lib.bitLen x.toNat)) 0
theorem widthL_snoc (l : List Int) (x : Int) : widthL (l ++ [x]) = max (widthL l) (Lib.bitLen x.toNat) := by simp [widthL]
theorem mx_cast (a b : Nat) : mx (a : Int) (b : Int) = ((max a b : Nat) : Int) := by
  unfold mx
  by_cases h : a < b
  · rw [if_pos (by omega)]
    omega
  · rw [if_neg (by omega)]
    omega
/-- What New tells: 0 where it does. -/
def newE (a : Int) (l : List Int) : Int := if a < 0 ∨ 64 < a ∨ a < (widthL l : Int) then 1 else if 100000 < l.length then 2 else 0
theorem newE_ok {a : Int} {l : List Int} (h : newE a l = 0) : 0 ≤ a ∧ a ≤ 64 ∧ (widthL l : Int) ≤ a ∧ l.length ≤ 100000 := by
  unfold newE at h
  split at h
  · cases h
  · split at h
    · cases h
    · omega
theorem newE_of {a : Int} {l : List Int} (h0 : 0 ≤ a) (h1 : a ≤ 64) (h2 : (widthL l : Int) ≤ a) (h3 : l.length ≤ 100000) : newE a l = 0 := by
  unfold newE
  rw [if_neg (by omega), if_neg (by omega)]
theorem bitLen_pow {x : Nat} (hx : x < 2 ^ 64) : x < 2 ^ Lib.bitLen x := by
  have h : ∀ (f x : Nat), x < 2 ^ f → x < 2 ^ Lib.bitLenAux f x := by
    intro f
    induction f with
    | zero => intro x h; simpa [Lib.bitLenAux] using h
    | succ f ih =>
      intro x h
      rw [Lib.bitLenAux]
      by_cases h0 : x = 0
      · rw [if_pos h0, h0]
        decide
      · rw [if_neg h0]
        have := ih (x / 2) (by rw [Nat.pow_succ] at h; omega)
        rw [Nat.pow_add]
        omega
  exact h 64 x hx
theorem bitLen_low {x : Nat} (h0 : x ≠ 0) : 2 ^ (Lib.bitLen x - 1) ≤ x := by
  have h : ∀ (f x : Nat), x ≠ 0 → 2 ^ (Lib.bitLenAux f x - 1) ≤ x := by
    intro f
    induction f with
    | zero => intro x h; simp [Lib.bitLenAux]; omega
    | succ f ih =>
      intro x h
      rw [Lib.bitLenAux, if_neg h, Nat.add_sub_cancel_left]
      by_cases h2 : x / 2 = 0
      · have hz : Lib.bitLenAux f 0 = 0 := by cases f <;> simp [Lib.bitLenAux]
        rw [h2, hz]
        simp
        omega
      · have := ih (x / 2) h2
        generalize Lib.bitLenAux f (x / 2) = L at this
        cases L with
        | zero => simp; omega
        | succ L =>
          rw [Nat.add_sub_cancel] at this
          rw [Nat.pow_succ]
          omega
  exact h 64 x h0
theorem widthL_le {l : List Int} {k : Nat} : widthL l ≤ k ↔ ∀ x ∈ l, Lib.bitLen x.toNat ≤ k := by
  have h : ∀ (l : List Int) (m : Nat), l.foldl (fun m x => max m (Lib.bitLen x.toNat)) m ≤ k ↔ m ≤ k ∧ ∀ x ∈ l, Lib.bitLen x.toNat ≤ k := by
    intro l
    induction l with
    | nil => intro m; simp
    | cons y l ih =>
      intro m
      rw [List.foldl_cons, ih]
      simp only [List.mem_cons, forall_eq_or_imp, Nat.max_le, and_assoc]
  unfold widthL
  rw [h]
  simp
/-- What a width that does means. -/
theorem width_lt {l : List Int} (hb : ∀ x ∈ l, 0 ≤ x ∧ x < 18446744073709551616) {k : Nat} (h : widthL l ≤ k) : ∀ x ∈ l, 0 ≤ x ∧ x < 2 ^ k := by
  intro x hx
  have h1 := hb x hx
  have h2 := bitLen_pow (x := x.toNat) (by omega)
  have h3 := Nat.pow_le_pow_right (n := 2) (by decide) (widthL_le.1 h x hx)
  refine ⟨h1.1, ?_⟩
  have h4 : ((x.toNat : Nat) : Int) < ((2 ^ k : Nat) : Int) := by exact_mod_cast Nat.lt_of_lt_of_le h2 h3
  rw [Int.toNat_of_nonneg h1.1] at h4
  exact_mod_cast h4
end Go.Proofs.Ytolncaccemfbdaa.Plain
namespace Go.Proofs.Ytolncaccemfbdaa.Hand
open Go.RowKit Go.Proofs.YtolncaccemfbdaaW.PrintWords Go.Proofs.YtolncaccemfbdaaW.PrintLast Go.Proofs.YtolncaccemfbdaaW.PrintMore
open Go.Proofs.Ytolncaccemfbdaa.Plain
set_option linter.unusedVariables false
set_option linter.unusedSimpArgs false
/-- A Vec in memory. -/
def VecAt (k : IntKind) (t : TypeId) (W : World) (g : Nat) (a : Int) (xs : List Int) : Prop := ∃ A c, W.heap[g]? = some (.cells #[.int .i64 a, .slice A xs.length c] t (0, 0)) ∧ xs.length ≤ c ∧ Kd.C (Kd.int k) W A xs.length xs
theorem VecAt.below {k : IntKind} {t : TypeId} {W W' : World} {g : Nat} {a : Int} {xs : List Int} (h : VecAt k t W g a xs) (hb : Below W.heap.size W W') : VecAt k t W' g a xs := by
  obtain ⟨A, c, h1, h2, h3⟩ := h
  exact ⟨A, c, blk_below h1 hb, h2, Kd.C_below h3 hb⟩
theorem VecAt.lt {k : IntKind} {t : TypeId} {W : World} {g : Nat} {a : Int} {xs : List Int} (h : VecAt k t W g a xs) : g < W.heap.size := by
  obtain ⟨A, c, h1, _⟩ := h
  exact blk_lt h1
end Go.Proofs.Ytolncaccemfbdaa.Hand

/- Plain facts on numbers as bytes, without any program: the groups of seven bits of a number (encN), the bytes of a fixed size (fixL), and what reads them again. -/
namespace Go.Proofs.Ytolncaccemfbdaa.Plain

/-- The document's encoding: groups of seven bits, the least first. -/
def encN (n : Nat) : List Int := if h : n < 128 then [(n : Int)] else ((n % 128 + 128 : Nat) : Int) :: encN (n / 128)
termination_by n
decreasing_by omega

theorem encN_lt {n : Nat} (h : n < 128) : encN n = [(n : Int)] := by rw [encN, dif_pos h]
theorem encN_ge {n : Nat} (h : 128 ≤ n) : encN n = ((n % 128 + 128 : Nat) : Int) :: encN (n / 128) := by rw [encN, dif_neg (by omega)]
theorem or128 (x : Int) (h : 0 ≤ x) : Go.bits .or .u8 (x % 256) 128 = ((x.toNat % 128 + 128 : Nat) : Int) := by
  obtain ⟨n, rfl⟩ := Int.eq_ofNat_of_zero_le h
  have e : ((n : Int) % 256) = ((n % 256 : Nat) : Int) := by omega
  rw [e, show (128 : Int) = ((128 : Nat) : Int) from rfl, Go.u8_or_nat _ 128 (by omega) (by omega), Int.toNat_natCast]
  have k : ∀ m : Nat, m < 256 → m ||| 128 = m % 128 + 128 := by decide +kernel
  rw [k _ (by omega)]
  congr 2
  omega
theorem encN_step {x : Int} (h : 128 ≤ x) : encN x.toNat = Go.bits .or .u8 (x % 256) 128 :: encN (x / 128).toNat := by
  rw [encN_ge (by omega), or128 x (by omega)]
  congr 2
  omega
theorem encN_last {x : Int} (h0 : 0 ≤ x) (h : x < 128) : encN x.toNat = [x % 256] := by
  rw [encN_lt (by omega)]
  congr 1
  omega

theorem encN_length_le (k : Nat) : ∀ n : Nat, n < 2 ^ (7 * k + 7) → (encN n).length ≤ k + 1 := by
  induction k with
  | zero =>
    intro n h
    rw [encN_lt (by omega)]
    simp
  | succ k ih =>
    intro n h
    by_cases hn : n < 128
    · rw [encN_lt hn]; simp
    · rw [encN_ge (by omega)]
      have := ih (n / 128) (by
        rw [Nat.div_lt_iff_lt_mul (by omega)]
        have e : 2 ^ (7 * (k + 1) + 7) = 2 ^ (7 * k + 7) * 128 := by rw [show 7 * (k + 1) + 7 = (7 * k + 7) + 7 from by omega, Nat.pow_add]
        omega)
      simp only [List.length_cons]
      omega
theorem encN_len64 {n : Nat} (h : n < 18446744073709551616) : (encN n).length ≤ 10 := encN_length_le 9 n (by omega)
theorem encN_pos (n : Nat) : 0 < (encN n).length := by
  rw [encN]
  split <;> simp

/-- The size lowest bytes of a number, the greatest first. -/
def fixL (n : Nat) : Nat → List Int
  | 0 => []
  | s + 1 => ((n / 256 ^ s % 256 : Nat) : Int) :: fixL n s
theorem fixL_length (n s : Nat) : (fixL n s).length = s := by
  induction s with
  | zero => rfl
  | succ s ih => simp [fixL, ih]

theorem fixL_step (n : Nat) {i : Int} (h : 0 ≤ i) : fixL n (i + 1).toNat = ((n : Int) / 2 ^ (8 * i).toNat % 256) :: fixL n i.toNat := by
  obtain ⟨m, rfl⟩ := Int.eq_ofNat_of_zero_le h
  rw [show ((m : Int) + 1).toNat = m + 1 from by omega, show (8 * (m : Int)).toNat = 8 * m from by omega, Int.toNat_natCast]
  show ((n / 256 ^ m % 256 : Nat) : Int) :: fixL n m = _
  congr 1
  rw [show (256 : Nat) = 2 ^ 8 from rfl, ← Nat.pow_mul]
  rw [Int.natCast_emod, Int.natCast_ediv, Int.natCast_pow]
  rfl
/-- What a row of bytes tells, the greatest first, behind n. -/
def valB (n : Nat) : List Int → Nat
  | [] => n
  | c :: r => valB (n * 256 + c.toNat) r

/-- What a row of bytes begins with, from group i on, n being told so far: the number, its size, the error (4: it ends; 3: it is none). -/
def takeL : Nat → Nat → List Int → Int × Int × Int
  | _, _, [] => (0, 0, 4)
  | i, n, c :: r => if i = 9 ∧ c > 1 then (0, 0, 3) else if c < 128 then (if c = 0 ∧ i > 0 then (0, 0, 3) else (((n + c.toNat * 128 ^ i : Nat) : Int), (i : Int) + 1, 0)) else takeL (i + 1) (n + c.toNat % 128 * 128 ^ i) r
def takeT (l : List Int) : Int × Int × Int := takeL 0 0 l

theorem encN_take_go (m : Nat) : ∀ (i n : Nat) (r : List Int), n < 128 ^ i → i ≤ 9 → n + m * 128 ^ i < 18446744073709551616 → (0 < m ∨ i = 0) → takeL i n (encN m ++ r) = (((n + m * 128 ^ i : Nat) : Int), (i : Int) + (encN m).length, 0) := by
  induction m using Nat.strongRecOn with
  | _ m ih =>
    intro i n r hn hi hlt hpos
    have hp : 0 < 128 ^ i := Nat.pow_pos (by omega)
    by_cases hm : m < 128
    · rw [encN_lt hm]
      simp only [List.cons_append, List.nil_append, takeL]
      rw [if_neg (by
        rintro ⟨rfl, h1⟩
        have : m * 128 ^ 9 < 18446744073709551616 := by omega
        have e : (128 : Nat) ^ 9 = 9223372036854775808 := by decide
        rw [e] at this
        omega), if_pos (by omega), if_neg (by omega), Int.toNat_natCast]
      simp
    · rw [encN_ge (by omega)]
      simp only [List.cons_append, takeL]
      have hi9 : i < 9 := by
        rcases Nat.lt_or_ge i 9 with h | h
        · exact h
        · have : i = 9 := by omega
          subst this
          have e : (128 : Nat) ^ 9 = 9223372036854775808 := by decide
          rw [e] at hlt
          omega
      rw [if_neg (by omega), if_neg (by omega), Int.toNat_natCast]
      have e1 : (m % 128 + 128) % 128 = m % 128 := by omega
      have e2 : 128 ^ (i + 1) = 128 * 128 ^ i := by rw [Nat.pow_succ, Nat.mul_comm]
      have e3 : n + m % 128 * 128 ^ i + m / 128 * 128 ^ (i + 1) = n + m * 128 ^ i := by
        rw [e2, ← Nat.mul_assoc, Nat.add_assoc, ← Nat.add_mul]
        congr 2
        omega
      rw [e1, ih (m / 128) (by omega) (i + 1) _ r ?_ (by omega) (by rw [e3]; exact hlt) (by omega), e3]
      · simp only [List.length_cons, Prod.mk.injEq, true_and, and_true]
        omega
      · rw [e2]
        have : m % 128 * 128 ^ i ≤ 127 * 128 ^ i := Nat.mul_le_mul_right _ (by omega)
        omega
/-- Taken is what was put. -/
theorem encN_take {m : Nat} (h : m < 18446744073709551616) (r : List Int) : takeT (encN m ++ r) = ((m : Int), ((encN m).length : Int), 0) := by
  unfold takeT
  rw [encN_take_go m 0 0 r (by simp) (by omega) (by simpa using h) (.inr rfl)]
  simp

/-- An encoding that is cut is torn. -/
theorem encN_torn_go (m : Nat) : ∀ (i n : Nat) (k : Nat), i ≤ 9 → n + m * 128 ^ i < 18446744073709551616 → k < (encN m).length → takeL i n ((encN m).take k) = (0, 0, 4) := by
  induction m using Nat.strongRecOn with
  | _ m ih =>
    intro i n k hi hlt hk
    cases k with
    | zero => rw [List.take_zero]; rfl
    | succ k =>
      by_cases hm : m < 128
      · rw [encN_lt hm] at hk
        simp at hk
      · rw [encN_ge (by omega)] at hk ⊢
        simp only [List.take_succ_cons, takeL]
        have hi9 : i < 9 := by
          rcases Nat.lt_or_ge i 9 with h | h
          · exact h
          · have : i = 9 := by omega
            subst this
            have e : (128 : Nat) ^ 9 = 9223372036854775808 := by decide
            rw [e] at hlt
            omega
        rw [if_neg (by omega), if_neg (by omega), Int.toNat_natCast]
        have e1 : (m % 128 + 128) % 128 = m % 128 := by omega
        have e2 : 128 ^ (i + 1) = 128 * 128 ^ i := by rw [Nat.pow_succ, Nat.mul_comm]
        have e3 : n + m % 128 * 128 ^ i + m / 128 * 128 ^ (i + 1) = n + m * 128 ^ i := by
          rw [e2, ← Nat.mul_assoc, Nat.add_assoc, ← Nat.add_mul]
          congr 2
          omega
        rw [e1]
        exact ih (m / 128) (by omega) (i + 1) _ k (by omega) (by rw [e3]; exact hlt) (by simpa using hk)
theorem encN_torn {m : Nat} (h : m < 18446744073709551616) {k : Nat} (hk : k < (encN m).length) : takeT ((encN m).take k) = (0, 0, 4) :=
  encN_torn_go m 0 0 k (by omega) (by simpa using h) hk

theorem encN_bytes (m : Nat) : ∀ x ∈ encN m, 0 ≤ x ∧ x < 256 := by
  induction m using Nat.strongRecOn with
  | _ m ih =>
    intro x hx
    by_cases hm : m < 128
    · rw [encN_lt hm] at hx
      simp at hx
      omega
    · rw [encN_ge (by omega)] at hx
      rcases List.mem_cons.1 hx with rfl | hx
      · omega
      · exact ih (m / 128) (by omega) x hx
end Go.Proofs.Ytolncaccemfbdaa.Plain

/- The contract, proved by hand, of num.Put: it hands back the bytes that came in and behind them the number's groups of seven bits, cut to its length. -/
namespace Go.Proofs.Ytolncaccemfbdaa.Hand
open Go.RowKit Go.Proofs.YtolncaccemfbdaaW.PrintWords Go.Proofs.YtolncaccemfbdaaW.PrintLast Go.Proofs.YtolncaccemfbdaaW.PrintMore
open Go.Proofs.Ytolncaccemfbdaa.Plain
set_option linter.unusedVariables false
set_option linter.unusedSimpArgs false

def putF (l : List Int) (n : Int) : Option (List Int) := if l.length ≤ 140737488355000 ∧ 0 ≤ n ∧ n < 18446744073709551616 then some (l ++ encN n.toNat) else none

set_option maxHeartbeats 800000 in
set_option maxRecDepth 100000 in
theorem put_clipped (A0 : Option Addr) (c0 : Nat) (l0 : List Int) (a1 : Int) (r : List Int) (w : World) (hr0 : Kd.C (Kd.int .u8) w A0 l0.length l0) (h : putF l0 a1 = some r) :
    Calls Try.prog 51 #[.slice A0 l0.length c0, .int .u64 a1] w fun e w' => ∃ v0_ : Value, e = .returned v0_ ∧ Clipped 5 w' w.heap.size v0_ r ∧ Below w.heap.size w w' := by
  unfold putF at h
  by_cases hc : l0.length ≤ 140737488355000 ∧ 0 ≤ a1 ∧ a1 < 18446744073709551616
  · rw [if_pos hc] at h
    obtain ⟨hl, h0, h1⟩ := hc
    obtain rfl := Option.some.inj h
    clear h
    have hlen : (encN a1.toNat).length ≤ 10 := encN_len64 (by omega)
    have HLEN := Aside0.mk hlen
    have HL := Aside0.mk hl
    clear hlen h1
    go_enter Try.func51, Try.ntmps51
    go_wp2_with (go_at_call 63; refine (clone_calls _ _ l0 _ hr0 (by have := HL.out; omega)).mono ?_; rintro e w1 ⟨v, rfl, ho, hb⟩; have HO := Aside0.mk ho; have HB := Aside0.mk hb; clear ho hb)
    go_loopg [1, 5] a1.toNat (fun kq v1 v5 w' => ∃ (x : Int) (xs : List Int), v1 = .int .u64 x ∧ Aside0 (0 ≤ x) ∧ Aside0 (xs ++ encN x.toNat = l0 ++ encN a1.toNat) ∧ Aside0 (x.toNat ≤ kq) ∧ Aside0 (Kd.R (Kd.int .u8) 5 w' w.heap.size (fun _ => True) v5 xs) ∧ Aside0 (Below w.heap.size w w'))
    case atStart => exact ⟨a1, l0, rfl, ⟨h0⟩, ⟨rfl⟩, ⟨Nat.le_refl _⟩, ⟨HO.out⟩, ⟨HB.out⟩⟩
    case round =>
      clear HO HB h0
      obtain ⟨x, xs, rfl, H0, HE, HK, HO, HB⟩ := hrel
      have hxl : xs.length ≤ 140737488355010 := by
        have h2 := congrArg List.length HE.out
        simp only [List.length_append] at h2
        have := HL.out
        have := HLEN.out
        omega
      have HX := Aside0.mk hxl
      clear hxl
      by_cases c2 : 128 ≤ x
      · have c2b : decide (128 ≤ x) = true := decide_eq_true c2
        have H2 := Aside0.mk c2
        clear c2
        go_wp2_with (first | ((with_reducible refine gate_builtin (b := .append) (xs := #[.tmp 10, .tmp 14]) rfl ?_); at_builtin; refine Kd.R_append (Kd.int .u8) (w0 := w) w.heap.size rfl (.tmp 10) (.tmp 14) 23 5 (.int .u8 0) 1 rfl Try.underlying23 hinfo_u8 rfl (by decide) (by omega) _ xs (Go.bits .or .u8 (x % 256) 128) [.int .u8 (Go.bits .or .u8 (x % 256) 128)] (fun _ => True) (fun _ => False) rfl rfl ?aP (fun _ hk => hk.elim) ?aF ?aO ?aB ?aS ?aL ?_; (case aP => exact rfl); (case aB => exact HB.out); (case aF => exact (fun _ _ => trivial)); (case aO => exact HO.out); (case aS => exact (below_size HB.out)); (case aL => have := HX.out; omega); intro v2 w2 ho hb hg hat; clear HB HO; have HO := Aside0.mk ho; have HB := Aside0.mk hb; clear ho hb hg hat))
        go_roundg (x / 128).toNat
        case measure => have := H2.out; have := HK.out; omega
        case rel => exact ⟨x / 128, xs ++ [Go.bits .or .u8 (x % 256) 128], rfl, ⟨by have := H0.out; omega⟩, ⟨by have he := HE.out; rw [encN_step H2.out] at he; rw [← he]; simp⟩, ⟨Nat.le_refl _⟩, ⟨HO.out⟩, ⟨HB.out⟩⟩
      · have c2b : decide (128 ≤ x) = false := decide_eq_false c2
        have H2 := Aside0.mk (show x < 128 by omega)
        clear c2
        go_wp2_with (first | ((with_reducible refine gate_builtin (b := .append) (xs := #[.tmp 18, .tmp 21]) rfl ?_); at_builtin; refine Kd.R_append (Kd.int .u8) (w0 := w) w.heap.size rfl (.tmp 18) (.tmp 21) 23 5 (.int .u8 0) 1 rfl Try.underlying23 hinfo_u8 rfl (by decide) (by omega) _ xs (x % 256) [.int .u8 (x % 256)] (fun _ => True) (fun _ => False) rfl rfl ?aP (fun _ hk => hk.elim) ?aF ?aO ?aB ?aS ?aL ?_; (case aP => exact rfl); (case aB => exact HB.out); (case aF => exact (fun _ _ => trivial)); (case aO => exact HO.out); (case aS => exact (below_size HB.out)); (case aL => have := HX.out; omega); intro v2 w2 ho hb hg hat; clear HB HO; have HO := Aside0.mk ho; have HB := Aside0.mk hb; clear ho hb hg hat) | (go_at_call 64; refine (clip_calls _ _ _ _ HO.out).mono ?_; rintro e w3 ⟨⟨v3, rfl, hcl⟩, rfl⟩; have HCL := Aside0.mk hcl; clear hcl))
        go_ret
        refine ⟨_, rfl, ?_, HB.out⟩
        have he := HE.out
        rw [encN_last H0.out H2.out] at he
        rw [← he]
        exact HCL.out
  · rw [if_neg hc] at h
    cases h

theorem put_calls (A0 : Option Addr) (c0 : Nat) (l0 : List Int) (a1 : Int) (r : List Int) (w : World) (hr0 : Kd.C (Kd.int .u8) w A0 l0.length l0) (hc0 : l0.length ≤ c0) (h : putF l0 a1 = some r) :
    Calls Try.prog 51 #[.slice A0 l0.length c0, .int .u64 a1] w fun e w' => ∃ v0_ : Value, e = .returned (v0_) ∧ Kd.V (Kd.int .u8) 5 w' w.heap.size (fun k_ => (w.heap.size ≤ k_)) v0_ r ∧ Below w.heap.size w w' :=
  (put_clipped A0 c0 l0 a1 r w hr0 h).mono fun _ _ ⟨v, he, hc, hb⟩ => ⟨v, he, hc.V, hb⟩

end Go.Proofs.Ytolncaccemfbdaa.Hand

/- Packed numbers as bytes: what Bytes tells; a row that is full and is appended to; two rows in one. -/
namespace Go.Proofs.Ytolncaccemfbdaa.Plain
open Go.RowKit Go.Proofs.YtolncaccemfbdaaW.PrintWords Go.Proofs.YtolncaccemfbdaaW.PrintLast Go.Proofs.YtolncaccemfbdaaW.PrintMore
set_option linter.unusedVariables false
set_option linter.unusedSimpArgs false
/-- How many bytes so many numbers of so many bits need. -/
def sizeN (n w : Nat) : Nat := (n * w + 7) / 8
def vbytes (w : Nat) (l : List Int) : List Int := encN l.length ++ [(w : Int)] ++ leB (packN w l) (sizeN l.length w)
theorem place_lt {n w i k : Nat} (hi : i < n) (hk : k < w) : i * w + k < n * w := by
  have h1 : (i + 1) * w ≤ n * w := Nat.mul_le_mul_right w hi
  rw [Nat.succ_mul] at h1
  omega
theorem place_size {n w i k : Nat} (hi : i < n) (hk : k < w) : i * w + k < 8 * sizeN n w := by
  have h1 := place_lt hi hk
  unfold sizeN
  omega
theorem size_le {n w : Nat} (hn : n ≤ 100000) (hw : w ≤ 64) : n * w ≤ 6400000 ∧ sizeN n w ≤ 800000 := by
  have h1 := Nat.mul_le_mul hn hw
  unfold sizeN
  omega
/-- The numbers of region 2. -/
theorem size_nums {n w : Nat} (hn : n ≤ 100000) (hw : w ≤ 64) : wrap64 ((n : Int) * (w : Int)) = ((n * w : Nat) : Int) ∧ wrap64 (((n * w : Nat) : Int) + 8) = ((n * w : Nat) : Int) + 8 ∧ wrap64 (((n * w : Nat) : Int) + 8 - 1) = ((n * w : Nat) : Int) + 8 - 1 ∧ Int.tdiv (((n * w : Nat) : Int) + 8 - 1) 8 = (sizeN n w : Int) ∧ wrap64 (sizeN n w : Int) = (sizeN n w : Int) := by
  have h := size_le hn hw
  have e : (n : Int) * (w : Int) = ((n * w : Nat) : Int) := (Int.natCast_mul n w).symm
  rw [e]
  refine ⟨w64 (by omega) (by omega), w64 (by omega) (by omega), w64 (by omega) (by omega), ?_, w64 (by omega) (by omega)⟩
  rw [Int.tdiv_eq_ediv_of_nonneg (by omega)]
  unfold sizeN
  omega
theorem bit_u64 (x : Nat) (hx : x < 18446744073709551616) : Go.bits .and .u64 (x : Int) 1 = ((x % 2 : Nat) : Int) := by
  have h := Go.u64_and (x : Int) 1 (by omega) (by omega) (by decide) (by decide)
  rw [h, Int.toNat_natCast, show (1 : Int).toNat = 1 from rfl, Nat.and_one_is_mod]
/-- One bit is put. -/
theorem pack_set {w : Nat} {l : List Int} {p j m s8 : Int} {I K : Nat} (hI : I < l.length) (hK : K < w) (hp : p = ((I * w + K : Nat) : Int)) (hj : Int.tdiv p 8 = j) (hm : Int.tmod p 8 = m)
    (hs : shl .u8 (((l.getD I 0).toNat / 2 ^ K % 2 : Nat) : Int) m = s8) :
    (leB (partN w l I K) (sizeN l.length w)).set j.toNat (Go.bits .or .u8 (rd (leB (partN w l I K) (sizeN l.length w)) j) s8) = leB (partN w l I (K + 1)) (sizeN l.length w) := by
  have ej : j = (((I * w + K) / 8 : Nat) : Int) := by rw [← hj, Int.tdiv_eq_ediv_of_nonneg (by omega), hp]; omega
  have em : m = (((I * w + K) % 8 : Nat) : Int) := by rw [← hm, Int.tmod_eq_emod_of_nonneg (by omega), hp]; omega
  have hb8 : (I * w + K) % 8 < 8 := Nat.mod_lt _ (by decide)
  have hps := place_size hI hK
  have hN : partN w l I K < 2 ^ (I * w + K) := by have := partN_lt w l I K (by omega); rwa [Nat.mul_comm w I] at this
  have hb : (l.getD I 0).toNat / 2 ^ K % 2 < 2 := Nat.mod_lt _ (by decide)
  have hst := partN_step w l I K
  rw [Nat.mul_comm w I] at hst
  generalize (l.getD I 0).toNat / 2 ^ K % 2 = b at hb hs hst
  generalize partN w l I K = N at hN hst ⊢
  rw [hst]
  have hput := leB_put hN hb hps
  obtain ⟨hba, hbl⟩ := bit_at hN hb
  generalize hq : I * w + K = q at *
  have hq8 : q / 8 < sizeN l.length w := by omega
  subst ej em
  have e8 : s8 = ((b * 2 ^ (q % 8) : Nat) : Int) := by
    rw [← hs]
    unfold shl
    rw [show IntKind.u8.bits = 8 from rfl, Int.toNat_natCast, Nat.min_eq_left (by omega), show ((2 : Int) ^ (q % 8)) = ((2 ^ (q % 8) : Nat) : Int) from by rw [Int.natCast_pow]; rfl, ← Int.natCast_mul, Go.IntKind.wrap_u8]
    omega
  have hx : N / 2 ^ (8 * (q / 8)) % 256 < 256 := Nat.mod_lt _ (by decide)
  rw [Int.toNat_natCast, rd_at _ _ (by rw [leB_length]; exact hq8)]
  have hg : (leB N (sizeN l.length w))[q / 8]'(by rw [leB_length]; exact hq8) = ((N / 2 ^ (8 * (q / 8)) % 256 : Nat) : Int) := by
    have := leB_get N hq8
    rw [List.getElem?_eq_getElem (by rw [leB_length]; exact hq8)] at this
    exact Option.some.inj this
  rw [hg, e8, Go.u8_or _ _ (Int.natCast_nonneg _) (by omega) (Int.natCast_nonneg _) (by omega), Int.toNat_natCast, Int.toNat_natCast]
  exact hput
end Go.Proofs.Ytolncaccemfbdaa.Plain
namespace Go.Proofs.Ytolncaccemfbdaa.Hand
open Go.RowKit Go.Proofs.YtolncaccemfbdaaW.PrintWords Go.Proofs.YtolncaccemfbdaaW.PrintLast Go.Proofs.YtolncaccemfbdaaW.PrintMore
open Go.Proofs.Ytolncaccemfbdaa.Plain
set_option linter.unusedVariables false
set_option linter.unusedSimpArgs false
section
variable {P : Program} {ops : Array Oper} {Q : Exit → Act → World → Prop}
/-- Behind a full row one number more: in new memory. -/
theorem append_full_ {oi : Oper} {N : Tmp} {a : Act} {W : World} {K : Act → World → Prop} {s x : Operand} {t e : TypeId} {A ad : Addr} {xs zs : List Int} {y : Int} {n : Nat} (hz : xs ++ [y] = zs) (hw : Region.wanted oi (yielded ops a.tmps) = true) (hN : oi.dst = some N)
    (ho : oi.op = .call { callee := .builtin .append, args := #[s, x], argTypes := #[t, t] }) (ht : P.underlying t = some (.slice e)) (hinfo : (P.info? e).map (fun i => (i.zero, i.size, i.bytes)) = some (some (.int .u8 0), 1, 1))
    (hs : a.eval s = .slice (some A) n n) (hx : a.eval x = .slice (some ad) 1 1) (hn : xs.length = n) (hC : Kd.C (Kd.int .u8) W (some A) xs.length xs) (hc : W.cell? ad = some (.int .u8 y)) (hl : xs.length + 1 ≤ 140737488355328)
    (h : ∀ A' c' w', zs.length ≤ c' → Kd.R (Kd.int .u8) e w' W.heap.size (fun _ => True) (.slice A' zs.length c') zs → Below W.heap.size W w' → K (a.put (some N) (.slice A' zs.length c')) w') :
    if Region.wanted oi (yielded ops a.tmps) = true then Oper.wp P oi a W K Q else K (a.put (some N) undef) W := by
  subst hn hz
  obtain ⟨i0, hi, hzz⟩ := Option.map_eq_some_iff.1 hinfo
  simp only [Prod.mk.injEq] at hzz
  obtain ⟨hz0, hz1, hz2⟩ := hzz
  obtain ⟨v', w', hrun, hown, hg⟩ := run_append_arg_grows (P := P) W t oi.type e i0 (.int .u8 0) 1 1 ht hi hz0 hz1 hz2 rfl (by decide) A xs.length xs.length (nums .u8 xs) (by simp [nums]) (fun j u hj => by
      have hjl : j < xs.length := by have := (List.getElem?_eq_some_iff.1 hj).1; simpa [nums] using this
      obtain ⟨ad', ha, hcj⟩ := Kd.at_int hC (j : Int) (by omega) (by omega)
      injection ha with ha
      subst ha
      rw [Int.toNat_natCast] at hcj
      have hu : u = .int .u8 (rd xs (j : Int)) := by
        rw [rd_at _ _ hjl]
        simp [nums, hjl] at hj
        exact hj.symm
      rw [hu]
      exact hcj) ad 1 1 [.int .u8 y] rfl (fun j u hj => by
      have : j = 0 := by have := (List.getElem?_eq_some_iff.1 hj).1; simp at this; omega
      subst this
      simp at hj
      subst hj
      rw [show ad.add 0 = ad from by simp [Addr.add]]
      exact hc) (by omega) (by unfold maxLen; omega) (by omega)
  have hR : Kd.R (Kd.int .u8) e w' W.heap.size (fun _ => True) v' (xs ++ [y]) := Kd.R_of_own (by simpa [nums, encs] using hown) (fun _ _ => trivial)
  obtain ⟨A', c', rfl⟩ := Kd.R_slice hR
  refine value_ (v := .slice A' (xs ++ [y]).length c') (w1 := w') hw hN ?_ (h A' c' w' (Kd.R_reads' hR).2.1 hR ((Below.refl _ W).grown hg (Nat.le_refl _) (fun k hk => by cases hk)))
  simp [execOp, ho, resolve, invoke, builtin, hs, hx, hrun]
end
theorem new_cell {B : Nat} {w W : World} (_h : Below B w W) (v : Value) (t : TypeId) : (W.alloc (.cells #[v] t)).cell? ⟨W.heap.size, 0, none⟩ = some v := by
  rw [blk_cell (blk_new W _)]
  rfl
/-- Two rows in one. -/
theorem two_rows {W : World} {q e : TypeId} {A1 A2 : Option Addr} {c1 c2 : Nat} {x y : List Int} (h1 : x.length ≤ c1) (hx : Kd.C (Kd.int .u8) W A1 x.length x) (h2 : y.length ≤ c2) (hy : Kd.C (Kd.int .u8) W A2 y.length y) :
    Kd.C (Kd.slice q (Kd.int .u8)) (W.alloc (.cells #[.slice A1 x.length c1, .slice A2 y.length c2] e)) (some ⟨W.heap.size, 0, none⟩) [x, y].length [x, y] := by
  have hb := blk_new W (.cells #[.slice A1 x.length c1, .slice A2 y.length c2] e (0, 0))
  refine ⟨rfl, by simp, fun _ => ⟨_, rfl, fun j p hj => ?_⟩⟩
  match j, hj with
  | 0, hj =>
    have hp : x = p := by simpa using hj
    subst hp
    refine ⟨[.slice A1 x.length c1], rfl, ⟨A1, c1, rfl, h1, Kd.C_alloc hx _⟩, fun i u hu => ?_⟩
    have hi : i = 0 := by have := (List.getElem?_eq_some_iff.1 hu).1; simp at this; omega
    subst hi
    rw [add_plain, blk_cell hb]
    simpa using hu
  | 1, hj =>
    have hp : y = p := by simpa using hj
    subst hp
    refine ⟨[.slice A2 y.length c2], rfl, ⟨A2, c2, rfl, h2, Kd.C_alloc hy _⟩, fun i u hu => ?_⟩
    have hi : i = 0 := by have := (List.getElem?_eq_some_iff.1 hu).1; simp at this; omega
    subst hi
    rw [add_plain, blk_cell hb]
    show (#[Value.slice A1 x.length c1, Value.slice A2 y.length c2] : Array Value)[1 * 1 + 0]? = some u
    simpa using hu
  | j + 2, hj => simp at hj
end Go.Proofs.Ytolncaccemfbdaa.Hand

/- The contract, proved by hand, of slices.Grow at bytes, of nil: an empty row of the call's own. -/
namespace Go.Proofs.Ytolncaccemfbdaa.Hand
open Go.RowKit Go.Proofs.YtolncaccemfbdaaW.PrintWords Go.Proofs.YtolncaccemfbdaaW.PrintLast Go.Proofs.YtolncaccemfbdaaW.PrintMore
set_option linter.unusedVariables false
set_option linter.unusedSimpArgs false

set_option maxHeartbeats 800000 in
set_option maxRecDepth 100000 in
theorem grow_calls (n : Nat) (w : World) (hn : n ≤ 140737488355328) :
    Calls Try.prog 65 #[.slice none 0 0, .int .i64 (n : Int)] w fun e w' => ∃ v0_ : Value, e = .returned v0_ ∧ Kd.R (Kd.int .u8) 5 w' w.heap.size (fun _ => True) v0_ ([] : List Int) ∧ Below w.heap.size w w' := by
  have d0 : decide ((n : Int) < 0) = false := decide_eq_false (by omega)
  by_cases h0 : n = 0
  · subst h0
    go_enter Try.func65, Try.ntmps65
    go_wp2
    go_ret
    exact ⟨_, rfl, Kd.R_nil _ _ _ _ _, Below.refl _ _⟩
  · have d1 : decide (0 < (n : Int)) = true := decide_eq_true (by omega)
    obtain ⟨i, hi, hz, h1, h2⟩ : ∃ i, Try.prog.info? 5 = some i ∧ i.zero = some (.int .u8 0) ∧ i.size = 1 ∧ i.bytes = 1 := ⟨_, rfl, rfl, rfl, rfl⟩
    have hrun := fun ty => Lib.run_append_nil_zeros (P := Try.prog) w 23 3 ty 5 i (.int .u8 0) .i64 .i64 Try.underlying23 Try.underlying3 hi hz n (by omega) (by omega) (by omega) (by rw [h2]; omega)
    have hw : wrap64 ((n : Int) - 0) = (n : Int) := by unfold wrap64; omega
    go_enter Try.func65, Try.ntmps65
    go_wp2_with ((with_reducible refine gate_builtin (b := .append) (xs := #[.tmp 20, .tmp 21]) rfl ?_); refine Lib.wpList_append_run w rfl (.tmp 20) (.tmp 21) 23 3 rfl _ _ rfl rfl _ _ (hrun _) ?_)
    go_ret
    have hge := grownCap_ge w n 0 5
    have hle := grownCap_le_maxLen w n 0 5 (by simp only [maxLen]; omega)
    refine ⟨_, rfl, Kd.R_of_own (enc := fun x => Value.int .u8 x) (h1 := fun _ => rfl) (xs := ([] : List Int)) (ok := fun _ => True) ⟨rfl, .inr ⟨w.heap.size, _, _, rfl, Nat.le_refl _, blk_new w.drew _, Nat.zero_le _, hle, ?_, rfl⟩⟩ (fun _ _ => trivial), ?_⟩
    · simp only [Array.size_append, size_zeroCells, Value.cells]
      simp
      omega
    · exact below_alloc (w := w) (below_drew (Below.refl _ _)) _
end Go.Proofs.Ytolncaccemfbdaa.Hand

/- Printed by a program of this session (drv.py) from the translation of this seat: functions, their contracts, rows. -/
namespace Go.Proofs.Ytolncaccemfbdaa.PPk
open Go.RowKit Go.Proofs.YtolncaccemfbdaaW.PrintWords Go.Proofs.YtolncaccemfbdaaW.PrintLast Go.Proofs.YtolncaccemfbdaaW.PrintMore
attribute [local go_sem] max2_int min2_int max_two min_two max_three min_three max_four min_four   -- for this text's walks alone
set_option linter.unusedVariables false
set_option linter.unusedSimpArgs false



def errW : Option Int → Value
  | none => .nilIface
  | some c => .iface 0 (.int .i64 c)
theorem errW_none : errW none = .nilIface := rfl
theorem errW_some (c : Int) : errW (some c) = .iface 0 (.int .i64 c) := rfl

theorem info5 : (Try.prog.info? 5).map (fun i => (i.zero, i.size, i.bytes)) = some (some (.int .u8 0), 1, 1) := by kernel_rfl
theorem info30 : (Try.prog.info? 30).map (fun i => (i.zero, i.size, i.bytes)) = some (some (.int .u64 0), 1, 8) := by kernel_rfl
-- the values' own types
def rd_L2 (xs : List (List Int)) (i : Int) : (List Int) := xs.getD i.toNat ([] : List Int)
theorem at_L2 {w : World} {A : Option Addr} {n : Nat} {xs : List (List Int)} (h : Kd.C (Kd.slice 5 (Kd.int .u8)) w A n xs) (i : Int) (h0 : 0 ≤ i) (h1 : i < n) : ∃ ad A0 c0, A = some ad ∧ w.cell? (ad.add i.toNat) = some (.slice A0 (rd_L2 xs i).length c0) ∧ (rd_L2 xs i).length ≤ c0 ∧ (Kd.int .u8).C w A0 (rd_L2 xs i).length (rd_L2 xs i) := by
  obtain ⟨ad, c, e, _, hK, hc0⟩ := Kd.C_get h ([] : List Int) i h0 h1
  have hc : ∀ j u, c[j]? = some u → w.cell? (ad.add (i.toNat * 1 + j)) = some u := hc0
  obtain ⟨A0, c0, rfl, l0, g0⟩ := hK
  exact ⟨ad, A0, c0, e, by have hq := hc 0 _ rfl; rwa [Nat.mul_one, Nat.add_zero] at hq, l0, g0⟩

end Go.Proofs.Ytolncaccemfbdaa.PPk

/- The contract, proved by hand, of slices.Concat at bytes: all rows, one behind the other, in a row of the call's own. -/
namespace Go.Proofs.Ytolncaccemfbdaa.Hand
open Go.RowKit Go.Proofs.YtolncaccemfbdaaW.PrintWords Go.Proofs.YtolncaccemfbdaaW.PrintLast Go.Proofs.YtolncaccemfbdaaW.PrintMore
open Go.Proofs.Ytolncaccemfbdaa.Plain Go.Proofs.Ytolncaccemfbdaa.PPk
set_option linter.unusedVariables false
set_option linter.unusedSimpArgs false

def concatF (l : List (List Int)) : Option (List Int) := if l.length ≤ 1000000 ∧ l.flatten.length ≤ 140737488355328 then some l.flatten else none
theorem flat_next (l : List (List Int)) (i : Nat) (h : i < l.length) : (l.take (i + 1)).flatten = (l.take i).flatten ++ rd_L2 l (i : Int) := by
  rw [List.take_succ_eq_append_getElem h, List.flatten_append]
  unfold rd_L2
  rw [Int.toNat_natCast, List.getD_eq_getElem?_getD, List.getElem?_eq_getElem h]
  simp
theorem flat_le (l : List (List Int)) (i : Nat) : (l.take i).flatten.length ≤ l.flatten.length := by
  conv => rhs; rw [← List.take_append_drop i l]
  rw [List.flatten_append, List.length_append]
  exact Nat.le_add_right _ _
/-- How long the first rows are together. -/
def tot (l : List (List Int)) (i : Nat) : Nat := (l.take i).flatten.length
theorem tot_next (l : List (List Int)) (i : Nat) (h : i < l.length) : tot l (i + 1) = tot l i + (rd_L2 l (i : Int)).length := by
  unfold tot
  rw [flat_next l i h, List.length_append]
theorem tot_le (l : List (List Int)) (i : Nat) : tot l i ≤ l.flatten.length := flat_le l i
theorem tot_all (l : List (List Int)) : tot l l.length = l.flatten.length := by
  unfold tot
  rw [List.take_length]
set_option maxHeartbeats 800000 in
set_option maxRecDepth 100000 in
theorem concat_calls (A0 : Option Addr) (c0 : Nat) (l0 : List (List Int)) (r : List Int) (w : World) (hr0 : Kd.C (Kd.slice 5 (Kd.int .u8)) w A0 l0.length l0) (hc0 : l0.length ≤ c0) (h : concatF l0 = some r) :
    Calls Try.prog 52 #[.slice A0 l0.length c0] w fun e w' => ∃ v0_ : Value, e = .returned (v0_) ∧ Kd.R (Kd.int .u8) 5 w' w.heap.size (fun _ => True) v0_ r ∧ Below w.heap.size w w' := by
  unfold concatF at h
  by_cases hc : l0.length ≤ 1000000 ∧ l0.flatten.length ≤ 140737488355328
  · rw [if_pos hc] at h
    obtain rfl := Option.some.inj h
    clear h
    have HC := Aside0.mk hc
    have HR := Aside0.mk hr0
    clear hc hr0
    go_enter Try.func52, Try.ntmps52
    go_wp2
    go_loopg [3, 11] l0.length (fun kq v3 v11 w' => ∃ (i : Nat), v11 = .int .i64 (i : Int) ∧ v3 = .int .i64 ((tot l0 i : Nat) : Int) ∧ Aside0 (i ≤ l0.length ∧ l0.length - i ≤ kq) ∧ w' = w)
    case atStart => exact ⟨0, rfl, rfl, ⟨by omega, by omega⟩, rfl⟩
    case round =>
      obtain ⟨i, rfl, rfl, HI, rfl⟩ := hrel
      by_cases c2 : (i : Int) < (l0.length : Int)
      · have d2 : decide ((i : Int) < (l0.length : Int)) = true := decide_eq_true c2
        have hlt : i < l0.length := by omega
        obtain ⟨ad, A1, c1, rfl, hcell, _, _⟩ := at_L2 HR.out (i : Int) (by omega) c2
        rw [Int.toNat_natCast] at hcell
        have hfn := tot_next l0 i hlt
        have hfl := tot_le l0 (i + 1)
        have hw : wrap64 (((tot l0 i : Nat) : Int) + (((rd_L2 l0 (i : Int)).length : Nat) : Int)) = ((tot l0 (i + 1) : Nat) : Int) := by
          have := HC.out.2
          rw [hfn] at hfl ⊢
          generalize tot l0 i = p at hfl ⊢
          generalize (rd_L2 l0 (i : Int)).length = q at hfl ⊢
          generalize l0.flatten.length = t at hfl this
          clear hfn hcell HI HR c2 d2 hlt
          unfold wrap64
          omega
        have d3 : decide (((tot l0 (i + 1) : Nat) : Int) < 0) = false := decide_eq_false (by omega)
        have HLT := Aside0.mk hlt
        clear hfn hfl hlt
        go_wp2
        rw [show wrap64 ((i : Int) + 1) = ((i + 1 : Nat) : Int) from by have := HC.out.1; have := HLT.out; clear hw d3 hcell; unfold wrap64; omega]
        go_roundg (l0.length - 1 - i)
        case measure => have := HI.out; have := HLT.out; omega
        case rel => exact ⟨i + 1, rfl, by rw [hw], ⟨HLT.out, by omega⟩, rfl⟩
      · have d2 : decide ((i : Int) < (l0.length : Int)) = false := decide_eq_false c2
        have hi : i = l0.length := by have := HI.out; omega
        subst hi
        have htot : tot l0 l0.length ≤ 140737488355328 := by rw [tot_all]; exact HC.out.2
        go_wp2_with (go_at_call 65; refine (grow_calls _ _ htot).mono ?_; rintro e w1 ⟨v, rfl, ho, hb⟩; have HO := Aside0.mk ho; have HB := Aside0.mk hb; clear ho hb)
        obtain ⟨wo, hwo⟩ : ∃ wo, wo = wr := ⟨_, rfl⟩
        subst hwo
        clear htot
        go_loopg [6, 27] l0.length (fun kq v6 v27 w' => ∃ (i : Nat), v27 = .int .i64 (i : Int) ∧ Aside0 (i ≤ l0.length ∧ l0.length - i ≤ kq) ∧ Aside0 (Kd.R (Kd.int .u8) 5 w' wo.heap.size (fun _ => True) v6 (l0.take i).flatten) ∧ Aside0 (Below wo.heap.size wo w'))
        case atStart => exact ⟨0, rfl, ⟨by omega, by omega⟩, ⟨HO.out⟩, ⟨HB.out⟩⟩
        case round =>
          clear HO HB HI
          obtain ⟨i, rfl, HI, HO, HB⟩ := hrel
          by_cases c3 : (i : Int) < (l0.length : Int)
          · have d3 : decide ((i : Int) < (l0.length : Int)) = true := decide_eq_true c3
            have hlt : i < l0.length := by omega
            obtain ⟨ad, A1, c1, rfl, hcell, _, hC1⟩ := at_L2 (Kd.C_below HR.out HB.out) (i : Int) (by omega) c3
            rw [Int.toNat_natCast] at hcell
            have HFN := Aside0.mk (flat_next l0 i hlt)
            have hln : (l0.take i).flatten.length + (rd_L2 l0 (i : Int)).length ≤ 140737488355328 := by
              have h1 := tot_next l0 i hlt
              have h2 := tot_le l0 (i + 1)
              have h3 := HC.out.2
              show tot l0 i + _ ≤ _
              omega
            have HLN := Aside0.mk hln
            have HC1 := Aside0.mk hC1
            have HLT := Aside0.mk hlt
            clear hln hC1 hlt
            skip
            go_wp2_with (first | ((with_reducible refine gate_builtin (b := .append) (xs := #[.tmp 31, .tmp 32]) rfl ?_); at_builtin; refine Kd.R_append_rows (Kd.int .u8) (w0 := wo) wo.heap.size rfl (.tmp 31) (.tmp 32) 23 5 (.int .u8 0) 1 rfl Try.underlying23 hinfo_u8 rfl (by decide) (by omega) u6 (l0.take i).flatten (rd_L2 l0 (i : Int)) _ _ _ (fun _ => True) (fun _ => False) rfl rfl ?aO ?aR (fun _ _ h => h) (fun _ h => h.elim) ?aF ?aB ?aS ?aL ?_; (case aR => exact HC1.out); (case aO => exact HO.out); (case aB => exact HB.out); (case aF => exact (fun _ _ => trivial)); (case aS => exact HB.out.size); (case aL => have := HLN.out; omega); intro v1 w2 ho hb hg hat; rw [← HFN.out] at ho; have n0_ := Aside0.mk ho; have n1_ := Aside0.mk hb; clear HO HB; have HO := n0_; have HB := n1_; clear n0_ n1_ ho hb hg hat))
            rw [show wrap64 ((i : Int) + 1) = ((i + 1 : Nat) : Int) from by have := HC.out.1; have := HLT.out; clear hcell; unfold wrap64; omega]
            go_roundg (l0.length - 1 - i)
            case measure => have := HI.out; have := HLT.out; omega
            case rel => exact ⟨i + 1, rfl, ⟨HLT.out, by omega⟩, ⟨HO.out⟩, ⟨HB.out⟩⟩
          · have d3 : decide ((i : Int) < (l0.length : Int)) = false := decide_eq_false c3
            have hi : i = l0.length := by have := HI.out; omega
            subst hi
            go_wp2
            go_ret
            rw [List.take_length] at HO
            exact ⟨_, rfl, HO.out, HB.out⟩
  · rw [if_neg hc] at h
    cases h
end Go.Proofs.Ytolncaccemfbdaa.Hand

/- Printed by a program of this session (drv.py) from the translation of this seat: functions, their contracts, rows. -/
namespace Go.Proofs.Ytolncaccemfbdaa.PPk
open Go.RowKit Go.Proofs.YtolncaccemfbdaaW.PrintWords Go.Proofs.YtolncaccemfbdaaW.PrintLast Go.Proofs.YtolncaccemfbdaaW.PrintMore
attribute [local go_sem] max2_int min2_int max_two min_two max_three min_three max_four min_four   -- for this text's walks alone
set_option linter.unusedVariables false
set_option linter.unusedSimpArgs false

/-! ### bits_Len64: function 47 (by hand) -/
def bits_Len64.f (a0 : Int) : Option (Int) := Go.Proofs.Ytolncaccemfbdaa.Hand.len64F a0
theorem bits_Len64.calls (a0 : Int) (r : Int) (w : World) (h : bits_Len64.f a0 = some r) :
    Calls Try.prog 47 #[.int .u64 a0] w fun e w' => e = .returned (.int .i64 r) ∧ Drawn0 w w' :=
  Go.Proofs.Ytolncaccemfbdaa.Hand.len64_calls _ _ _ h

end Go.Proofs.Ytolncaccemfbdaa.PPk

/- Printed by a program of this session (drv.py) from the translation of this seat: functions, their contracts, rows. -/
namespace Go.Proofs.Ytolncaccemfbdaa.PPk
open Go.RowKit Go.Proofs.YtolncaccemfbdaaW.PrintWords Go.Proofs.YtolncaccemfbdaaW.PrintLast Go.Proofs.YtolncaccemfbdaaW.PrintMore
attribute [local go_sem] max2_int min2_int max_two min_two max_three min_three max_four min_four   -- for this text's walks alone
set_option linter.unusedVariables false
set_option linter.unusedSimpArgs false

/-! ### packed_Width_uint64: function 13 -/
def packed_Width_uint64.l0 : Nat → Int → List Int → Int → Int → Option (Int)
  | 0, _, _, _, _ => none
  | k + 1, x3, x6, x7, x8 => if x8 < x7 then (if 0 ≤ x8 then (if x8 < (x6.length : Int) then ((bits_Len64.f (rd x6 x8)).bind fun t159 => (packed_Width_uint64.l0 k (mx x3 t159) x6 x7 (wrap64 (x8 + 1)))) else (none)) else (none)) else (some x3)
def packed_Width_uint64.f (k : Nat) (l0 : List Int) : Option (Int) := packed_Width_uint64.l0 k 0 l0 (l0.length : Int) 0
theorem packed_Width_uint64.mono_l : ∀ k, (∀ y0 y1 y2 y3, LeO (packed_Width_uint64.l0 k y0 y1 y2 y3) (packed_Width_uint64.l0 (k + 1) y0 y1 y2 y3))
  | 0 => fun _ _ _ _ r h => by simp [packed_Width_uint64.l0] at h
  | k + 1 => by
    have ih0 := packed_Width_uint64.mono_l k
    · intro y0 y1 y2 y3
      unfold packed_Width_uint64.l0
      repeat' first
      | (with_reducible exact ih0 _ _ _ _)
      | (with_reducible exact LeO.refl _)
      | (with_reducible exact LeO.none _)
      | (with_reducible refine LeO.ite ?_ ?_)
      | (with_reducible refine LeO.bind ?_ (fun _ => ?_))
      | exact ih0 _ _ _ _
      | exact LeO.none _
      | refine LeO.ite ?_ ?_
      | refine LeO.bind ?_ (fun _ => ?_)
theorem packed_Width_uint64.mono : ∀ a0 k, LeO (packed_Width_uint64.f k a0) (packed_Width_uint64.f (k + 1) a0) := by
  intro a0 k
  have ih0 := packed_Width_uint64.mono_l k
  unfold packed_Width_uint64.f
  repeat' first
      | (with_reducible exact ih0 _ _ _ _)
      | (with_reducible exact LeO.refl _)
      | (with_reducible exact LeO.none _)
      | (with_reducible refine LeO.ite ?_ ?_)
      | (with_reducible refine LeO.bind ?_ (fun _ => ?_))
      | exact ih0 _ _ _ _
      | exact LeO.none _
      | refine LeO.ite ?_ ?_
      | refine LeO.bind ?_ (fun _ => ?_)
set_option maxHeartbeats 8000000 in
set_option maxRecDepth 100000 in
theorem packed_Width_uint64.calls (k : Nat) (A0 : Option Addr) (c0 : Nat) (l0 : List Int) (r : Int) (w : World) (hr0 : Kd.C (Kd.int .u64) w A0 l0.length l0) (hc0 : l0.length ≤ c0) (h : packed_Width_uint64.f k l0 = some r) :
    Calls Try.prog 13 #[.slice A0 l0.length c0] w fun e w' => e = .returned (.int .i64 r) ∧ Below w.heap.size w w' := by
  have HR0 := Aside0.mk hr0
  have HC0 := Aside0.mk hc0
  clear hr0 hc0
  have HB := Aside0.mk (Below.refl w.heap.size w)
  have H : (packed_Width_uint64.l0 k 0 l0 (l0.length : Int) 0) = some r := h
  clear h
  have H' := Aside0.mk H
  clear H
  go_enter Try.func13, Try.ntmps13
  go_wp2
  go_loopg [3, 8] k (fun kq v3 v8 w' => ∃ (x3_1 : Int) (x8_1 : Int), v3 = .int .i64 x3_1 ∧ v8 = .int .i64 x8_1 ∧ Aside0 (packed_Width_uint64.l0 kq x3_1 l0 (l0.length : Int) x8_1 = some r) ∧ Aside0 (kq ≤ k) ∧ Aside0 (Below w.heap.size w w'))
  case atStart => exact ⟨(0), (0), (by first | rfl | (simp; done) | (simp [*]; done)), (by first | rfl | (simp; done) | (simp [*]; done)), H', ⟨Nat.le_refl _⟩, ⟨by repeat (first | (with_reducible first | exact HB.out | apply below_alloc | apply pw_below_drewN | apply below_drew1) | exact HB.out)⟩⟩
  case round =>
    clear H'
    try clear c1
    obtain ⟨x3_1, x8_1, rfl, rfl, HA, HK1, HB⟩ := hrel
    cases gk with
    | zero => exact absurd HA.out (by simp [packed_Width_uint64.l0])
    | succ k1 =>
      have H := HA.out
      clear HA
      simp only [packed_Width_uint64.l0] at H
      by_cases c2 : x8_1 < (l0.length : Int)
      · rw [if_pos c2] at H
        have c2b0 : decide (x8_1 < (l0.length : Int)) = true := decide_eq_true c2
        clear c2
        by_cases c3 : 0 ≤ x8_1
        · rw [if_pos c3] at H
          have c3b0 : decide (0 ≤ x8_1) = true := decide_eq_true c3
          clear c3
          by_cases c4 : x8_1 < (l0.length : Int)
          · rw [if_pos c4] at H
            have c4b0 : decide (x8_1 < (l0.length : Int)) = true := decide_eq_true c4
            clear c4
            replace H := Option.bind_eq_some_iff.mp H
            obtain ⟨t159, A50, H⟩ := H
            replace H : (packed_Width_uint64.l0 k1 (mx x3_1 t159) l0 (l0.length : Int) (wrap64 (x8_1 + 1))) = some r := H
            have A5 := Aside0.mk A50
            clear A50
            obtain ⟨ji6, hji6⟩ : ∃ j_ : Int, (mx x3_1 t159) = j_ := ⟨_, rfl⟩
            replace H : (packed_Width_uint64.l0 k1 ji6 l0 (l0.length : Int) (wrap64 (x8_1 + 1))) = some r := by first | (rw [hji6] at H; exact H) | (simp only [hji6] at H ⊢; exact H)
            (try rw [hji6] at A5)
            have hji6_ : (if x3_1 < t159 then t159 else x3_1) = ji6 := hji6
            have H' := Aside0.mk H
            clear H
            have p158 : 0 ≤ (x8_1 : Int) := of_decide_eq_true (by first | (with_reducible assumption) | assumption)
            have q158 : x8_1 < (l0.length : Int) := of_decide_eq_true (by first | (with_reducible assumption) | assumption)
            obtain ⟨ad158, e158, hx158_0⟩ := Kd.at_int HR0.out x8_1 p158 q158
            cases e158
            replace hx158_0 := (HB.out.cell (World.block_lt_of_cell? w _ hx158_0)).trans hx158_0
            replace p158 := eq_true p158
            replace q158 := eq_true q158
            go_wp2_with (first | ((with_reducible refine gate_callee (f := 47) rfl ?_); refine goesL_ (some 14) rfl rfl Try.func47 (by kernel_rfl) rfl #[.int .u64 (rd l0 x8_1)] rfl (by (try simp only [List.map_toArray, List.map_cons, List.map_nil]); first | done | rfl | (simp only [List.length_drop, List.length_take]; rfl)) ?_; (with_reducible refine (bits_Len64.calls (rd l0 x8_1) t159 _ A5.out).mono ?_); rintro e w' ⟨rfl, ⟨nd, rfl⟩⟩; refine ⟨_, rfl, ?_⟩))
            go_roundg k1
            case measure => have := HK1.out; omega
            case rel => exact ⟨(ji6), (wrap64 (x8_1 + 1)), (by first | rfl | (simp; done) | (simp only [← hji6] <;> (first | rfl | simp)) | (simp [*]; done)), (by first | rfl | (simp; done) | (simp [*]; done)), H', ⟨by have := HK1.out; omega⟩, ⟨by repeat (first | (with_reducible first | exact HB.out | apply below_alloc | apply pw_below_drewN | apply below_drew1) | exact HB.out)⟩⟩
          · rw [if_neg c4] at H
            exact absurd H (by simp)
        · rw [if_neg c3] at H
          exact absurd H (by simp)
      · rw [if_neg c2] at H
        have c2b0 : decide (x8_1 < (l0.length : Int)) = false := decide_eq_false c2
        clear c2
        obtain rfl := Option.some.inj H
        go_wp2
        go_ret
        exact ⟨by first | rfl | (simp [errW_none, errW_some] <;> rfl) | (simp [*, errW_none, errW_some] <;> rfl), by repeat (first | (with_reducible first | exact HB.out | apply below_alloc | apply pw_below_drewN | apply below_drew1) | exact HB.out)⟩

end Go.Proofs.Ytolncaccemfbdaa.PPk

/- Packed numbers of the type uint64: what Width, New, Get, Len tell. -/
namespace Go.Proofs.Ytolncaccemfbdaa.V64
open Go.RowKit Go.Proofs.YtolncaccemfbdaaW.PrintWords Go.Proofs.YtolncaccemfbdaaW.PrintLast Go.Proofs.YtolncaccemfbdaaW.PrintMore
open Go.Proofs.Ytolncaccemfbdaa.Plain Go.Proofs.Ytolncaccemfbdaa.PPk Go.Proofs.Ytolncaccemfbdaa.Hand
set_option linter.unusedVariables false
set_option linter.unusedSimpArgs false
theorem width_go (l : List Int) (hb : ∀ x ∈ l, 0 ≤ x ∧ x < 18446744073709551616) (hl : l.length ≤ 1000000) : ∀ (d k i : Nat), l.length - i = d → d < k → i ≤ l.length → packed_Width_uint64.l0 k (widthL (l.take i) : Int) l (l.length : Int) (i : Int) = some (widthL l : Int) := by
  intro d
  induction d with
  | zero =>
    intro k i hd hk hi
    obtain ⟨k, rfl⟩ : ∃ m, k = m + 1 := ⟨k - 1, by omega⟩
    rw [packed_Width_uint64.l0, if_neg (by omega), show i = l.length from by omega, List.take_length]
  | succ d ih =>
    intro k i hd hk hi
    obtain ⟨k, rfl⟩ : ∃ m, k = m + 1 := ⟨k - 1, by omega⟩
    have hlt : i < l.length := by omega
    have hx := hb _ (List.getElem_mem hlt)
    have hf : bits_Len64.f (rd l (i : Int)) = some (Lib.bitLen (l[i]).toNat : Int) := by
      rw [rd_at l i hlt]
      unfold bits_Len64.f len64F
      rw [if_pos (by omega)]
    rw [packed_Width_uint64.l0, if_pos (by omega), if_pos (by omega), if_pos (by omega), hf, Option.bind_some, mx_cast, w64 (by omega) (by omega)]
    have e : max (widthL (l.take i)) (Lib.bitLen (l[i]).toNat) = widthL (l.take (i + 1)) := by
      rw [List.take_succ_eq_append_getElem hlt, widthL_snoc]
    rw [e, show (i : Int) + 1 = ((i + 1 : Nat) : Int) from by omega]
    exact ih k (i + 1) (by omega) (by omega) (by omega)
theorem width_f (l : List Int) (hb : ∀ x ∈ l, 0 ≤ x ∧ x < 18446744073709551616) (hl : l.length ≤ 1000000) : packed_Width_uint64.f (l.length + 1) l = some (widthL l : Int) := by
  have := width_go l hb hl l.length (l.length + 1) 0 (by omega) (by omega) (by omega)
  rw [List.take_zero, show (widthL [] : Int) = 0 from rfl] at this
  exact this

theorem hinfo : (Try.prog.info? 30).map (fun i => (i.zero, i.size, i.bytes)) = some (some (.int .u64 0), 1, 8) := by kernel_rfl
set_option maxHeartbeats 800000 in
set_option maxRecDepth 100000 in
theorem clone_calls (A0 : Option Addr) (c0 : Nat) (l0 : List Int) (w : World) (hr0 : Kd.C (Kd.int .u64) w A0 l0.length l0) (hl : l0.length ≤ 1000000) :
    Calls Try.prog 48 #[.slice A0 l0.length c0] w fun e w' => ∃ v0_ : Value, e = .returned v0_ ∧ Kd.R (Kd.int .u64) 30 w' w.heap.size (fun _ => True) v0_ l0 ∧ Below w.heap.size w w' := by
  cases A0 with
  | none =>
    have h0 := C_none hr0
    obtain rfl : l0 = [] := List.eq_nil_of_length_eq_zero h0
    clear h0
    have hnil := fun W => Lib.run_eql_slice_nil (P := Try.prog) W 28 30 none 0 c0 0 0 Try.underlying28
    go_enter Try.func48, Try.ntmps48
    go_wp2
    go_ret
    exact ⟨_, rfl, Kd.R_nil _ _ _ _ _, Below.refl _ _⟩
  | some ad =>
    have hnil := fun W => Lib.run_eql_slice_nil (P := Try.prog) W 28 30 (some ad) l0.length c0 0 0 Try.underlying28
    have HR0 := Aside0.mk hr0
    have HL := Aside0.mk hl
    have HB := Aside0.mk (Below.refl w.heap.size w)
    clear hr0 hl
    go_enter Try.func48, Try.ntmps48
    go_wp2_with (first | ((with_reducible refine gate_dst (N := 5) rfl ?_); refine Kd.R_lit (Kd.int .u64) _ 30 ?hg (N := 5) ?hd (xs := ([] : List Int)) (inner := []) (ok := fun _ => True) (okp := fun _ => True) ?hr ?hp (fun _ hk => hk) trivial (Below.refl _ _) (Nat.le_refl _) (by simp) ?_; (case hd => rfl); (case hg => rfl); (case hr => first | (go_simp; done) | (go_simp; rfl)); (case hp => exact Reps.none _ _); intro v1 w1 ho hb hg_ hnew_; clear hg_ hnew_; have HO := Aside0.mk ho; clear HB; have HB := Aside0.mk hb; clear ho hb) | ((with_reducible refine gate_builtin (b := .append) (xs := #[.tmp 5, .tmp 6]) rfl ?_); at_builtin; refine Kd.R_append_rows (Kd.int .u64) (w0 := w) w.heap.size rfl (.tmp 5) (.tmp 6) 28 30 (.int .u64 0) 8 rfl Try.underlying28 hinfo rfl (by decide) (by omega) v1 [] l0 _ _ _ (fun _ => True) (fun _ => False) rfl rfl ?aO ?aR (fun _ _ h => h) (fun _ h => h.elim) ?aF ?aB ?aS ?aL ?_; (case aR => exact (Kd.C_below HR0.out HB.out)); (case aB => exact HB.out); (case aF => exact (fun _ _ => trivial)); (case aO => exact HO.out); (case aS => exact (below_size HB.out)); (case aL => have := HL.out; simp only [List.length_nil]; omega); intro v2 w2 ho hb hg hat; clear HB HO; have HO := Aside0.mk ho; have HB := Aside0.mk hb; clear ho hb hg hat))
    go_ret
    exact ⟨_, rfl, HO.out, HB.out⟩
set_option maxHeartbeats 800000 in
set_option maxRecDepth 100000 in
theorem new_bad (a0 : Int) (A1 : Option Addr) (c1 : Nat) (l1 : List Int) (w : World) (hr1 : Kd.C (Kd.int .u64) w A1 l1.length l1) (hc1 : l1.length ≤ c1) (hb : ∀ x ∈ l1, 0 ≤ x ∧ x < 18446744073709551616) (hl : l1.length ≤ 1000000) (r : Int) (h : newE a0 l1 = r) (h0 : r ≠ 0) :
    Calls Try.prog 14 #[.int .i64 a0, .slice A1 l1.length c1] w fun e w' => e = .returned (.tuple #[.pointer none, .int .i64 r]) ∧ Below w.heap.size w w' := by
  have HWF := Aside0.mk (width_f l1 hb hl)
  have HR1 := Aside0.mk hr1
  have HB := Aside0.mk (Below.refl w.heap.size w)
  clear hr1 hb hl
  unfold newE at h
  obtain ⟨m, em⟩ : ∃ m, widthL l1 = m := ⟨_, rfl⟩
  rw [em] at HWF h
  by_cases k1 : a0 < 0
  · have d1 : decide (a0 < 0) = true := decide_eq_true k1
    rw [if_pos (.inl k1)] at h
    subst h
    clear h0 em
    go_enter Try.func14, Try.ntmps14
    go_wp2
    refine bodyPost_ret (results_list (rs := [.tmp 4, .tmp 5]) rfl (by simp) (.tmp (.tmp .nil))) rfl ?_
    exact ⟨rfl, HB.out⟩
  have d1 : decide (a0 < 0) = false := decide_eq_false k1
  by_cases k2 : 64 < a0
  · have d2 : decide (64 < a0) = true := decide_eq_true k2
    rw [if_pos (.inr (.inl k2))] at h
    subst h
    clear h0 em
    go_enter Try.func14, Try.ntmps14
    go_wp2
    refine bodyPost_ret (results_list (rs := [.tmp 4, .tmp 5]) rfl (by simp) (.tmp (.tmp .nil))) rfl ?_
    exact ⟨rfl, HB.out⟩
  have d2 : decide (64 < a0) = false := decide_eq_false k2
  by_cases k3 : a0 < (m : Int)
  · have d3 : decide (a0 < (m : Int)) = true := decide_eq_true k3
    rw [if_pos (.inr (.inr k3))] at h
    subst h
    clear h0 em
    go_enter Try.func14, Try.ntmps14
    go_wp2_with (first | (go_at_call 13; refine (packed_Width_uint64.calls _ _ _ _ _ _ (Kd.C_below HR1.out HB.out) hc1 HWF.out).mono ?_; rintro e w1 ⟨rfl, hb⟩; have n1_ := Aside0.mk (below_step HB.out hb); clear HB hb; have HB := n1_; clear n1_))
    refine bodyPost_ret (results_list (rs := [.tmp 4, .tmp 5]) rfl (by simp) (.tmp (.tmp .nil))) rfl ?_
    exact ⟨rfl, HB.out⟩
  have d3 : decide (a0 < (m : Int)) = false := decide_eq_false k3
  by_cases k4 : 100000 < l1.length
  · have d4 : decide (100000 < (l1.length : Int)) = true := decide_eq_true (by omega)
    rw [if_neg (by omega), if_pos k4] at h
    subst h
    clear h0 em
    go_enter Try.func14, Try.ntmps14
    go_wp2_with (first | (go_at_call 13; refine (packed_Width_uint64.calls _ _ _ _ _ _ (Kd.C_below HR1.out HB.out) hc1 HWF.out).mono ?_; rintro e w1 ⟨rfl, hb⟩; have n1_ := Aside0.mk (below_step HB.out hb); clear HB hb; have HB := n1_; clear n1_))
    refine bodyPost_ret (results_list (rs := [.tmp 4, .tmp 5]) rfl (by simp) (.tmp (.tmp .nil))) rfl ?_
    exact ⟨rfl, HB.out⟩
  · rw [if_neg (by omega), if_neg k4] at h
    exact absurd h.symm h0
set_option maxHeartbeats 800000 in
set_option maxRecDepth 100000 in
theorem new_good (a0 : Int) (A1 : Option Addr) (c1 : Nat) (l1 : List Int) (w : World) (hr1 : Kd.C (Kd.int .u64) w A1 l1.length l1) (hc1 : l1.length ≤ c1) (hb : ∀ x ∈ l1, 0 ≤ x ∧ x < 18446744073709551616) (hl : l1.length ≤ 1000000) (h : newE a0 l1 = 0) :
    Calls Try.prog 14 #[.int .i64 a0, .slice A1 l1.length c1] w fun e w' => ∃ g, e = .returned (.tuple #[.pointer (some ⟨g, 0, none⟩), .int .i64 0]) ∧ w.heap.size ≤ g ∧ VecAt .u64 83 w' g a0 l1 ∧ Below w.heap.size w w' := by
  have HWF := Aside0.mk (width_f l1 hb hl)
  have HR1 := Aside0.mk hr1
  have HL := Aside0.mk hl
  have HB := Aside0.mk (Below.refl w.heap.size w)
  clear hr1 hb hl
  obtain ⟨k1, k2, k3, k4⟩ := newE_ok h
  obtain ⟨m, em⟩ : ∃ m, widthL l1 = m := ⟨_, rfl⟩
  rw [em] at HWF k3
  have d1 : decide (a0 < 0) = false := decide_eq_false (by omega)
  have d2 : decide (64 < a0) = false := decide_eq_false (by omega)
  have d3 : decide (a0 < (m : Int)) = false := decide_eq_false (by omega)
  have d4 : decide (100000 < (l1.length : Int)) = false := decide_eq_false (by omega)
  clear em h
  go_enter Try.func14, Try.ntmps14
  go_wp2_with (first | (go_at_call 13; refine (packed_Width_uint64.calls _ _ _ _ _ _ (Kd.C_below HR1.out HB.out) hc1 HWF.out).mono ?_; rintro e w1 ⟨rfl, hb⟩; have n1_ := Aside0.mk (below_step HB.out hb); clear HB hb; have HB := n1_; clear n1_) | (go_at_call 48; refine (clone_calls _ _ l1 _ (Kd.C_below HR1.out HB.out) HL.out).mono ?_; rintro e w2 ⟨v2, rfl, ho, hb⟩; obtain ⟨A2, c2, rfl⟩ := Kd.R_slice ho; have HO := Aside0.mk (Kd.R_reads' ho).2; have n1_ := Aside0.mk (below_step HB.out hb); clear HB hb ho; have HB := n1_; clear n1_))
  refine bodyPost_ret (results_list (rs := [.tmp 4, .tmp 5]) rfl (by simp) (.tmp (.tmp .nil))) rfl ?_
  refine ⟨w2.heap.size, rfl, HB.out.size, ⟨A2, c2, blk_new _ _, HO.out.1, Kd.C_alloc HO.out.2 _⟩, below_alloc HB.out _⟩
set_option maxHeartbeats 800000 in
set_option maxRecDepth 100000 in
theorem get_calls (g : Nat) (a0 : Int) (l : List Int) (i : Int) (w : World) (h : VecAt .u64 83 w g a0 l) :
    Calls Try.prog 22 #[.pointer (some ⟨g, 0, none⟩), .int .i64 i] w fun e w' => e = .returned (.int .u64 (if 0 ≤ i ∧ i < l.length then rd l i else 0)) ∧ w' = w := by
  obtain ⟨A, c, hb, hle, hC⟩ := h
  have hx1 := blk_cell hb 1
  by_cases k1 : i < 0
  · have d1 : decide (i < 0) = true := decide_eq_true k1
    rw [if_neg (by omega)]
    clear hC hb
    go_enter Try.func22, Try.ntmps22
    go_wp2
    go_ret
    exact ⟨rfl, rfl⟩
  have d1 : decide (i < 0) = false := decide_eq_false k1
  by_cases k2 : (l.length : Int) ≤ i
  · have d2 : decide ((l.length : Int) ≤ i) = true := decide_eq_true k2
    rw [if_neg (by omega)]
    clear hC hb
    go_enter Try.func22, Try.ntmps22
    go_wp2
    go_ret
    exact ⟨rfl, rfl⟩
  have d2 : decide ((l.length : Int) ≤ i) = false := decide_eq_false k2
  rw [if_pos (by omega)]
  obtain ⟨ad, rfl, hc⟩ := Kd.at_int hC i (by omega) (by omega)
  have k3 : 0 ≤ i := by omega
  have k4 : i < (l.length : Int) := by omega
  clear hC hb k1 k2
  go_enter Try.func22, Try.ntmps22
  go_wp2
  go_ret
  exact ⟨rfl, rfl⟩

set_option maxHeartbeats 800000 in
set_option maxRecDepth 100000 in
theorem len_calls (g : Nat) (a0 : Int) (l : List Int) (w : World) (h : VecAt .u64 83 w g a0 l) :
    Calls Try.prog 43 #[.pointer (some ⟨g, 0, none⟩)] w fun e w' => e = .returned (.int .i64 (l.length : Int)) ∧ w' = w := by
  obtain ⟨A, c, hb, hle, hC⟩ := h
  have hx1 := blk_cell hb 1
  clear hC hb
  go_enter Try.func43, Try.ntmps43
  go_wp2
  go_ret
  exact ⟨rfl, rfl⟩
set_option maxHeartbeats 800000 in
set_option maxRecDepth 100000 in
theorem wid_calls (g : Nat) (a0 : Int) (l : List Int) (w : World) (h : VecAt .u64 83 w g a0 l) :
    Calls Try.prog 44 #[.pointer (some ⟨g, 0, none⟩)] w fun e w' => e = .returned (.int .i64 a0) ∧ w' = w := by
  obtain ⟨A, c, hb, hle, hC⟩ := h
  have hx0 := blk_cell hb 0
  clear hC hb
  go_enter Try.func44, Try.ntmps44
  go_wp2
  go_ret
  exact ⟨rfl, rfl⟩
end Go.Proofs.Ytolncaccemfbdaa.V64

/- Packed numbers of the type uint64 as bytes: what Bytes tells. -/
namespace Go.Proofs.Ytolncaccemfbdaa.V64
open Go.RowKit Go.Proofs.YtolncaccemfbdaaW.PrintWords Go.Proofs.YtolncaccemfbdaaW.PrintLast Go.Proofs.YtolncaccemfbdaaW.PrintMore
open Go.Proofs.Ytolncaccemfbdaa.Plain Go.Proofs.Ytolncaccemfbdaa.PPk Go.Proofs.Ytolncaccemfbdaa.Hand
attribute [local go_sem] max2_int min2_int max_two min_two
set_option linter.unusedVariables false
set_option linter.unusedSimpArgs false
def by.T1 : Bool × List (List Nat × List Nat) := (true, [([], []), ([0], [0]), ([1], [1]), ([2], [2]), ([3], [3]), ([4], [4]), ([5], [5]), ([], []), ([7], [7]), ([8], [8]), ([9], [9]), ([10], [10]), ([11], [11]), ([6, 12, 6], [6, 12]), ([13, 13, 0, 1, 2, 3, 4, 5, 6, 7, 8, 9, 10, 11, 12, 13], [13])])
def by.B1 : List Nat := [0, 1, 3, 7, 15, 31, 63, 0, 128, 384, 896, 1920, 3968, 8191, 16383]
theorem by.tab1 : rtab .any (opsOf Try.f21 1) = by.T1 := by kernel_rfl
theorem by.bits1 : waitsOk by.T1.2 by.B1 = true := by kernel_rfl
def by.T2 : Bool × List (List Nat × List Nat) := (true, [([], []), ([0], [0]), ([1], [1]), ([2], [2]), ([3], [3]), ([], []), ([5], [5]), ([6], [6]), ([7], [7]), ([4, 8], [4, 8]), ([9], [9]), ([10], [10]), ([11], [11]), ([12, 12], [12]), ([13, 0, 1, 2, 3, 4, 5, 6, 7, 8, 9, 10, 11, 12, 13], [13])])
def by.B2 : List Nat := [0, 1, 3, 7, 15, 0, 32, 96, 224, 511, 1023, 2047, 4095, 8191, 16383]
theorem by.tab2 : rtab .any (opsOf Try.f21 2) = by.T2 := by kernel_rfl
theorem by.bits2 : waitsOk by.T2.2 by.B2 = true := by kernel_rfl
def by.T10 : Bool × List (List Nat × List Nat) := (true, [([], []), ([], []), ([1], [1]), ([0, 2], [0, 2]), ([3], [3]), ([], []), ([], []), ([5, 6], [5, 6]), ([7], [7]), ([8], [8]), ([], []), ([10], [10]), ([9, 11], [9, 11]), ([4, 12], [4, 12]), ([0, 2, 0, 1, 2, 3, 4, 5, 6, 7, 8, 9, 10, 11, 12, 13], [0, 2]), ([14, 13, 0, 1, 2, 3, 4, 5, 6, 7, 8, 9, 10, 11, 12, 13], [13, 14])])
def by.B10 : List Nat := [0, 0, 2, 7, 15, 0, 0, 96, 224, 480, 0, 1024, 4064, 8191, 16383, 32767]
theorem by.tab10 : rtab .any (opsOf Try.f21 10) = by.T10 := by kernel_rfl
theorem by.bits10 : waitsOk by.T10.2 by.B10 = true := by kernel_rfl
set_option maxHeartbeats 8000000 in
set_option maxRecDepth 100000 in
theorem bytes_calls (g q : Nat) (l : List Int) (w : World) (h : VecAt .u64 83 w g (q : Int) l) (hq : q ≤ 64) (hn : l.length ≤ 100000) (hb : ∀ x ∈ l, 0 ≤ x ∧ x < 18446744073709551616) :
    Calls Try.prog 21 #[.pointer (some ⟨g, 0, none⟩)] w fun e w' => ∃ v0_ : Value, e = .returned v0_ ∧ Kd.R (Kd.int .u8) 5 w' w.heap.size (fun _ => True) v0_ (vbytes q l) ∧ Below w.heap.size w w' := by
  obtain ⟨A, c, hblk, hle, hC⟩ := h
  have hx0 := blk_cell hblk 0
  have hx1 := blk_cell hblk 1
  have hx0' : w.cell? ⟨g, 0, none⟩ = some (.int .i64 (q : Int)) := hx0
  have hx1' : w.cell? ⟨g, 1, none⟩ = some (.slice A l.length c) := hx1
  have HX0 := Aside0.mk hx0'
  have HX1 := Aside0.mk hx1'
  have HC := Aside0.mk hC
  have HN := Aside0.mk hn
  have HQ := Aside0.mk hq
  have HBB := Aside0.mk hb
  have hen := encN_len64 (n := l.length) (by omega)
  have hep := encN_pos l.length
  have hput : putF [] (l.length : Int) = some (encN l.length) := by
    unfold putF
    rw [if_pos ⟨by simp, by omega, by omega⟩, List.nil_append, Int.toNat_natCast]
  have HPUT := Aside0.mk hput
  have hu1 : IntKind.u64.wrap (l.length : Int) = (l.length : Int) := by rw [wrap_u64]; omega
  have hu2 : IntKind.u8.wrap (q : Int) = (q : Int) := by rw [Go.IntKind.wrap_u8]; omega
  have hu3 : (q : Int) % 256 = (q : Int) := by omega
  have hu4 : (l.length : Int) % 18446744073709551616 = (l.length : Int) := by omega
  obtain ⟨H, eH⟩ : ∃ H, encN l.length = H := ⟨_, rfl⟩
  rw [eH] at hen hep HPUT
  have HHE := Aside0.mk eH
  have HHL := Aside0.mk (And.intro hen hep)
  obtain ⟨H2, eH2⟩ : ∃ H2, H ++ [(q : Int)] = H2 := ⟨_, rfl⟩
  have HH2 := Aside0.mk eH2
  have HH2L := Aside0.mk (show H2.length ≤ 11 by rw [← eH2, List.length_append]; simp only [List.length_singleton]; omega)
  clear eH2
  clear hx0 hx1 hx0' hx1' hblk hC hb hn hq hen hep hput eH
  go_enter Try.func21, Try.ntmps21
  go_wp2
  refine start_ (n := 15) (S := fun w' => Below w.heap.size w w') (ds := []) #[false, false, false, false, false, false, false, false, false, false, false, false, false, false, false] (by kernel_rfl) rfl rfl (below_drew1 (Below.refl _ _)) (fun hHeld => ?_)
  refine with_tabW by.tab1 by.bits1 (fun HT_ HW_ => ?_)
  refine pure_ (i := 0) (N := some 9) (v := ?_) (a' := ?_) #[true, false, false, false, false, false, false, false, false, false, false, false, false, false, false] rfl rfl (any_of HT_.out (by kernel_rfl)) (fun _ _ _ h => h) (Or.inl ⟨by rfl, ?_⟩) ?_ ?_
  rotate_left
  · intro w'
    go_simp
    with_reducible rfl
  rotate_left
  · simp only [Act.put, List.setIfInBounds_toArray, List.set_cons_zero, List.set_cons_succ, i64_w, i32_w]
    rfl
  refine pure_ (i := 1) (N := some 10) (v := ?_) (a' := ?_) #[true, true, false, false, false, false, false, false, false, false, false, false, false, false, false] rfl rfl (any_of HT_.out (by kernel_rfl)) (fun _ _ _ h => h) (Or.inl ⟨by rfl, ?_⟩) ?_ ?_
  rotate_left
  · intro w'
    go_simp
    with_reducible rfl
  rotate_left
  · simp only [Act.put, List.setIfInBounds_toArray, List.set_cons_zero, List.set_cons_succ, i64_w, i32_w]
    rfl
  refine pure_ (i := 2) (N := some 11) (v := ?_) (a' := ?_) #[true, true, true, false, false, false, false, false, false, false, false, false, false, false, false] rfl rfl (any_of HT_.out (by kernel_rfl)) (fun _ _ _ h => h) (Or.inl ⟨by rfl, ?_⟩) ?_ ?_
  rotate_left
  · intro w'
    go_simp
    with_reducible rfl
  rotate_left
  · simp only [Act.put, List.setIfInBounds_toArray, List.set_cons_zero, List.set_cons_succ, i64_w, i32_w]
    rfl
  refine take_ (i := 3) (N := some 12) (v := ?_) (a' := ?_) #[true, true, true, true, false, false, false, false, false, false, false, false, false, false, false] rfl rfl (take_ofW HT_.out HW_.out (by kernel_rfl)) (fun _ _ _ h => h) (Or.inl ⟨by rfl, ?_⟩) hHeld ?_ ?_
  rotate_left
  · intro w' hS
    have h_ := (hS.cell (World.block_lt_of_cell? _ _ HX1.out)).trans HX1.out
    go_simp
    with_reducible rfl
  rotate_left
  · simp only [Act.put, List.setIfInBounds_toArray, List.set_cons_zero, List.set_cons_succ, i64_w, i32_w]
    rfl
  refine pure_ (i := 4) (N := some 13) (v := ?_) (a' := ?_) #[true, true, true, true, true, false, false, false, false, false, false, false, false, false, false] rfl rfl (any_of HT_.out (by kernel_rfl)) (fun _ _ _ h => h) (Or.inl ⟨by rfl, ?_⟩) ?_ ?_
  rotate_left
  · intro w'
    go_simp
    with_reducible rfl
  rotate_left
  · simp only [Act.put, List.setIfInBounds_toArray, List.set_cons_zero, List.set_cons_succ, i64_w, i32_w]
    rfl
  refine pure_ (i := 5) (N := some 14) (v := ?_) (a' := ?_) #[true, true, true, true, true, true, false, false, false, false, false, false, false, false, false] rfl rfl (any_of HT_.out (by kernel_rfl)) (fun _ _ _ h => h) (Or.inl ⟨by rfl, ?_⟩) ?_ ?_
  rotate_left
  · intro w'
    go_simp
    with_reducible rfl
  rotate_left
  · simp only [Act.put, List.setIfInBounds_toArray, List.set_cons_zero, List.set_cons_succ, i64_w, i32_w]
    rfl
  refine pure_ (i := 7) (N := some 16) (v := ?_) (a' := ?_) #[true, true, true, true, true, true, false, true, false, false, false, false, false, false, false] rfl rfl (any_of HT_.out (by kernel_rfl)) (fun _ _ _ h => h) (Or.inl ⟨by rfl, ?_⟩) ?_ ?_
  rotate_left
  · intro w'
    go_simp
    with_reducible rfl
  rotate_left
  · simp only [Act.put, List.setIfInBounds_toArray, List.set_cons_zero, List.set_cons_succ, i64_w, i32_w]
    rfl
  refine pure_ (i := 8) (N := some 17) (v := ?_) (a' := ?_) #[true, true, true, true, true, true, false, true, true, false, false, false, false, false, false] rfl rfl (any_of HT_.out (by kernel_rfl)) (fun _ _ _ h => h) (Or.inl ⟨by rfl, ?_⟩) ?_ ?_
  rotate_left
  · intro w'
    go_simp
    with_reducible rfl
  rotate_left
  · simp only [Act.put, List.setIfInBounds_toArray, List.set_cons_zero, List.set_cons_succ, i64_w, i32_w]
    rfl
  refine pure_ (i := 9) (N := some 18) (v := ?_) (a' := ?_) #[true, true, true, true, true, true, false, true, true, true, false, false, false, false, false] rfl rfl (any_of HT_.out (by kernel_rfl)) (fun _ _ _ h => h) (Or.inl ⟨by rfl, ?_⟩) ?_ ?_
  rotate_left
  · intro w'
    go_simp
    with_reducible rfl
  rotate_left
  · simp only [Act.put, List.setIfInBounds_toArray, List.set_cons_zero, List.set_cons_succ, i64_w, i32_w]
    rfl
  refine take_ (i := 10) (N := some 19) (v := ?_) (a' := ?_) #[true, true, true, true, true, true, false, true, true, true, true, false, false, false, false] rfl rfl (take_ofW HT_.out HW_.out (by kernel_rfl)) (fun _ _ _ h => h) (Or.inl ⟨by rfl, ?_⟩) hHeld ?_ ?_
  rotate_left
  · intro w' hS
    have h_ := (hS.cell (World.block_lt_of_cell? _ _ HX0.out)).trans HX0.out
    go_simp
    with_reducible rfl
  rotate_left
  · simp only [Act.put, List.setIfInBounds_toArray, List.set_cons_zero, List.set_cons_succ, i64_w, i32_w]
    rfl
  refine pure_ (i := 11) (N := some 20) (v := ?_) (a' := ?_) #[true, true, true, true, true, true, false, true, true, true, true, true, false, false, false] rfl rfl (any_of HT_.out (by kernel_rfl)) (fun _ _ _ h => h) (Or.inl ⟨by rfl, ?_⟩) ?_ ?_
  rotate_left
  · intro w'
    go_simp
    with_reducible rfl
  rotate_left
  · simp only [Act.put, List.setIfInBounds_toArray, List.set_cons_zero, List.set_cons_succ, i64_w, i32_w]
    rfl
  refine join_ (σ := Addr × Addr) 2 #[true, true, true, true, true, true, true, true, true, true, true, true, true, false, false] (fun s_ => [(15, .slice (some s_.1) H.length H.length), (21, .slice (some s_.2) 1 1)]) (fun s_ w' => (Kd.C (Kd.int .u8) w' (some s_.1) H.length H ∧ w'.cell? s_.2 = some (.int .u8 (q : Int))) ∧ Below w.heap.size w w') ?_ ?_
  rotate_left
  · intro hCont
    refine two_ (i := 6) (j := 12) (Ni := some 15) (Nj := some 21) #[true, true, true, true, true, true, true, true, true, true, true, true, false, false, false] #[true, true, true, true, true, true, false, true, true, true, true, true, true, false, false] rfl rfl rfl rfl (two_of HT_.out (by kernel_rfl)) (by decide) (by decide) (fun K hK => ?_) (fun K hK => ?_)
    · skip
      refine goes_ Try.func51 (by kernel_rfl) rfl #[.slice none 0 0, .int .u64 (l.length : Int)] (by rfl) rfl rfl (by (try simp only [List.map_toArray, List.map_cons, List.map_nil]); first | done | rfl) ?_
      refine (put_clipped none 0 [] _ _ _ (Kd.C_nil _ _) HPUT.out).mono ?_
      rintro e w1 ⟨v1, rfl, ⟨A1_, c1_, rfl, hcl_⟩, hb⟩
      obtain ⟨g1_, c2_, e1_, _, _, _, _⟩ := Kd.R_form hcl_ HHL.out.2
      injection e1_ with e1_ _ _
      subst e1_
      have hC1_ := (Kd.R_reads' hcl_).2.2
      have hc2_ := True.intro
      refine ⟨_, rfl, ?_⟩
      have hS_ := below_step hHeld hb
      (try have hd_ := (hb.cell (World.block_lt_of_cell? _ _ hd0_)).trans hd0_)
      refine hK.out _ _ hS_ (fun hHeld => ?_)
      clear hK K
      refine norm_ (a' := ?_) ?_ ?_
      rotate_left
      · show Act.put _ (some 15) _ = _
        simp only [Act.put, List.setIfInBounds_toArray, List.set_cons_zero, List.set_cons_succ, i64_w, i32_w]
        rfl
      refine one_ (i := 12) (N := some 21) #[true, true, true, true, true, true, true, true, true, true, true, true, true, false, false] rfl rfl (one_of HT_.out (by kernel_rfl)) (by decide) (fun K hK => ?_)
      refine value_ (w1 := ?_) (v := ?_) (by rfl) rfl ?_ ?_
      rotate_left 2
      · go_simp
        constructor
        · rfl
        · rfl
      have hS_ := below_alloc hHeld (.cells #[.int .u8 (q : Int)] 5)
      have hd0_ := new_cell hHeld (.int .u8 (q : Int)) 5
      (try have hC2_ := Kd.C_alloc hC1_ (.cells #[.int .u8 (q : Int)] 5))
      refine hK.out _ _ hS_ (fun hHeld => ?_)
      clear hK K
      refine norm_ (a' := ?_) ?_ ?_
      rotate_left
      · show Act.put _ (some 21) _ = _
        simp only [Act.put, List.setIfInBounds_toArray, List.set_cons_zero, List.set_cons_succ, i64_w, i32_w]
        rfl
      exact norm_ (by simp only [putAll, Act.put, List.setIfInBounds_toArray, List.set_cons_zero, List.set_cons_succ] <;> rfl) (hCont (_, _) _ ⟨⟨hC2_, hd0_⟩, hHeld⟩)
    · skip
      refine value_ (w1 := ?_) (v := ?_) (by rfl) rfl ?_ ?_
      rotate_left 2
      · go_simp
        constructor
        · rfl
        · rfl
      have hS_ := below_alloc hHeld (.cells #[.int .u8 (q : Int)] 5)
      have hd0_ := new_cell hHeld (.int .u8 (q : Int)) 5
      (try have hC2_ := Kd.C_alloc hC1_ (.cells #[.int .u8 (q : Int)] 5))
      refine hK.out _ _ hS_ (fun hHeld => ?_)
      clear hK K
      refine norm_ (a' := ?_) ?_ ?_
      rotate_left
      · show Act.put _ (some 21) _ = _
        simp only [Act.put, List.setIfInBounds_toArray, List.set_cons_zero, List.set_cons_succ, i64_w, i32_w]
        rfl
      refine one_ (i := 6) (N := some 15) #[true, true, true, true, true, true, true, true, true, true, true, true, true, false, false] rfl rfl (one_of HT_.out (by kernel_rfl)) (by decide) (fun K hK => ?_)
      refine goes_ Try.func51 (by kernel_rfl) rfl #[.slice none 0 0, .int .u64 (l.length : Int)] (by rfl) rfl rfl (by (try simp only [List.map_toArray, List.map_cons, List.map_nil]); first | done | rfl) ?_
      refine (put_clipped none 0 [] _ _ _ (Kd.C_nil _ _) HPUT.out).mono ?_
      rintro e w1 ⟨v1, rfl, ⟨A1_, c1_, rfl, hcl_⟩, hb⟩
      obtain ⟨g1_, c2_, e1_, _, _, _, _⟩ := Kd.R_form hcl_ HHL.out.2
      injection e1_ with e1_ _ _
      subst e1_
      have hC1_ := (Kd.R_reads' hcl_).2.2
      have hc2_ := True.intro
      refine ⟨_, rfl, ?_⟩
      have hS_ := below_step hHeld hb
      (try have hd_ := (hb.cell (World.block_lt_of_cell? _ _ hd0_)).trans hd0_)
      refine hK.out _ _ hS_ (fun hHeld => ?_)
      clear hK K
      refine norm_ (a' := ?_) ?_ ?_
      rotate_left
      · show Act.put _ (some 15) _ = _
        simp only [Act.put, List.setIfInBounds_toArray, List.set_cons_zero, List.set_cons_succ, i64_w, i32_w]
        rfl
      exact norm_ (by simp only [putAll, Act.put, List.setIfInBounds_toArray, List.set_cons_zero, List.set_cons_succ] <;> rfl) (hCont (_, _) _ ⟨⟨hC1_, hd_⟩, hHeld⟩)
  rintro ⟨D1, D2⟩ w2 ⟨⟨hD1, hD2⟩, hHeld⟩
  refine norm_ (a' := ?_) ?_ ?_
  rotate_left
  · simp only [putAll, Act.put, List.setIfInBounds_toArray, List.set_cons_zero, List.set_cons_succ, i64_w, i32_w]
    rfl
  refine one_ (i := 13) (N := some 22) #[true, true, true, true, true, true, true, true, true, true, true, true, true, true, false] rfl rfl (one_of HT_.out (by kernel_rfl)) (by decide) (fun K hK => ?_)
  refine append_full_ (zs := H2) HH2.out (s := .tmp 15) (x := .tmp 21) (t := 23) (by rfl) rfl rfl Try.underlying23 hinfo_u8 rfl rfl rfl hD1 hD2 (by have := HHL.out; omega) ?_
  intro A3 c3 w3 hle3 ho3 hb3
  have hS_ := below_step hHeld hb3
  refine hK.out _ _ hS_ (fun hHeld => ?_)
  clear hK K
  refine norm_ (a' := ?_) ?_ ?_
  rotate_left
  · show Act.put _ (some 22) _ = _
    simp only [Act.put, List.setIfInBounds_toArray, List.set_cons_zero, List.set_cons_succ, i64_w, i32_w]
    rfl
  refine pure_ (i := 14) (N := some 3) (v := ?_) (a' := ?_) #[true, true, true, true, true, true, true, true, true, true, true, true, true, true, true] rfl rfl (any_of HT_.out (by kernel_rfl)) (fun _ _ _ h => h) (Or.inl ⟨by rfl, ?_⟩) ?_ ?_
  rotate_left
  · intro w'
    go_simp
    with_reducible rfl
  rotate_left
  · simp only [Act.put, List.setIfInBounds_toArray, List.set_cons_zero, List.set_cons_succ, i64_w, i32_w]
    rfl
  refine done_ (done_of HT_.out (by kernel_rfl)) ?_
  have HHR := Aside0.mk (And.intro hle3 (Kd.R_reads' ho3).2.2)
  have HB := Aside0.mk hHeld
  clear hle3 ho3 hb3 hHeld hD1 hD2 hu1 hu2 hu3 hu4
  have hs1 := size_nums HN.out HQ.out
  have hsz := size_le HN.out HQ.out
  obtain ⟨NW, eNW⟩ : ∃ NW, l.length * q = NW := ⟨_, rfl⟩
  obtain ⟨sz, esz⟩ : ∃ sz, sizeN l.length q = sz := ⟨_, rfl⟩
  rw [eNW, esz] at hs1
  rw [esz] at hsz
  obtain ⟨m1, m2, m3, m4, m5⟩ := hs1
  have HSZ := Aside0.mk hsz
  have HNW := Aside0.mk eNW
  have HESZ := Aside0.mk esz
  have m6 : ¬ (sz : Int) < 0 := Int.not_lt.2 (Int.natCast_nonneg _)
  clear hsz eNW esz
  go_wp2
  refine start_ (n := 15) (S := fun w' => Below w3.heap.size w3 w') (ds := []) #[false, false, false, false, false, false, false, false, false, false, false, false, false, false, false] (by kernel_rfl) rfl rfl (below_drew1 (Below.refl _ _)) (fun hHeld => ?_)
  refine with_tabW by.tab2 by.bits2 (fun HT_ HW_ => ?_)
  refine pure_ (i := 0) (N := some 23) (v := ?_) (a' := ?_) #[true, false, false, false, false, false, false, false, false, false, false, false, false, false, false] rfl rfl (any_of HT_.out (by kernel_rfl)) (fun _ _ _ h => h) (Or.inl ⟨by rfl, ?_⟩) ?_ ?_
  rotate_left
  · intro w'
    go_simp
    with_reducible rfl
  rotate_left
  · simp only [Act.put, List.setIfInBounds_toArray, List.set_cons_zero, List.set_cons_succ, i64_w, i32_w]
    rfl
  refine pure_ (i := 1) (N := some 24) (v := ?_) (a' := ?_) #[true, true, false, false, false, false, false, false, false, false, false, false, false, false, false] rfl rfl (any_of HT_.out (by kernel_rfl)) (fun _ _ _ h => h) (Or.inl ⟨by rfl, ?_⟩) ?_ ?_
  rotate_left
  · intro w'
    go_simp
    with_reducible rfl
  rotate_left
  · simp only [Act.put, List.setIfInBounds_toArray, List.set_cons_zero, List.set_cons_succ, i64_w, i32_w]
    rfl
  refine pure_ (i := 2) (N := some 25) (v := ?_) (a' := ?_) #[true, true, true, false, false, false, false, false, false, false, false, false, false, false, false] rfl rfl (any_of HT_.out (by kernel_rfl)) (fun _ _ _ h => h) (Or.inl ⟨by rfl, ?_⟩) ?_ ?_
  rotate_left
  · intro w'
    go_simp
    with_reducible rfl
  rotate_left
  · simp only [Act.put, List.setIfInBounds_toArray, List.set_cons_zero, List.set_cons_succ, i64_w, i32_w]
    rfl
  refine take_ (i := 3) (N := some 26) (v := ?_) (a' := ?_) #[true, true, true, true, false, false, false, false, false, false, false, false, false, false, false] rfl rfl (take_ofW HT_.out HW_.out (by kernel_rfl)) (fun _ _ _ h => h) (Or.inl ⟨by rfl, ?_⟩) hHeld ?_ ?_
  rotate_left
  · intro w' hS
    have h_ := ((below_step HB.out hS).cell (World.block_lt_of_cell? _ _ HX1.out)).trans HX1.out
    go_simp
    with_reducible rfl
  rotate_left
  · simp only [Act.put, List.setIfInBounds_toArray, List.set_cons_zero, List.set_cons_succ, i64_w, i32_w]
    rfl
  refine pure_ (i := 4) (N := some 27) (v := ?_) (a' := ?_) #[true, true, true, true, true, false, false, false, false, false, false, false, false, false, false] rfl rfl (any_of HT_.out (by kernel_rfl)) (fun _ _ _ h => h) (Or.inl ⟨by rfl, ?_⟩) ?_ ?_
  rotate_left
  · intro w'
    go_simp
    with_reducible rfl
  rotate_left
  · simp only [Act.put, List.setIfInBounds_toArray, List.set_cons_zero, List.set_cons_succ, i64_w, i32_w]
    rfl
  refine pure_ (i := 5) (N := some 28) (v := ?_) (a' := ?_) #[true, true, true, true, true, true, false, false, false, false, false, false, false, false, false] rfl rfl (any_of HT_.out (by kernel_rfl)) (fun _ _ _ h => h) (Or.inl ⟨by rfl, ?_⟩) ?_ ?_
  rotate_left
  · intro w'
    go_simp
    with_reducible rfl
  rotate_left
  · simp only [Act.put, List.setIfInBounds_toArray, List.set_cons_zero, List.set_cons_succ, i64_w, i32_w]
    rfl
  refine pure_ (i := 6) (N := some 29) (v := ?_) (a' := ?_) #[true, true, true, true, true, true, true, false, false, false, false, false, false, false, false] rfl rfl (any_of HT_.out (by kernel_rfl)) (fun _ _ _ h => h) (Or.inl ⟨by rfl, ?_⟩) ?_ ?_
  rotate_left
  · intro w'
    go_simp
    with_reducible rfl
  rotate_left
  · simp only [Act.put, List.setIfInBounds_toArray, List.set_cons_zero, List.set_cons_succ, i64_w, i32_w]
    rfl
  refine pure_ (i := 7) (N := some 30) (v := ?_) (a' := ?_) #[true, true, true, true, true, true, true, true, false, false, false, false, false, false, false] rfl rfl (any_of HT_.out (by kernel_rfl)) (fun _ _ _ h => h) (Or.inl ⟨by rfl, ?_⟩) ?_ ?_
  rotate_left
  · intro w'
    go_simp
    with_reducible rfl
  rotate_left
  · simp only [Act.put, List.setIfInBounds_toArray, List.set_cons_zero, List.set_cons_succ, i64_w, i32_w]
    rfl
  refine take_ (i := 8) (N := some 31) (v := ?_) (a' := ?_) #[true, true, true, true, true, true, true, true, true, false, false, false, false, false, false] rfl rfl (take_ofW HT_.out HW_.out (by kernel_rfl)) (fun _ _ _ h => h) (Or.inl ⟨by rfl, ?_⟩) hHeld ?_ ?_
  rotate_left
  · intro w' hS
    have h_ := ((below_step HB.out hS).cell (World.block_lt_of_cell? _ _ HX0.out)).trans HX0.out
    go_simp
    with_reducible rfl
  rotate_left
  · simp only [Act.put, List.setIfInBounds_toArray, List.set_cons_zero, List.set_cons_succ, i64_w, i32_w]
    rfl
  refine pure_ (i := 9) (N := some 32) (v := ?_) (a' := ?_) #[true, true, true, true, true, true, true, true, true, true, false, false, false, false, false] rfl rfl (any_of HT_.out (by kernel_rfl)) (fun _ _ _ h => h) (Or.inl ⟨by rfl, ?_⟩) ?_ ?_
  rotate_left
  · intro w'
    go_simp
    with_reducible rfl
  rotate_left
  · simp only [Act.put, List.setIfInBounds_toArray, List.set_cons_zero, List.set_cons_succ, i64_w, i32_w]
    rfl
  refine pure_ (i := 10) (N := some 33) (v := ?_) (a' := ?_) #[true, true, true, true, true, true, true, true, true, true, true, false, false, false, false] rfl rfl (any_of HT_.out (by kernel_rfl)) (fun _ _ _ h => h) (Or.inl ⟨by rfl, ?_⟩) ?_ ?_
  rotate_left
  · intro w'
    go_simp
    with_reducible rfl
  rotate_left
  · simp only [Act.put, List.setIfInBounds_toArray, List.set_cons_zero, List.set_cons_succ, i64_w, i32_w]
    rfl
  refine pure_ (i := 11) (N := some 34) (v := ?_) (a' := ?_) #[true, true, true, true, true, true, true, true, true, true, true, true, false, false, false] rfl rfl (any_of HT_.out (by kernel_rfl)) (fun _ _ _ h => h) (Or.inl ⟨by rfl, ?_⟩) ?_ ?_
  rotate_left
  · intro w'
    go_simp
    with_reducible rfl
  rotate_left
  · simp only [Act.put, List.setIfInBounds_toArray, List.set_cons_zero, List.set_cons_succ, i64_w, i32_w]
    rfl
  refine pure_ (i := 12) (N := some 35) (v := ?_) (a' := ?_) #[true, true, true, true, true, true, true, true, true, true, true, true, true, false, false] rfl rfl (any_of HT_.out (by kernel_rfl)) (fun _ _ _ h => h) (Or.inl ⟨by rfl, ?_⟩) ?_ ?_
  rotate_left
  · intro w'
    go_simp
    with_reducible rfl
  rotate_left
  · simp only [Act.put, List.setIfInBounds_toArray, List.set_cons_zero, List.set_cons_succ, i64_w, i32_w]
    rfl
  refine one_ (i := 13) (N := some 36) #[true, true, true, true, true, true, true, true, true, true, true, true, true, true, false] rfl rfl (one_of HT_.out (by kernel_rfl)) (by decide) (fun K hK => ?_)
  refine Kd.R_make_step (Kd.int .u8) (w0 := w3) w3.heap.size 5 (by rfl) (N := 36) rfl 23 _ _ rfl (sz : Int) ?hx1 ?hx2 Try.underlying23 (.int .u8 0) 1 hinfo_u8 rfl (by decide) (by decide) (0 : Int) (ok := fun _ => True) (okp := fun _ => True) ?hz0 (fun _ h => h) trivial (by omega) (by have := HSZ.out; omega) hHeld hHeld.size ?_
  case hx1 => first | rfl | (go_simp; done) | (go_simp; rfl)
  case hx2 => first | rfl | (go_simp; done) | (go_simp; rfl)
  case hz0 => rfl
  intro v4 w4 ho4 hb4 hg4 hat4
  have hS_ := hb4
  refine hK.out _ _ hS_ (fun hHeld => ?_)
  clear hK K
  refine norm_ (a' := ?_) ?_ ?_
  rotate_left
  · show Act.put _ (some 36) _ = _
    simp only [Act.put, List.setIfInBounds_toArray, List.set_cons_zero, List.set_cons_succ, i64_w, i32_w]
    rfl
  refine pure_ (i := 14) (N := some 4) (v := ?_) (a' := ?_) #[true, true, true, true, true, true, true, true, true, true, true, true, true, true, true] rfl rfl (any_of HT_.out (by kernel_rfl)) (fun _ _ _ h => h) (Or.inl ⟨by rfl, ?_⟩) ?_ ?_
  rotate_left
  · intro w'
    go_simp
    with_reducible rfl
  rotate_left
  · simp only [Act.put, List.setIfInBounds_toArray, List.set_cons_zero, List.set_cons_succ, i64_w, i32_w]
    rfl
  refine done_ (done_of HT_.out (by kernel_rfl)) ?_
  clear m1 m2 m3 m4 m5 m6
  rw [Int.toNat_natCast, ← leB_zero] at ho4
  obtain ⟨Ab, cb, rfl⟩ := Kd.R_slice ho4
  rw [leB_length]
  rw [leB_length] at ho4
  have HV := Aside0.mk ho4
  have HB4 := Aside0.mk hHeld
  clear ho4 hb4 hg4 hat4 hHeld
  have hx1c := ((below_step HB.out HB4.out).cell (World.block_lt_of_cell? _ _ HX1.out)).trans HX1.out
  go_wp2
  clear hx1c
  go_loopg [5, 7, 8, 42] l.length (fun kq v5 v7 v8 v42 w' => ∃ i : Nat, v42 = .int .i64 (i : Int) ∧ v5 = .int .i64 ((i * q : Nat) : Int) ∧ Aside0 (i ≤ l.length ∧ l.length - i ≤ kq) ∧ Aside0 (Kd.R (Kd.int .u8) 5 w' w3.heap.size (fun _ => True) (.slice Ab sz cb) (leB (packN q (l.take i)) sz)) ∧ Aside0 (Below w3.heap.size w3 w'))
  case atStart => exact ⟨0, rfl, by rw [Nat.zero_mul]; rfl, ⟨by omega, by omega⟩, ⟨HV.out⟩, ⟨HB4.out⟩⟩
  case round =>
    clear HV HB4
    obtain ⟨i, rfl, rfl, HI, HV, HB4⟩ := hrel
    have hx1c := ((below_step HB.out HB4.out).cell (World.block_lt_of_cell? _ _ HX1.out)).trans HX1.out
    have hx0c := ((below_step HB.out HB4.out).cell (World.block_lt_of_cell? _ _ HX0.out)).trans HX0.out
    by_cases k1 : i < l.length
    · have d1 : decide ((i : Int) < (l.length : Int)) = true := decide_eq_true (by omega)
      obtain ⟨ad, rfl, hcell⟩ := Kd.at_int HC.out (i : Int) (by omega) (by omega)
      rw [Int.toNat_natCast] at hcell
      have hcellr := ((below_step HB.out HB4.out).cell (World.block_lt_of_cell? _ _ hcell)).trans hcell
      have hxb := HBB.out _ (List.getElem_mem k1)
      have hrd := rd_at l i k1
      rw [hrd] at hcellr
      have hgd : l.getD i 0 = l[i] := by rw [List.getD_eq_getElem?_getD, List.getElem?_eq_getElem k1, Option.getD_some]
      obtain ⟨x, hx⟩ := Int.eq_ofNat_of_zero_le hxb.1
      rw [hx] at hcellr hxb hgd
      have HXN := Aside0.mk (show x < 18446744073709551616 by omega)
      have HGD := Aside0.mk hgd
      have HK1 := Aside0.mk k1
      have HI2 := Aside0.mk (show i ≤ 100000 by have := HN.out; omega)
      clear hcell hrd hxb hgd hx
      go_wp2
      obtain ⟨wo, hwo⟩ : ∃ wo, wo = wr := ⟨_, rfl⟩
      rw [← hwo]
      go_loopg [5, 8, 50] 65 (fun kq v5 v8 v50 w' => ∃ k : Nat, v50 = .int .i64 (k : Int) ∧ v5 = .int .i64 ((i * q + k : Nat) : Int) ∧ Aside0 (k ≤ q ∧ q - k ≤ kq) ∧ Aside0 (Kd.R (Kd.int .u8) 5 w' w3.heap.size (fun _ => True) (.slice Ab sz cb) (leB (partN q l i k) sz)) ∧ Aside0 (Below w3.heap.size w3 w'))
      case atStart => exact ⟨0, rfl, rfl, ⟨by omega, by have := HQ.out; omega⟩, ⟨by rw [partN_zero, hwo]; exact HV.out⟩, ⟨by rw [hwo]; exact HB4.out⟩⟩
      case round =>
        obtain ⟨k, rfl, rfl, HK, HV2, HB5⟩ := hrel
        by_cases k2 : k < q
        · have d2 : decide ((k : Int) < (q : Int)) = true := decide_eq_true (by omega)
          have hps := place_size HK1.out k2
          rw [HESZ.out] at hps
          have hq64 := HQ.out
          obtain ⟨gb, cb2, eb, hb1, hb2, hb3, hb4⟩ := Kd.R_form HV2.out (by rw [leB_length]; omega)
          rw [leB_length] at eb
          injection eb with eb1 eb2 eb3
          subst eb1
          clear eb2 eb3 hb1 hb2 hb3 hb4
          obtain ⟨p, hp⟩ : ∃ p : Int, p = ((i * q + k : Nat) : Int) := ⟨_, rfl⟩
          rw [← hp]
          have hp0 : 0 ≤ p := by omega
          have hpm : p < 6400008 := by have := HSZ.out; omega
          have hp8 : p < 8 * (sz : Int) := by omega
          obtain ⟨j, hj⟩ : ∃ j, Int.tdiv p 8 = j := ⟨_, rfl⟩
          obtain ⟨m, hm⟩ : ∃ m, Int.tmod p 8 = m := ⟨_, rfl⟩
          have hj0 : 0 ≤ j ∧ j < (sz : Int) ∧ 0 ≤ m ∧ m < 8 := by
            rw [← hj, ← hm, Int.tdiv_eq_ediv_of_nonneg hp0, Int.tmod_eq_emod_of_nonneg hp0]
            omega
          obtain ⟨q5, q6, q7, q8⟩ := hj0
          have hsh0 : (x : Int) / 2 ^ k = ((x / 2 ^ k : Nat) : Int) := by rw [Int.natCast_ediv, Int.natCast_pow]; rfl
          have hxl : x / 2 ^ k < 18446744073709551616 := Nat.lt_of_le_of_lt (Nat.div_le_self _ _) (by have := HXN.out; omega)
          obtain ⟨bt, hbt⟩ : ∃ bt : Nat, x / 2 ^ k % 2 = bt := ⟨_, rfl⟩
          obtain ⟨xs, hxs⟩ : ∃ xs : Nat, x / 2 ^ k = xs := ⟨_, rfl⟩
          rw [hxs] at hsh0 hxl
          have hb2 : bt < 2 := by rw [← hbt]; exact Nat.mod_lt _ (by decide)
          have hbit : Go.bits .and .u64 (xs : Int) 1 = (bt : Int) := by
            rw [← hbt, hxs]
            exact bit_u64 _ hxl
          obtain ⟨s8, hs8⟩ : ∃ s8 : Int, shl .u8 (bt : Int) m = s8 := ⟨_, rfl⟩
          have hset := pack_set HK1.out k2 hp hj hm (s8 := s8) (by rw [HGD.out, Int.toNat_natCast, hbt]; exact hs8)
          rw [HESZ.out] at hset
          obtain ⟨LB, eLB⟩ : ∃ LB, leB (partN q l i k) sz = LB := ⟨_, rfl⟩
          rw [eLB] at HV2 hset
          have hLBl : LB.length = sz := by rw [← eLB, leB_length]
          have HSET := Aside0.mk hset
          have HKK := Aside0.mk (And.intro k2 hq64)
          have HPP := Aside0.mk hp
          have hs8_ : (IntKind.u8.wrap ((bt : Int) * 2 ^ min m.toNat 8)) = s8 := hs8
          have hs8z : m ≤ 8 → (IntKind.u8.wrap ((bt : Int) * 2 ^ m.toNat)) = s8 := shl_small hs8
          have hsh2 : (x : Int) / 2 ^ min k 64 = (xs : Int) := by rw [Nat.min_eq_left (by omega)]; exact hsh0
          have hbw : IntKind.u8.wrap (bt : Int) = (bt : Int) := by rw [Go.IntKind.wrap_u8]; omega
          have hbw2 : (bt : Int) % 256 = (bt : Int) := by omega
          have j7' := eq_true q7
          have j7d : decide (0 ≤ m) = true := decide_eq_true q7
          have cj0 := eq_true q5
          have cj0d : decide (0 ≤ j) = true := decide_eq_true q5
          have cj1d : decide (j < (sz : Int)) = true := decide_eq_true q6
          have hjw : wrap64 j = j := w64 (by omega) (by have := HSZ.out; omega)
          have HJ := Aside0.mk (And.intro q5 q6)
          clear hset eLB hps hbt hxs hxl hp8 hp q5 q6 q7 q8
          go_wp2
          have HV1 := Aside0.mk (Kd.R_drew HV2.out)
          have HB1 := Aside0.mk (below_drew1 HB5.out)
          clear HV2 HB5
          have q5 : 0 ≤ j := HJ.out.1
          have q6 : j < (sz : Int) := HJ.out.2
          have GG := Aside0.mk (And.intro (Kd.R_base HV1.out gb rfl) (Kd.R_typed HV1.out gb rfl))
          obtain ⟨hx1_, hf1_⟩ := Kd.R_celln 0 HV1.out j q5 q6
          have q5' := eq_true q5
          have q6' := eq_true q6
          have HP2 := Aside0.mk (Kd.R_putn HV1.out j (Go.bits .or .u8 (rd LB j) s8))
          refine start_ (n := 16) (S := fun w' => w'.cell? ⟨gb, j.toNat, none⟩ = some (.int .u8 (rd LB j))) (ds := [15]) #[false, false, false, false, false, false, false, false, false, false, false, false, false, false, false, false] (by kernel_rfl) rfl rfl hx1_ (fun hHeld => ?_)
          refine with_tabW by.tab10 by.bits10 (fun HT_ HW_ => ?_)
          generalize wr.drew = w26 at HV1 HB1 GG HP2 hf1_ hx1_ hHeld ⊢
          refine pure_ (i := 0) (N := some 53) (v := ?_) (a' := ?_) #[true, false, false, false, false, false, false, false, false, false, false, false, false, false, false, false] rfl rfl (any_of HT_.out (by kernel_rfl)) (fun _ _ _ h => h) (Or.inl ⟨by rfl, ?_⟩) ?_ ?_
          rotate_left
          · intro w'
            go_simp
            with_reducible rfl
          rotate_left
          · simp only [Act.put, List.setIfInBounds_toArray, List.set_cons_zero, List.set_cons_succ, i64_w, i32_w]
            rfl
          refine pure_ (i := 1) (N := some 54) (v := ?_) (a' := ?_) #[true, true, false, false, false, false, false, false, false, false, false, false, false, false, false, false] rfl rfl (any_of HT_.out (by kernel_rfl)) (fun _ _ _ h => h) (Or.inl ⟨by rfl, ?_⟩) ?_ ?_
          rotate_left
          · intro w'
            go_simp
            with_reducible rfl
          rotate_left
          · simp only [Act.put, List.setIfInBounds_toArray, List.set_cons_zero, List.set_cons_succ, i64_w, i32_w]
            rfl
          refine pure_ (i := 2) (N := some 55) (v := ?_) (a' := ?_) #[true, true, true, false, false, false, false, false, false, false, false, false, false, false, false, false] rfl rfl (any_of HT_.out (by kernel_rfl)) (fun _ _ _ h => h) (Or.inl ⟨by rfl, ?_⟩) ?_ ?_
          rotate_left
          · intro w'
            go_simp
            with_reducible rfl
          rotate_left
          · simp only [Act.put, List.setIfInBounds_toArray, List.set_cons_zero, List.set_cons_succ, i64_w, i32_w]
            rfl
          refine pure_ (i := 3) (N := some 56) (v := ?_) (a' := ?_) #[true, true, true, true, false, false, false, false, false, false, false, false, false, false, false, false] rfl rfl (any_of HT_.out (by kernel_rfl)) (fun _ _ _ h => h) (Or.inl ⟨by rfl, ?_⟩) ?_ ?_
          rotate_left
          · intro w'
            go_simp
            with_reducible rfl
          rotate_left
          · simp only [Act.put, List.setIfInBounds_toArray, List.set_cons_zero, List.set_cons_succ, i64_w, i32_w]
            rfl
          refine take_ (i := 4) (N := some 57) (v := ?_) (a' := ?_) #[true, true, true, true, true, false, false, false, false, false, false, false, false, false, false, false] rfl rfl (take_ofW HT_.out HW_.out (by kernel_rfl)) (fun _ _ _ h => h) (Or.inl ⟨by rfl, ?_⟩) hHeld ?_ ?_
          rotate_left
          · intro w' s0
            go_simp
            with_reducible rfl
          rotate_left
          · simp only [Act.put, List.setIfInBounds_toArray, List.set_cons_zero, List.set_cons_succ, i64_w, i32_w]
            rfl
          refine pure_ (i := 5) (N := some 58) (v := ?_) (a' := ?_) #[true, true, true, true, true, true, false, false, false, false, false, false, false, false, false, false] rfl rfl (any_of HT_.out (by kernel_rfl)) (fun _ _ _ h => h) (Or.inl ⟨by rfl, ?_⟩) ?_ ?_
          rotate_left
          · intro w'
            go_simp
            with_reducible rfl
          rotate_left
          · simp only [Act.put, List.setIfInBounds_toArray, List.set_cons_zero, List.set_cons_succ, i64_w, i32_w]
            rfl
          refine pure_ (i := 6) (N := some 59) (v := ?_) (a' := ?_) #[true, true, true, true, true, true, true, false, false, false, false, false, false, false, false, false] rfl rfl (any_of HT_.out (by kernel_rfl)) (fun _ _ _ h => h) (Or.inl ⟨by rfl, ?_⟩) ?_ ?_
          rotate_left
          · intro w'
            go_simp
            with_reducible rfl
          rotate_left
          · simp only [Act.put, List.setIfInBounds_toArray, List.set_cons_zero, List.set_cons_succ, i64_w, i32_w]
            rfl
          refine pure_ (i := 7) (N := some 60) (v := ?_) (a' := ?_) #[true, true, true, true, true, true, true, true, false, false, false, false, false, false, false, false] rfl rfl (any_of HT_.out (by kernel_rfl)) (fun _ _ _ h => h) (Or.inl ⟨by rfl, ?_⟩) ?_ ?_
          rotate_left
          · intro w'
            go_simp
            with_reducible rfl
          rotate_left
          · simp only [Act.put, List.setIfInBounds_toArray, List.set_cons_zero, List.set_cons_succ, i64_w, i32_w]
            rfl
          refine pure_ (i := 8) (N := some 61) (v := ?_) (a' := ?_) #[true, true, true, true, true, true, true, true, true, false, false, false, false, false, false, false] rfl rfl (any_of HT_.out (by kernel_rfl)) (fun _ _ _ h => h) (Or.inl ⟨by rfl, ?_⟩) ?_ ?_
          rotate_left
          · intro w'
            go_simp
            with_reducible rfl
          rotate_left
          · simp only [Act.put, List.setIfInBounds_toArray, List.set_cons_zero, List.set_cons_succ, i64_w, i32_w]
            rfl
          refine pure_ (i := 9) (N := some 62) (v := ?_) (a' := ?_) #[true, true, true, true, true, true, true, true, true, true, false, false, false, false, false, false] rfl rfl (any_of HT_.out (by kernel_rfl)) (fun _ _ _ h => h) (Or.inl ⟨by rfl, ?_⟩) ?_ ?_
          rotate_left
          · intro w'
            go_simp
            with_reducible rfl
          rotate_left
          · simp only [Act.put, List.setIfInBounds_toArray, List.set_cons_zero, List.set_cons_succ, i64_w, i32_w]
            rfl
          refine pure_ (i := 10) (N := some 63) (v := ?_) (a' := ?_) #[true, true, true, true, true, true, true, true, true, true, true, false, false, false, false, false] rfl rfl (any_of HT_.out (by kernel_rfl)) (fun _ _ _ h => h) (Or.inl ⟨by rfl, ?_⟩) ?_ ?_
          rotate_left
          · intro w'
            go_simp
            with_reducible rfl
          rotate_left
          · simp only [Act.put, List.setIfInBounds_toArray, List.set_cons_zero, List.set_cons_succ, i64_w, i32_w]
            rfl
          refine pure_ (i := 11) (N := some 64) (v := ?_) (a' := ?_) #[true, true, true, true, true, true, true, true, true, true, true, true, false, false, false, false] rfl rfl (any_of HT_.out (by kernel_rfl)) (fun _ _ _ h => h) (Or.inl ⟨by rfl, ?_⟩) ?_ ?_
          rotate_left
          · intro w'
            go_simp
            with_reducible rfl
          rotate_left
          · simp only [Act.put, List.setIfInBounds_toArray, List.set_cons_zero, List.set_cons_succ, i64_w, i32_w]
            rfl
          refine pure_ (i := 12) (N := some 65) (v := ?_) (a' := ?_) #[true, true, true, true, true, true, true, true, true, true, true, true, true, false, false, false] rfl rfl (any_of HT_.out (by kernel_rfl)) (fun _ _ _ h => h) (Or.inl ⟨by rfl, ?_⟩) ?_ ?_
          rotate_left
          · intro w'
            go_simp
            with_reducible rfl
          rotate_left
          · simp only [Act.put, List.setIfInBounds_toArray, List.set_cons_zero, List.set_cons_succ, i64_w, i32_w]
            rfl
          refine pure_ (i := 13) (N := some 66) (v := ?_) (a' := ?_) #[true, true, true, true, true, true, true, true, true, true, true, true, true, true, false, false] rfl rfl (any_of HT_.out (by kernel_rfl)) (fun _ _ _ h => h) (Or.inl ⟨by rfl, ?_⟩) ?_ ?_
          rotate_left
          · intro w'
            go_simp
            with_reducible rfl
          rotate_left
          · simp only [Act.put, List.setIfInBounds_toArray, List.set_cons_zero, List.set_cons_succ, i64_w, i32_w]
            rfl
          refine pure_ (i := 14) (N := some 67) (v := ?_) (a' := ?_) #[true, true, true, true, true, true, true, true, true, true, true, true, true, true, true, false] rfl rfl (any_of HT_.out (by kernel_rfl)) (fun _ _ _ h => h) (Or.inl ⟨by rfl, ?_⟩) ?_ ?_
          rotate_left
          · intro w'
            go_simp
            with_reducible rfl
          rotate_left
          · simp only [Act.put, List.setIfInBounds_toArray, List.set_cons_zero, List.set_cons_succ, i64_w, i32_w]
            rfl
          refine last_ (i := 15) (N := none) #[true, true, true, true, true, true, true, true, true, true, true, true, true, true, true, true] rfl rfl (one_of HT_.out (by kernel_rfl)) (by decide) (fun K hK => ?_)
          refine skip_ (w1 := ?_) (by rfl) rfl ?_ ?_
          rotate_left
          · go_simp
            rfl
          refine hK.out _ _ ?_
          clear hK K
          refine done_ (done_of HT_.out (by kernel_rfl)) ?_
          go_wp2
          have HB9 := Aside0.mk (below_set (j := j.toNat) (v := .int .u8 (Go.bits .or .u8 (rd LB j) s8)) HB1.out GG.out.1)
          go_roundg (q - 1 - k)
          case measure => have := HK.out; have := HKK.out; omega
          case rel =>
            refine ⟨k + 1, by go_num, by have := HPP.out; go_num, ⟨by have := HKK.out; omega, by omega⟩, ⟨?_⟩, ⟨HB9.out⟩⟩
            rw [← HSET.out]
            exact HP2.out
        · have d2 : decide ((k : Int) < (q : Int)) = false := decide_eq_false (by omega)
          obtain rfl : k = q := by have := HK.out.1; omega
          have h_ := HI2.out
          go_wp2
          go_roundg (l.length - 1 - i)
          case measure => have := HI.out; have := HK1.out; omega
          case rel =>
            refine ⟨i + 1, by go_num, by rw [Nat.succ_mul], ⟨by have := HK1.out; omega, by omega⟩, ⟨?_⟩, ⟨HB5.out⟩⟩
            rw [← partN_full k l i HK1.out]
            exact HV2.out
    · have d1 : decide ((i : Int) < (l.length : Int)) = false := decide_eq_false (by omega)
      obtain rfl : i = l.length := by have := HI.out.1; omega
      rw [List.take_length] at HV
      have hrb := (Kd.R_reads' HV.out).2
      have hvb : vbytes q l = H2 ++ leB (packN q l) sz := by
        unfold vbytes
        rw [HHE.out, HESZ.out, HH2.out]
      have HESZ2 := Aside0.mk HSZ.out.2
      clear HV HESZ HNW HSZ HI
      obtain ⟨BL, eBL⟩ : ∃ BL, leB (packN q l) sz = BL := ⟨_, rfl⟩
      have hBl : BL.length = sz := by rw [← eBL, leB_length]
      rw [eBL] at hrb hvb
      clear eBL
      subst hBl
      have hcon : concatF [H2, BL] = some (vbytes q l) := by
        unfold concatF
        have e : [H2, BL].flatten = vbytes q l := by rw [hvb]; simp
        rw [e, if_pos ⟨by simp, by rw [hvb, List.length_append]; have := HH2L.out; have := HESZ2.out; omega⟩]
      have HCON := Aside0.mk hcon
      have HTW := Aside0.mk (two_rows (q := 5) (e := 23) HHR.out.1 (Kd.C_below HHR.out.2 HB4.out) hrb.1 hrb.2)
      have HB9 := Aside0.mk (below_alloc (below_step HB.out HB4.out) (.cells #[.slice A3 H2.length c3, .slice Ab BL.length cb] 23))
      clear hrb hvb hcon hx0c
      go_wp2_with (go_at_call 52; refine (concat_calls _ _ [H2, BL] _ _ HTW.out (by simp) HCON.out).mono ?_; rintro e w9 ⟨v9, rfl, ho, hb⟩; have HO := Aside0.mk (Kd.R_mono (Kd.R_lower ho HB9.out.size) (ok' := fun _ => True) (fun _ _ => trivial)); have HB10 := Aside0.mk (below_step HB9.out hb); clear ho hb)
      go_ret
      exact ⟨_, rfl, HO.out, HB10.out⟩
end Go.Proofs.Ytolncaccemfbdaa.V64

/- Printed by a program of this session (drv.py) from the translation of this seat: functions, their contracts, rows. -/
namespace Go.Proofs.Ytolncaccemfbdaa.PPk
open Go.RowKit Go.Proofs.YtolncaccemfbdaaW.PrintWords Go.Proofs.YtolncaccemfbdaaW.PrintLast Go.Proofs.YtolncaccemfbdaaW.PrintMore
attribute [local go_sem] max2_int min2_int max_two min_two max_three min_three max_four min_four   -- for this text's walks alone
set_option linter.unusedVariables false
set_option linter.unusedSimpArgs false

/-! ### packed_Width_uint16: function 15 -/
def packed_Width_uint16.l0 : Nat → Int → List Int → Int → Int → Option (Int)
  | 0, _, _, _, _ => none
  | k + 1, x3, x6, x7, x8 => if x8 < x7 then (if 0 ≤ x8 then (if x8 < (x6.length : Int) then ((bits_Len64.f (IntKind.u64.wrap (rd x6 x8))).bind fun t148 => (packed_Width_uint16.l0 k (mx x3 t148) x6 x7 (wrap64 (x8 + 1)))) else (none)) else (none)) else (some x3)
def packed_Width_uint16.f (k : Nat) (l0 : List Int) : Option (Int) := packed_Width_uint16.l0 k 0 l0 (l0.length : Int) 0
theorem packed_Width_uint16.mono_l : ∀ k, (∀ y0 y1 y2 y3, LeO (packed_Width_uint16.l0 k y0 y1 y2 y3) (packed_Width_uint16.l0 (k + 1) y0 y1 y2 y3))
  | 0 => fun _ _ _ _ r h => by simp [packed_Width_uint16.l0] at h
  | k + 1 => by
    have ih0 := packed_Width_uint16.mono_l k
    · intro y0 y1 y2 y3
      unfold packed_Width_uint16.l0
      repeat' first
      | (with_reducible exact ih0 _ _ _ _)
      | (with_reducible exact LeO.refl _)
      | (with_reducible exact LeO.none _)
      | (with_reducible refine LeO.ite ?_ ?_)
      | (with_reducible refine LeO.bind ?_ (fun _ => ?_))
      | exact ih0 _ _ _ _
      | exact LeO.none _
      | refine LeO.ite ?_ ?_
      | refine LeO.bind ?_ (fun _ => ?_)
theorem packed_Width_uint16.mono : ∀ a0 k, LeO (packed_Width_uint16.f k a0) (packed_Width_uint16.f (k + 1) a0) := by
  intro a0 k
  have ih0 := packed_Width_uint16.mono_l k
  unfold packed_Width_uint16.f
  repeat' first
      | (with_reducible exact ih0 _ _ _ _)
      | (with_reducible exact LeO.refl _)
      | (with_reducible exact LeO.none _)
      | (with_reducible refine LeO.ite ?_ ?_)
      | (with_reducible refine LeO.bind ?_ (fun _ => ?_))
      | exact ih0 _ _ _ _
      | exact LeO.none _
      | refine LeO.ite ?_ ?_
      | refine LeO.bind ?_ (fun _ => ?_)
set_option maxHeartbeats 8000000 in
set_option maxRecDepth 100000 in
theorem packed_Width_uint16.calls (k : Nat) (A0 : Option Addr) (c0 : Nat) (l0 : List Int) (r : Int) (w : World) (hr0 : Kd.C (Kd.int .u16) w A0 l0.length l0) (hc0 : l0.length ≤ c0) (h : packed_Width_uint16.f k l0 = some r) :
    Calls Try.prog 15 #[.slice A0 l0.length c0] w fun e w' => e = .returned (.int .i64 r) ∧ Below w.heap.size w w' := by
  have HR0 := Aside0.mk hr0
  have HC0 := Aside0.mk hc0
  clear hr0 hc0
  have HB := Aside0.mk (Below.refl w.heap.size w)
  have H : (packed_Width_uint16.l0 k 0 l0 (l0.length : Int) 0) = some r := h
  clear h
  have H' := Aside0.mk H
  clear H
  go_enter Try.func15, Try.ntmps15
  go_wp2
  go_loopg [3, 8] k (fun kq v3 v8 w' => ∃ (x3_1 : Int) (x8_1 : Int), v3 = .int .i64 x3_1 ∧ v8 = .int .i64 x8_1 ∧ Aside0 (packed_Width_uint16.l0 kq x3_1 l0 (l0.length : Int) x8_1 = some r) ∧ Aside0 (kq ≤ k) ∧ Aside0 (Below w.heap.size w w'))
  case atStart => exact ⟨(0), (0), (by first | rfl | (simp; done) | (simp [*]; done)), (by first | rfl | (simp; done) | (simp [*]; done)), H', ⟨Nat.le_refl _⟩, ⟨by repeat (first | (with_reducible first | exact HB.out | apply below_alloc | apply pw_below_drewN | apply below_drew1) | exact HB.out)⟩⟩
  case round =>
    clear H'
    try clear c1
    obtain ⟨x3_1, x8_1, rfl, rfl, HA, HK1, HB⟩ := hrel
    cases gk with
    | zero => exact absurd HA.out (by simp [packed_Width_uint16.l0])
    | succ k1 =>
      have H := HA.out
      clear HA
      simp only [packed_Width_uint16.l0] at H
      by_cases c2 : x8_1 < (l0.length : Int)
      · rw [if_pos c2] at H
        have c2b0 : decide (x8_1 < (l0.length : Int)) = true := decide_eq_true c2
        clear c2
        by_cases c3 : 0 ≤ x8_1
        · rw [if_pos c3] at H
          have c3b0 : decide (0 ≤ x8_1) = true := decide_eq_true c3
          clear c3
          by_cases c4 : x8_1 < (l0.length : Int)
          · rw [if_pos c4] at H
            have c4b0 : decide (x8_1 < (l0.length : Int)) = true := decide_eq_true c4
            clear c4
            replace H := Option.bind_eq_some_iff.mp H
            obtain ⟨t148, A50, H⟩ := H
            replace H : (packed_Width_uint16.l0 k1 (mx x3_1 t148) l0 (l0.length : Int) (wrap64 (x8_1 + 1))) = some r := H
            have A5 := Aside0.mk A50
            clear A50
            obtain ⟨ji6, hji6⟩ : ∃ j_ : Int, (mx x3_1 t148) = j_ := ⟨_, rfl⟩
            replace H : (packed_Width_uint16.l0 k1 ji6 l0 (l0.length : Int) (wrap64 (x8_1 + 1))) = some r := by first | (rw [hji6] at H; exact H) | (simp only [hji6] at H ⊢; exact H)
            (try rw [hji6] at A5)
            have hji6_ : (if x3_1 < t148 then t148 else x3_1) = ji6 := hji6
            have H' := Aside0.mk H
            clear H
            have p147 : 0 ≤ (x8_1 : Int) := of_decide_eq_true (by first | (with_reducible assumption) | assumption)
            have q147 : x8_1 < (l0.length : Int) := of_decide_eq_true (by first | (with_reducible assumption) | assumption)
            obtain ⟨ad147, e147, hx147_0⟩ := Kd.at_int HR0.out x8_1 p147 q147
            cases e147
            replace hx147_0 := (HB.out.cell (World.block_lt_of_cell? w _ hx147_0)).trans hx147_0
            replace p147 := eq_true p147
            replace q147 := eq_true q147
            go_wp2_with (first | ((with_reducible refine gate_callee (f := 47) rfl ?_); refine goesL_ (some 15) rfl rfl Try.func47 (by kernel_rfl) rfl #[.int .u64 (IntKind.u64.wrap (rd l0 x8_1))] rfl (by (try simp only [List.map_toArray, List.map_cons, List.map_nil]); first | done | rfl | (simp only [List.length_drop, List.length_take]; rfl)) ?_; (with_reducible refine (bits_Len64.calls (IntKind.u64.wrap (rd l0 x8_1)) t148 _ A5.out).mono ?_); rintro e w' ⟨rfl, ⟨nd, rfl⟩⟩; refine ⟨_, rfl, ?_⟩))
            go_roundg k1
            case measure => have := HK1.out; omega
            case rel => exact ⟨(ji6), (wrap64 (x8_1 + 1)), (by first | rfl | (simp; done) | (simp only [← hji6] <;> (first | rfl | simp)) | (simp [*]; done)), (by first | rfl | (simp; done) | (simp [*]; done)), H', ⟨by have := HK1.out; omega⟩, ⟨by repeat (first | (with_reducible first | exact HB.out | apply below_alloc | apply pw_below_drewN | apply below_drew1) | exact HB.out)⟩⟩
          · rw [if_neg c4] at H
            exact absurd H (by simp)
        · rw [if_neg c3] at H
          exact absurd H (by simp)
      · rw [if_neg c2] at H
        have c2b0 : decide (x8_1 < (l0.length : Int)) = false := decide_eq_false c2
        clear c2
        obtain rfl := Option.some.inj H
        go_wp2
        go_ret
        exact ⟨by first | rfl | (simp [errW_none, errW_some] <;> rfl) | (simp [*, errW_none, errW_some] <;> rfl), by repeat (first | (with_reducible first | exact HB.out | apply below_alloc | apply pw_below_drewN | apply below_drew1) | exact HB.out)⟩

end Go.Proofs.Ytolncaccemfbdaa.PPk

/- Packed numbers of the type uint16: what Width, New, Get, Len tell. -/
namespace Go.Proofs.Ytolncaccemfbdaa.V16
open Go.RowKit Go.Proofs.YtolncaccemfbdaaW.PrintWords Go.Proofs.YtolncaccemfbdaaW.PrintLast Go.Proofs.YtolncaccemfbdaaW.PrintMore
open Go.Proofs.Ytolncaccemfbdaa.Plain Go.Proofs.Ytolncaccemfbdaa.PPk Go.Proofs.Ytolncaccemfbdaa.Hand
set_option linter.unusedVariables false
set_option linter.unusedSimpArgs false
theorem width_go (l : List Int) (hb : ∀ x ∈ l, 0 ≤ x ∧ x < 65536) (hl : l.length ≤ 1000000) : ∀ (d k i : Nat), l.length - i = d → d < k → i ≤ l.length → packed_Width_uint16.l0 k (widthL (l.take i) : Int) l (l.length : Int) (i : Int) = some (widthL l : Int) := by
  intro d
  induction d with
  | zero =>
    intro k i hd hk hi
    obtain ⟨k, rfl⟩ : ∃ m, k = m + 1 := ⟨k - 1, by omega⟩
    rw [packed_Width_uint16.l0, if_neg (by omega), show i = l.length from by omega, List.take_length]
  | succ d ih =>
    intro k i hd hk hi
    obtain ⟨k, rfl⟩ : ∃ m, k = m + 1 := ⟨k - 1, by omega⟩
    have hlt : i < l.length := by omega
    have hx := hb _ (List.getElem_mem hlt)
    have hf : bits_Len64.f (IntKind.u64.wrap (rd l (i : Int))) = some (Lib.bitLen (l[i]).toNat : Int) := by
      rw [rd_at l i hlt]
      rw [wrap_u64, Int.emod_eq_of_lt hx.1 (by omega)]
      unfold bits_Len64.f len64F
      rw [if_pos (by omega)]
    rw [packed_Width_uint16.l0, if_pos (by omega), if_pos (by omega), if_pos (by omega), hf, Option.bind_some, mx_cast, w64 (by omega) (by omega)]
    have e : max (widthL (l.take i)) (Lib.bitLen (l[i]).toNat) = widthL (l.take (i + 1)) := by
      rw [List.take_succ_eq_append_getElem hlt, widthL_snoc]
    rw [e, show (i : Int) + 1 = ((i + 1 : Nat) : Int) from by omega]
    exact ih k (i + 1) (by omega) (by omega) (by omega)
theorem width_f (l : List Int) (hb : ∀ x ∈ l, 0 ≤ x ∧ x < 65536) (hl : l.length ≤ 1000000) : packed_Width_uint16.f (l.length + 1) l = some (widthL l : Int) := by
  have := width_go l hb hl l.length (l.length + 1) 0 (by omega) (by omega) (by omega)
  rw [List.take_zero, show (widthL [] : Int) = 0 from rfl] at this
  exact this

theorem hinfo : (Try.prog.info? 40).map (fun i => (i.zero, i.size, i.bytes)) = some (some (.int .u16 0), 1, 2) := by kernel_rfl
set_option maxHeartbeats 800000 in
set_option maxRecDepth 100000 in
theorem clone_calls (A0 : Option Addr) (c0 : Nat) (l0 : List Int) (w : World) (hr0 : Kd.C (Kd.int .u16) w A0 l0.length l0) (hl : l0.length ≤ 1000000) :
    Calls Try.prog 49 #[.slice A0 l0.length c0] w fun e w' => ∃ v0_ : Value, e = .returned v0_ ∧ Kd.R (Kd.int .u16) 40 w' w.heap.size (fun _ => True) v0_ l0 ∧ Below w.heap.size w w' := by
  cases A0 with
  | none =>
    have h0 := C_none hr0
    obtain rfl : l0 = [] := List.eq_nil_of_length_eq_zero h0
    clear h0
    have hnil := fun W => Lib.run_eql_slice_nil (P := Try.prog) W 38 40 none 0 c0 0 0 Try.underlying38
    go_enter Try.func49, Try.ntmps49
    go_wp2
    go_ret
    exact ⟨_, rfl, Kd.R_nil _ _ _ _ _, Below.refl _ _⟩
  | some ad =>
    have hnil := fun W => Lib.run_eql_slice_nil (P := Try.prog) W 38 40 (some ad) l0.length c0 0 0 Try.underlying38
    have HR0 := Aside0.mk hr0
    have HL := Aside0.mk hl
    have HB := Aside0.mk (Below.refl w.heap.size w)
    clear hr0 hl
    go_enter Try.func49, Try.ntmps49
    go_wp2_with (first | ((with_reducible refine gate_dst (N := 5) rfl ?_); refine Kd.R_lit (Kd.int .u16) _ 40 ?hg (N := 5) ?hd (xs := ([] : List Int)) (inner := []) (ok := fun _ => True) (okp := fun _ => True) ?hr ?hp (fun _ hk => hk) trivial (Below.refl _ _) (Nat.le_refl _) (by simp) ?_; (case hd => rfl); (case hg => rfl); (case hr => first | (go_simp; done) | (go_simp; rfl)); (case hp => exact Reps.none _ _); intro v1 w1 ho hb hg_ hnew_; clear hg_ hnew_; have HO := Aside0.mk ho; clear HB; have HB := Aside0.mk hb; clear ho hb) | ((with_reducible refine gate_builtin (b := .append) (xs := #[.tmp 5, .tmp 6]) rfl ?_); at_builtin; refine Kd.R_append_rows (Kd.int .u16) (w0 := w) w.heap.size rfl (.tmp 5) (.tmp 6) 38 40 (.int .u16 0) 2 rfl Try.underlying38 hinfo rfl (by decide) (by omega) v1 [] l0 _ _ _ (fun _ => True) (fun _ => False) rfl rfl ?aO ?aR (fun _ _ h => h) (fun _ h => h.elim) ?aF ?aB ?aS ?aL ?_; (case aR => exact (Kd.C_below HR0.out HB.out)); (case aB => exact HB.out); (case aF => exact (fun _ _ => trivial)); (case aO => exact HO.out); (case aS => exact (below_size HB.out)); (case aL => have := HL.out; simp only [List.length_nil]; omega); intro v2 w2 ho hb hg hat; clear HB HO; have HO := Aside0.mk ho; have HB := Aside0.mk hb; clear ho hb hg hat))
    go_ret
    exact ⟨_, rfl, HO.out, HB.out⟩
set_option maxHeartbeats 800000 in
set_option maxRecDepth 100000 in
theorem new_bad (a0 : Int) (A1 : Option Addr) (c1 : Nat) (l1 : List Int) (w : World) (hr1 : Kd.C (Kd.int .u16) w A1 l1.length l1) (hc1 : l1.length ≤ c1) (hb : ∀ x ∈ l1, 0 ≤ x ∧ x < 65536) (hl : l1.length ≤ 1000000) (r : Int) (h : newE a0 l1 = r) (h0 : r ≠ 0) :
    Calls Try.prog 16 #[.int .i64 a0, .slice A1 l1.length c1] w fun e w' => e = .returned (.tuple #[.pointer none, .int .i64 r]) ∧ Below w.heap.size w w' := by
  have HWF := Aside0.mk (width_f l1 hb hl)
  have HR1 := Aside0.mk hr1
  have HB := Aside0.mk (Below.refl w.heap.size w)
  clear hr1 hb hl
  unfold newE at h
  obtain ⟨m, em⟩ : ∃ m, widthL l1 = m := ⟨_, rfl⟩
  rw [em] at HWF h
  by_cases k1 : a0 < 0
  · have d1 : decide (a0 < 0) = true := decide_eq_true k1
    rw [if_pos (.inl k1)] at h
    subst h
    clear h0 em
    go_enter Try.func16, Try.ntmps16
    go_wp2
    refine bodyPost_ret (results_list (rs := [.tmp 4, .tmp 5]) rfl (by simp) (.tmp (.tmp .nil))) rfl ?_
    exact ⟨rfl, HB.out⟩
  have d1 : decide (a0 < 0) = false := decide_eq_false k1
  by_cases k2 : 64 < a0
  · have d2 : decide (64 < a0) = true := decide_eq_true k2
    rw [if_pos (.inr (.inl k2))] at h
    subst h
    clear h0 em
    go_enter Try.func16, Try.ntmps16
    go_wp2
    refine bodyPost_ret (results_list (rs := [.tmp 4, .tmp 5]) rfl (by simp) (.tmp (.tmp .nil))) rfl ?_
    exact ⟨rfl, HB.out⟩
  have d2 : decide (64 < a0) = false := decide_eq_false k2
  by_cases k3 : a0 < (m : Int)
  · have d3 : decide (a0 < (m : Int)) = true := decide_eq_true k3
    rw [if_pos (.inr (.inr k3))] at h
    subst h
    clear h0 em
    go_enter Try.func16, Try.ntmps16
    go_wp2_with (first | (go_at_call 15; refine (packed_Width_uint16.calls _ _ _ _ _ _ (Kd.C_below HR1.out HB.out) hc1 HWF.out).mono ?_; rintro e w1 ⟨rfl, hb⟩; have n1_ := Aside0.mk (below_step HB.out hb); clear HB hb; have HB := n1_; clear n1_))
    refine bodyPost_ret (results_list (rs := [.tmp 4, .tmp 5]) rfl (by simp) (.tmp (.tmp .nil))) rfl ?_
    exact ⟨rfl, HB.out⟩
  have d3 : decide (a0 < (m : Int)) = false := decide_eq_false k3
  by_cases k4 : 100000 < l1.length
  · have d4 : decide (100000 < (l1.length : Int)) = true := decide_eq_true (by omega)
    rw [if_neg (by omega), if_pos k4] at h
    subst h
    clear h0 em
    go_enter Try.func16, Try.ntmps16
    go_wp2_with (first | (go_at_call 15; refine (packed_Width_uint16.calls _ _ _ _ _ _ (Kd.C_below HR1.out HB.out) hc1 HWF.out).mono ?_; rintro e w1 ⟨rfl, hb⟩; have n1_ := Aside0.mk (below_step HB.out hb); clear HB hb; have HB := n1_; clear n1_))
    refine bodyPost_ret (results_list (rs := [.tmp 4, .tmp 5]) rfl (by simp) (.tmp (.tmp .nil))) rfl ?_
    exact ⟨rfl, HB.out⟩
  · rw [if_neg (by omega), if_neg k4] at h
    exact absurd h.symm h0
set_option maxHeartbeats 800000 in
set_option maxRecDepth 100000 in
theorem new_good (a0 : Int) (A1 : Option Addr) (c1 : Nat) (l1 : List Int) (w : World) (hr1 : Kd.C (Kd.int .u16) w A1 l1.length l1) (hc1 : l1.length ≤ c1) (hb : ∀ x ∈ l1, 0 ≤ x ∧ x < 65536) (hl : l1.length ≤ 1000000) (h : newE a0 l1 = 0) :
    Calls Try.prog 16 #[.int .i64 a0, .slice A1 l1.length c1] w fun e w' => ∃ g, e = .returned (.tuple #[.pointer (some ⟨g, 0, none⟩), .int .i64 0]) ∧ w.heap.size ≤ g ∧ VecAt .u16 86 w' g a0 l1 ∧ Below w.heap.size w w' := by
  have HWF := Aside0.mk (width_f l1 hb hl)
  have HR1 := Aside0.mk hr1
  have HL := Aside0.mk hl
  have HB := Aside0.mk (Below.refl w.heap.size w)
  clear hr1 hb hl
  obtain ⟨k1, k2, k3, k4⟩ := newE_ok h
  obtain ⟨m, em⟩ : ∃ m, widthL l1 = m := ⟨_, rfl⟩
  rw [em] at HWF k3
  have d1 : decide (a0 < 0) = false := decide_eq_false (by omega)
  have d2 : decide (64 < a0) = false := decide_eq_false (by omega)
  have d3 : decide (a0 < (m : Int)) = false := decide_eq_false (by omega)
  have d4 : decide (100000 < (l1.length : Int)) = false := decide_eq_false (by omega)
  clear em h
  go_enter Try.func16, Try.ntmps16
  go_wp2_with (first | (go_at_call 15; refine (packed_Width_uint16.calls _ _ _ _ _ _ (Kd.C_below HR1.out HB.out) hc1 HWF.out).mono ?_; rintro e w1 ⟨rfl, hb⟩; have n1_ := Aside0.mk (below_step HB.out hb); clear HB hb; have HB := n1_; clear n1_) | (go_at_call 49; refine (clone_calls _ _ l1 _ (Kd.C_below HR1.out HB.out) HL.out).mono ?_; rintro e w2 ⟨v2, rfl, ho, hb⟩; obtain ⟨A2, c2, rfl⟩ := Kd.R_slice ho; have HO := Aside0.mk (Kd.R_reads' ho).2; have n1_ := Aside0.mk (below_step HB.out hb); clear HB hb ho; have HB := n1_; clear n1_))
  refine bodyPost_ret (results_list (rs := [.tmp 4, .tmp 5]) rfl (by simp) (.tmp (.tmp .nil))) rfl ?_
  refine ⟨w2.heap.size, rfl, HB.out.size, ⟨A2, c2, blk_new _ _, HO.out.1, Kd.C_alloc HO.out.2 _⟩, below_alloc HB.out _⟩
set_option maxHeartbeats 800000 in
set_option maxRecDepth 100000 in
theorem get_calls (g : Nat) (a0 : Int) (l : List Int) (i : Int) (w : World) (h : VecAt .u16 86 w g a0 l) :
    Calls Try.prog 30 #[.pointer (some ⟨g, 0, none⟩), .int .i64 i] w fun e w' => e = .returned (.int .u16 (if 0 ≤ i ∧ i < l.length then rd l i else 0)) ∧ w' = w := by
  obtain ⟨A, c, hb, hle, hC⟩ := h
  have hx1 := blk_cell hb 1
  by_cases k1 : i < 0
  · have d1 : decide (i < 0) = true := decide_eq_true k1
    rw [if_neg (by omega)]
    clear hC hb
    go_enter Try.func30, Try.ntmps30
    go_wp2
    go_ret
    exact ⟨rfl, rfl⟩
  have d1 : decide (i < 0) = false := decide_eq_false k1
  by_cases k2 : (l.length : Int) ≤ i
  · have d2 : decide ((l.length : Int) ≤ i) = true := decide_eq_true k2
    rw [if_neg (by omega)]
    clear hC hb
    go_enter Try.func30, Try.ntmps30
    go_wp2
    go_ret
    exact ⟨rfl, rfl⟩
  have d2 : decide ((l.length : Int) ≤ i) = false := decide_eq_false k2
  rw [if_pos (by omega)]
  obtain ⟨ad, rfl, hc⟩ := Kd.at_int hC i (by omega) (by omega)
  have k3 : 0 ≤ i := by omega
  have k4 : i < (l.length : Int) := by omega
  clear hC hb k1 k2
  go_enter Try.func30, Try.ntmps30
  go_wp2
  go_ret
  exact ⟨rfl, rfl⟩

set_option maxHeartbeats 800000 in
set_option maxRecDepth 100000 in
theorem len_calls (g : Nat) (a0 : Int) (l : List Int) (w : World) (h : VecAt .u16 86 w g a0 l) :
    Calls Try.prog 28 #[.pointer (some ⟨g, 0, none⟩)] w fun e w' => e = .returned (.int .i64 (l.length : Int)) ∧ w' = w := by
  obtain ⟨A, c, hb, hle, hC⟩ := h
  have hx1 := blk_cell hb 1
  clear hC hb
  go_enter Try.func28, Try.ntmps28
  go_wp2
  go_ret
  exact ⟨rfl, rfl⟩
set_option maxHeartbeats 800000 in
set_option maxRecDepth 100000 in
theorem wid_calls (g : Nat) (a0 : Int) (l : List Int) (w : World) (h : VecAt .u16 86 w g a0 l) :
    Calls Try.prog 57 #[.pointer (some ⟨g, 0, none⟩)] w fun e w' => e = .returned (.int .i64 a0) ∧ w' = w := by
  obtain ⟨A, c, hb, hle, hC⟩ := h
  have hx0 := blk_cell hb 0
  clear hC hb
  go_enter Try.func57, Try.ntmps57
  go_wp2
  go_ret
  exact ⟨rfl, rfl⟩
end Go.Proofs.Ytolncaccemfbdaa.V16

/- Packed numbers of the type uint16 as bytes: what Bytes tells. -/
namespace Go.Proofs.Ytolncaccemfbdaa.V16
open Go.RowKit Go.Proofs.YtolncaccemfbdaaW.PrintWords Go.Proofs.YtolncaccemfbdaaW.PrintLast Go.Proofs.YtolncaccemfbdaaW.PrintMore
open Go.Proofs.Ytolncaccemfbdaa.Plain Go.Proofs.Ytolncaccemfbdaa.PPk Go.Proofs.Ytolncaccemfbdaa.Hand
attribute [local go_sem] max2_int min2_int max_two min_two
set_option linter.unusedVariables false
set_option linter.unusedSimpArgs false
def by.T1 : Bool × List (List Nat × List Nat) := (true, [([], []), ([0], [0]), ([1], [1]), ([2], [2]), ([3], [3]), ([4], [4]), ([5], [5]), ([], []), ([7], [7]), ([8], [8]), ([9], [9]), ([10], [10]), ([11], [11]), ([6, 12, 6], [6, 12]), ([13, 13, 0, 1, 2, 3, 4, 5, 6, 7, 8, 9, 10, 11, 12, 13], [13])])
def by.B1 : List Nat := [0, 1, 3, 7, 15, 31, 63, 0, 128, 384, 896, 1920, 3968, 8191, 16383]
theorem by.tab1 : rtab .any (opsOf Try.f19 1) = by.T1 := by kernel_rfl
theorem by.bits1 : waitsOk by.T1.2 by.B1 = true := by kernel_rfl
def by.T2 : Bool × List (List Nat × List Nat) := (true, [([], []), ([0], [0]), ([1], [1]), ([2], [2]), ([3], [3]), ([], []), ([5], [5]), ([6], [6]), ([7], [7]), ([4, 8], [4, 8]), ([9], [9]), ([10], [10]), ([11], [11]), ([12, 12], [12]), ([13, 0, 1, 2, 3, 4, 5, 6, 7, 8, 9, 10, 11, 12, 13], [13])])
def by.B2 : List Nat := [0, 1, 3, 7, 15, 0, 32, 96, 224, 511, 1023, 2047, 4095, 8191, 16383]
theorem by.tab2 : rtab .any (opsOf Try.f19 2) = by.T2 := by kernel_rfl
theorem by.bits2 : waitsOk by.T2.2 by.B2 = true := by kernel_rfl
def by.T10 : Bool × List (List Nat × List Nat) := (true, [([], []), ([], []), ([1], [1]), ([0, 2], [0, 2]), ([3], [3]), ([], []), ([5], [5]), ([], []), ([6, 7], [6, 7]), ([8], [8]), ([9], [9]), ([], []), ([11], [11]), ([10, 12], [10, 12]), ([4, 13], [4, 13]), ([0, 2, 0, 1, 2, 3, 4, 5, 6, 7, 8, 9, 10, 11, 12, 13, 14], [0, 2]), ([15, 14, 0, 1, 2, 3, 4, 5, 6, 7, 8, 9, 10, 11, 12, 13, 14], [14, 15])])
def by.B10 : List Nat := [0, 0, 2, 7, 15, 0, 32, 0, 224, 480, 992, 0, 2048, 8160, 16383, 32767, 65535]
theorem by.tab10 : rtab .any (opsOf Try.f19 10) = by.T10 := by kernel_rfl
theorem by.bits10 : waitsOk by.T10.2 by.B10 = true := by kernel_rfl
set_option maxHeartbeats 8000000 in
set_option maxRecDepth 100000 in
theorem bytes_calls (g q : Nat) (l : List Int) (w : World) (h : VecAt .u16 86 w g (q : Int) l) (hq : q ≤ 64) (hn : l.length ≤ 100000) (hb : ∀ x ∈ l, 0 ≤ x ∧ x < 65536) :
    Calls Try.prog 19 #[.pointer (some ⟨g, 0, none⟩)] w fun e w' => ∃ v0_ : Value, e = .returned v0_ ∧ Kd.R (Kd.int .u8) 5 w' w.heap.size (fun _ => True) v0_ (vbytes q l) ∧ Below w.heap.size w w' := by
  obtain ⟨A, c, hblk, hle, hC⟩ := h
  have hx0 := blk_cell hblk 0
  have hx1 := blk_cell hblk 1
  have hx0' : w.cell? ⟨g, 0, none⟩ = some (.int .i64 (q : Int)) := hx0
  have hx1' : w.cell? ⟨g, 1, none⟩ = some (.slice A l.length c) := hx1
  have HX0 := Aside0.mk hx0'
  have HX1 := Aside0.mk hx1'
  have HC := Aside0.mk hC
  have HN := Aside0.mk hn
  have HQ := Aside0.mk hq
  have HBB := Aside0.mk hb
  have hen := encN_len64 (n := l.length) (by omega)
  have hep := encN_pos l.length
  have hput : putF [] (l.length : Int) = some (encN l.length) := by
    unfold putF
    rw [if_pos ⟨by simp, by omega, by omega⟩, List.nil_append, Int.toNat_natCast]
  have HPUT := Aside0.mk hput
  have hu1 : IntKind.u64.wrap (l.length : Int) = (l.length : Int) := by rw [wrap_u64]; omega
  have hu2 : IntKind.u8.wrap (q : Int) = (q : Int) := by rw [Go.IntKind.wrap_u8]; omega
  have hu3 : (q : Int) % 256 = (q : Int) := by omega
  have hu4 : (l.length : Int) % 18446744073709551616 = (l.length : Int) := by omega
  obtain ⟨H, eH⟩ : ∃ H, encN l.length = H := ⟨_, rfl⟩
  rw [eH] at hen hep HPUT
  have HHE := Aside0.mk eH
  have HHL := Aside0.mk (And.intro hen hep)
  obtain ⟨H2, eH2⟩ : ∃ H2, H ++ [(q : Int)] = H2 := ⟨_, rfl⟩
  have HH2 := Aside0.mk eH2
  have HH2L := Aside0.mk (show H2.length ≤ 11 by rw [← eH2, List.length_append]; simp only [List.length_singleton]; omega)
  clear eH2
  clear hx0 hx1 hx0' hx1' hblk hC hb hn hq hen hep hput eH
  go_enter Try.func19, Try.ntmps19
  go_wp2
  refine start_ (n := 15) (S := fun w' => Below w.heap.size w w') (ds := []) #[false, false, false, false, false, false, false, false, false, false, false, false, false, false, false] (by kernel_rfl) rfl rfl (below_drew1 (Below.refl _ _)) (fun hHeld => ?_)
  refine with_tabW by.tab1 by.bits1 (fun HT_ HW_ => ?_)
  refine pure_ (i := 0) (N := some 9) (v := ?_) (a' := ?_) #[true, false, false, false, false, false, false, false, false, false, false, false, false, false, false] rfl rfl (any_of HT_.out (by kernel_rfl)) (fun _ _ _ h => h) (Or.inl ⟨by rfl, ?_⟩) ?_ ?_
  rotate_left
  · intro w'
    go_simp
    with_reducible rfl
  rotate_left
  · simp only [Act.put, List.setIfInBounds_toArray, List.set_cons_zero, List.set_cons_succ, i64_w, i32_w]
    rfl
  refine pure_ (i := 1) (N := some 10) (v := ?_) (a' := ?_) #[true, true, false, false, false, false, false, false, false, false, false, false, false, false, false] rfl rfl (any_of HT_.out (by kernel_rfl)) (fun _ _ _ h => h) (Or.inl ⟨by rfl, ?_⟩) ?_ ?_
  rotate_left
  · intro w'
    go_simp
    with_reducible rfl
  rotate_left
  · simp only [Act.put, List.setIfInBounds_toArray, List.set_cons_zero, List.set_cons_succ, i64_w, i32_w]
    rfl
  refine pure_ (i := 2) (N := some 11) (v := ?_) (a' := ?_) #[true, true, true, false, false, false, false, false, false, false, false, false, false, false, false] rfl rfl (any_of HT_.out (by kernel_rfl)) (fun _ _ _ h => h) (Or.inl ⟨by rfl, ?_⟩) ?_ ?_
  rotate_left
  · intro w'
    go_simp
    with_reducible rfl
  rotate_left
  · simp only [Act.put, List.setIfInBounds_toArray, List.set_cons_zero, List.set_cons_succ, i64_w, i32_w]
    rfl
  refine take_ (i := 3) (N := some 12) (v := ?_) (a' := ?_) #[true, true, true, true, false, false, false, false, false, false, false, false, false, false, false] rfl rfl (take_ofW HT_.out HW_.out (by kernel_rfl)) (fun _ _ _ h => h) (Or.inl ⟨by rfl, ?_⟩) hHeld ?_ ?_
  rotate_left
  · intro w' hS
    have h_ := (hS.cell (World.block_lt_of_cell? _ _ HX1.out)).trans HX1.out
    go_simp
    with_reducible rfl
  rotate_left
  · simp only [Act.put, List.setIfInBounds_toArray, List.set_cons_zero, List.set_cons_succ, i64_w, i32_w]
    rfl
  refine pure_ (i := 4) (N := some 13) (v := ?_) (a' := ?_) #[true, true, true, true, true, false, false, false, false, false, false, false, false, false, false] rfl rfl (any_of HT_.out (by kernel_rfl)) (fun _ _ _ h => h) (Or.inl ⟨by rfl, ?_⟩) ?_ ?_
  rotate_left
  · intro w'
    go_simp
    with_reducible rfl
  rotate_left
  · simp only [Act.put, List.setIfInBounds_toArray, List.set_cons_zero, List.set_cons_succ, i64_w, i32_w]
    rfl
  refine pure_ (i := 5) (N := some 14) (v := ?_) (a' := ?_) #[true, true, true, true, true, true, false, false, false, false, false, false, false, false, false] rfl rfl (any_of HT_.out (by kernel_rfl)) (fun _ _ _ h => h) (Or.inl ⟨by rfl, ?_⟩) ?_ ?_
  rotate_left
  · intro w'
    go_simp
    with_reducible rfl
  rotate_left
  · simp only [Act.put, List.setIfInBounds_toArray, List.set_cons_zero, List.set_cons_succ, i64_w, i32_w]
    rfl
  refine pure_ (i := 7) (N := some 16) (v := ?_) (a' := ?_) #[true, true, true, true, true, true, false, true, false, false, false, false, false, false, false] rfl rfl (any_of HT_.out (by kernel_rfl)) (fun _ _ _ h => h) (Or.inl ⟨by rfl, ?_⟩) ?_ ?_
  rotate_left
  · intro w'
    go_simp
    with_reducible rfl
  rotate_left
  · simp only [Act.put, List.setIfInBounds_toArray, List.set_cons_zero, List.set_cons_succ, i64_w, i32_w]
    rfl
  refine pure_ (i := 8) (N := some 17) (v := ?_) (a' := ?_) #[true, true, true, true, true, true, false, true, true, false, false, false, false, false, false] rfl rfl (any_of HT_.out (by kernel_rfl)) (fun _ _ _ h => h) (Or.inl ⟨by rfl, ?_⟩) ?_ ?_
  rotate_left
  · intro w'
    go_simp
    with_reducible rfl
  rotate_left
  · simp only [Act.put, List.setIfInBounds_toArray, List.set_cons_zero, List.set_cons_succ, i64_w, i32_w]
    rfl
  refine pure_ (i := 9) (N := some 18) (v := ?_) (a' := ?_) #[true, true, true, true, true, true, false, true, true, true, false, false, false, false, false] rfl rfl (any_of HT_.out (by kernel_rfl)) (fun _ _ _ h => h) (Or.inl ⟨by rfl, ?_⟩) ?_ ?_
  rotate_left
  · intro w'
    go_simp
    with_reducible rfl
  rotate_left
  · simp only [Act.put, List.setIfInBounds_toArray, List.set_cons_zero, List.set_cons_succ, i64_w, i32_w]
    rfl
  refine take_ (i := 10) (N := some 19) (v := ?_) (a' := ?_) #[true, true, true, true, true, true, false, true, true, true, true, false, false, false, false] rfl rfl (take_ofW HT_.out HW_.out (by kernel_rfl)) (fun _ _ _ h => h) (Or.inl ⟨by rfl, ?_⟩) hHeld ?_ ?_
  rotate_left
  · intro w' hS
    have h_ := (hS.cell (World.block_lt_of_cell? _ _ HX0.out)).trans HX0.out
    go_simp
    with_reducible rfl
  rotate_left
  · simp only [Act.put, List.setIfInBounds_toArray, List.set_cons_zero, List.set_cons_succ, i64_w, i32_w]
    rfl
  refine pure_ (i := 11) (N := some 20) (v := ?_) (a' := ?_) #[true, true, true, true, true, true, false, true, true, true, true, true, false, false, false] rfl rfl (any_of HT_.out (by kernel_rfl)) (fun _ _ _ h => h) (Or.inl ⟨by rfl, ?_⟩) ?_ ?_
  rotate_left
  · intro w'
    go_simp
    with_reducible rfl
  rotate_left
  · simp only [Act.put, List.setIfInBounds_toArray, List.set_cons_zero, List.set_cons_succ, i64_w, i32_w]
    rfl
  refine join_ (σ := Addr × Addr) 2 #[true, true, true, true, true, true, true, true, true, true, true, true, true, false, false] (fun s_ => [(15, .slice (some s_.1) H.length H.length), (21, .slice (some s_.2) 1 1)]) (fun s_ w' => (Kd.C (Kd.int .u8) w' (some s_.1) H.length H ∧ w'.cell? s_.2 = some (.int .u8 (q : Int))) ∧ Below w.heap.size w w') ?_ ?_
  rotate_left
  · intro hCont
    refine two_ (i := 6) (j := 12) (Ni := some 15) (Nj := some 21) #[true, true, true, true, true, true, true, true, true, true, true, true, false, false, false] #[true, true, true, true, true, true, false, true, true, true, true, true, true, false, false] rfl rfl rfl rfl (two_of HT_.out (by kernel_rfl)) (by decide) (by decide) (fun K hK => ?_) (fun K hK => ?_)
    · skip
      refine goes_ Try.func51 (by kernel_rfl) rfl #[.slice none 0 0, .int .u64 (l.length : Int)] (by rfl) rfl rfl (by (try simp only [List.map_toArray, List.map_cons, List.map_nil]); first | done | rfl) ?_
      refine (put_clipped none 0 [] _ _ _ (Kd.C_nil _ _) HPUT.out).mono ?_
      rintro e w1 ⟨v1, rfl, ⟨A1_, c1_, rfl, hcl_⟩, hb⟩
      obtain ⟨g1_, c2_, e1_, _, _, _, _⟩ := Kd.R_form hcl_ HHL.out.2
      injection e1_ with e1_ _ _
      subst e1_
      have hC1_ := (Kd.R_reads' hcl_).2.2
      have hc2_ := True.intro
      refine ⟨_, rfl, ?_⟩
      have hS_ := below_step hHeld hb
      (try have hd_ := (hb.cell (World.block_lt_of_cell? _ _ hd0_)).trans hd0_)
      refine hK.out _ _ hS_ (fun hHeld => ?_)
      clear hK K
      refine norm_ (a' := ?_) ?_ ?_
      rotate_left
      · show Act.put _ (some 15) _ = _
        simp only [Act.put, List.setIfInBounds_toArray, List.set_cons_zero, List.set_cons_succ, i64_w, i32_w]
        rfl
      refine one_ (i := 12) (N := some 21) #[true, true, true, true, true, true, true, true, true, true, true, true, true, false, false] rfl rfl (one_of HT_.out (by kernel_rfl)) (by decide) (fun K hK => ?_)
      refine value_ (w1 := ?_) (v := ?_) (by rfl) rfl ?_ ?_
      rotate_left 2
      · go_simp
        constructor
        · rfl
        · rfl
      have hS_ := below_alloc hHeld (.cells #[.int .u8 (q : Int)] 5)
      have hd0_ := new_cell hHeld (.int .u8 (q : Int)) 5
      (try have hC2_ := Kd.C_alloc hC1_ (.cells #[.int .u8 (q : Int)] 5))
      refine hK.out _ _ hS_ (fun hHeld => ?_)
      clear hK K
      refine norm_ (a' := ?_) ?_ ?_
      rotate_left
      · show Act.put _ (some 21) _ = _
        simp only [Act.put, List.setIfInBounds_toArray, List.set_cons_zero, List.set_cons_succ, i64_w, i32_w]
        rfl
      exact norm_ (by simp only [putAll, Act.put, List.setIfInBounds_toArray, List.set_cons_zero, List.set_cons_succ] <;> rfl) (hCont (_, _) _ ⟨⟨hC2_, hd0_⟩, hHeld⟩)
    · skip
      refine value_ (w1 := ?_) (v := ?_) (by rfl) rfl ?_ ?_
      rotate_left 2
      · go_simp
        constructor
        · rfl
        · rfl
      have hS_ := below_alloc hHeld (.cells #[.int .u8 (q : Int)] 5)
      have hd0_ := new_cell hHeld (.int .u8 (q : Int)) 5
      (try have hC2_ := Kd.C_alloc hC1_ (.cells #[.int .u8 (q : Int)] 5))
      refine hK.out _ _ hS_ (fun hHeld => ?_)
      clear hK K
      refine norm_ (a' := ?_) ?_ ?_
      rotate_left
      · show Act.put _ (some 21) _ = _
        simp only [Act.put, List.setIfInBounds_toArray, List.set_cons_zero, List.set_cons_succ, i64_w, i32_w]
        rfl
      refine one_ (i := 6) (N := some 15) #[true, true, true, true, true, true, true, true, true, true, true, true, true, false, false] rfl rfl (one_of HT_.out (by kernel_rfl)) (by decide) (fun K hK => ?_)
      refine goes_ Try.func51 (by kernel_rfl) rfl #[.slice none 0 0, .int .u64 (l.length : Int)] (by rfl) rfl rfl (by (try simp only [List.map_toArray, List.map_cons, List.map_nil]); first | done | rfl) ?_
      refine (put_clipped none 0 [] _ _ _ (Kd.C_nil _ _) HPUT.out).mono ?_
      rintro e w1 ⟨v1, rfl, ⟨A1_, c1_, rfl, hcl_⟩, hb⟩
      obtain ⟨g1_, c2_, e1_, _, _, _, _⟩ := Kd.R_form hcl_ HHL.out.2
      injection e1_ with e1_ _ _
      subst e1_
      have hC1_ := (Kd.R_reads' hcl_).2.2
      have hc2_ := True.intro
      refine ⟨_, rfl, ?_⟩
      have hS_ := below_step hHeld hb
      (try have hd_ := (hb.cell (World.block_lt_of_cell? _ _ hd0_)).trans hd0_)
      refine hK.out _ _ hS_ (fun hHeld => ?_)
      clear hK K
      refine norm_ (a' := ?_) ?_ ?_
      rotate_left
      · show Act.put _ (some 15) _ = _
        simp only [Act.put, List.setIfInBounds_toArray, List.set_cons_zero, List.set_cons_succ, i64_w, i32_w]
        rfl
      exact norm_ (by simp only [putAll, Act.put, List.setIfInBounds_toArray, List.set_cons_zero, List.set_cons_succ] <;> rfl) (hCont (_, _) _ ⟨⟨hC1_, hd_⟩, hHeld⟩)
  rintro ⟨D1, D2⟩ w2 ⟨⟨hD1, hD2⟩, hHeld⟩
  refine norm_ (a' := ?_) ?_ ?_
  rotate_left
  · simp only [putAll, Act.put, List.setIfInBounds_toArray, List.set_cons_zero, List.set_cons_succ, i64_w, i32_w]
    rfl
  refine one_ (i := 13) (N := some 22) #[true, true, true, true, true, true, true, true, true, true, true, true, true, true, false] rfl rfl (one_of HT_.out (by kernel_rfl)) (by decide) (fun K hK => ?_)
  refine append_full_ (zs := H2) HH2.out (s := .tmp 15) (x := .tmp 21) (t := 23) (by rfl) rfl rfl Try.underlying23 hinfo_u8 rfl rfl rfl hD1 hD2 (by have := HHL.out; omega) ?_
  intro A3 c3 w3 hle3 ho3 hb3
  have hS_ := below_step hHeld hb3
  refine hK.out _ _ hS_ (fun hHeld => ?_)
  clear hK K
  refine norm_ (a' := ?_) ?_ ?_
  rotate_left
  · show Act.put _ (some 22) _ = _
    simp only [Act.put, List.setIfInBounds_toArray, List.set_cons_zero, List.set_cons_succ, i64_w, i32_w]
    rfl
  refine pure_ (i := 14) (N := some 3) (v := ?_) (a' := ?_) #[true, true, true, true, true, true, true, true, true, true, true, true, true, true, true] rfl rfl (any_of HT_.out (by kernel_rfl)) (fun _ _ _ h => h) (Or.inl ⟨by rfl, ?_⟩) ?_ ?_
  rotate_left
  · intro w'
    go_simp
    with_reducible rfl
  rotate_left
  · simp only [Act.put, List.setIfInBounds_toArray, List.set_cons_zero, List.set_cons_succ, i64_w, i32_w]
    rfl
  refine done_ (done_of HT_.out (by kernel_rfl)) ?_
  have HHR := Aside0.mk (And.intro hle3 (Kd.R_reads' ho3).2.2)
  have HB := Aside0.mk hHeld
  clear hle3 ho3 hb3 hHeld hD1 hD2 hu1 hu2 hu3 hu4
  have hs1 := size_nums HN.out HQ.out
  have hsz := size_le HN.out HQ.out
  obtain ⟨NW, eNW⟩ : ∃ NW, l.length * q = NW := ⟨_, rfl⟩
  obtain ⟨sz, esz⟩ : ∃ sz, sizeN l.length q = sz := ⟨_, rfl⟩
  rw [eNW, esz] at hs1
  rw [esz] at hsz
  obtain ⟨m1, m2, m3, m4, m5⟩ := hs1
  have HSZ := Aside0.mk hsz
  have HNW := Aside0.mk eNW
  have HESZ := Aside0.mk esz
  have m6 : ¬ (sz : Int) < 0 := Int.not_lt.2 (Int.natCast_nonneg _)
  clear hsz eNW esz
  go_wp2
  refine start_ (n := 15) (S := fun w' => Below w3.heap.size w3 w') (ds := []) #[false, false, false, false, false, false, false, false, false, false, false, false, false, false, false] (by kernel_rfl) rfl rfl (below_drew1 (Below.refl _ _)) (fun hHeld => ?_)
  refine with_tabW by.tab2 by.bits2 (fun HT_ HW_ => ?_)
  refine pure_ (i := 0) (N := some 23) (v := ?_) (a' := ?_) #[true, false, false, false, false, false, false, false, false, false, false, false, false, false, false] rfl rfl (any_of HT_.out (by kernel_rfl)) (fun _ _ _ h => h) (Or.inl ⟨by rfl, ?_⟩) ?_ ?_
  rotate_left
  · intro w'
    go_simp
    with_reducible rfl
  rotate_left
  · simp only [Act.put, List.setIfInBounds_toArray, List.set_cons_zero, List.set_cons_succ, i64_w, i32_w]
    rfl
  refine pure_ (i := 1) (N := some 24) (v := ?_) (a' := ?_) #[true, true, false, false, false, false, false, false, false, false, false, false, false, false, false] rfl rfl (any_of HT_.out (by kernel_rfl)) (fun _ _ _ h => h) (Or.inl ⟨by rfl, ?_⟩) ?_ ?_
  rotate_left
  · intro w'
    go_simp
    with_reducible rfl
  rotate_left
  · simp only [Act.put, List.setIfInBounds_toArray, List.set_cons_zero, List.set_cons_succ, i64_w, i32_w]
    rfl
  refine pure_ (i := 2) (N := some 25) (v := ?_) (a' := ?_) #[true, true, true, false, false, false, false, false, false, false, false, false, false, false, false] rfl rfl (any_of HT_.out (by kernel_rfl)) (fun _ _ _ h => h) (Or.inl ⟨by rfl, ?_⟩) ?_ ?_
  rotate_left
  · intro w'
    go_simp
    with_reducible rfl
  rotate_left
  · simp only [Act.put, List.setIfInBounds_toArray, List.set_cons_zero, List.set_cons_succ, i64_w, i32_w]
    rfl
  refine take_ (i := 3) (N := some 26) (v := ?_) (a' := ?_) #[true, true, true, true, false, false, false, false, false, false, false, false, false, false, false] rfl rfl (take_ofW HT_.out HW_.out (by kernel_rfl)) (fun _ _ _ h => h) (Or.inl ⟨by rfl, ?_⟩) hHeld ?_ ?_
  rotate_left
  · intro w' hS
    have h_ := ((below_step HB.out hS).cell (World.block_lt_of_cell? _ _ HX1.out)).trans HX1.out
    go_simp
    with_reducible rfl
  rotate_left
  · simp only [Act.put, List.setIfInBounds_toArray, List.set_cons_zero, List.set_cons_succ, i64_w, i32_w]
    rfl
  refine pure_ (i := 4) (N := some 27) (v := ?_) (a' := ?_) #[true, true, true, true, true, false, false, false, false, false, false, false, false, false, false] rfl rfl (any_of HT_.out (by kernel_rfl)) (fun _ _ _ h => h) (Or.inl ⟨by rfl, ?_⟩) ?_ ?_
  rotate_left
  · intro w'
    go_simp
    with_reducible rfl
  rotate_left
  · simp only [Act.put, List.setIfInBounds_toArray, List.set_cons_zero, List.set_cons_succ, i64_w, i32_w]
    rfl
  refine pure_ (i := 5) (N := some 28) (v := ?_) (a' := ?_) #[true, true, true, true, true, true, false, false, false, false, false, false, false, false, false] rfl rfl (any_of HT_.out (by kernel_rfl)) (fun _ _ _ h => h) (Or.inl ⟨by rfl, ?_⟩) ?_ ?_
  rotate_left
  · intro w'
    go_simp
    with_reducible rfl
  rotate_left
  · simp only [Act.put, List.setIfInBounds_toArray, List.set_cons_zero, List.set_cons_succ, i64_w, i32_w]
    rfl
  refine pure_ (i := 6) (N := some 29) (v := ?_) (a' := ?_) #[true, true, true, true, true, true, true, false, false, false, false, false, false, false, false] rfl rfl (any_of HT_.out (by kernel_rfl)) (fun _ _ _ h => h) (Or.inl ⟨by rfl, ?_⟩) ?_ ?_
  rotate_left
  · intro w'
    go_simp
    with_reducible rfl
  rotate_left
  · simp only [Act.put, List.setIfInBounds_toArray, List.set_cons_zero, List.set_cons_succ, i64_w, i32_w]
    rfl
  refine pure_ (i := 7) (N := some 30) (v := ?_) (a' := ?_) #[true, true, true, true, true, true, true, true, false, false, false, false, false, false, false] rfl rfl (any_of HT_.out (by kernel_rfl)) (fun _ _ _ h => h) (Or.inl ⟨by rfl, ?_⟩) ?_ ?_
  rotate_left
  · intro w'
    go_simp
    with_reducible rfl
  rotate_left
  · simp only [Act.put, List.setIfInBounds_toArray, List.set_cons_zero, List.set_cons_succ, i64_w, i32_w]
    rfl
  refine take_ (i := 8) (N := some 31) (v := ?_) (a' := ?_) #[true, true, true, true, true, true, true, true, true, false, false, false, false, false, false] rfl rfl (take_ofW HT_.out HW_.out (by kernel_rfl)) (fun _ _ _ h => h) (Or.inl ⟨by rfl, ?_⟩) hHeld ?_ ?_
  rotate_left
  · intro w' hS
    have h_ := ((below_step HB.out hS).cell (World.block_lt_of_cell? _ _ HX0.out)).trans HX0.out
    go_simp
    with_reducible rfl
  rotate_left
  · simp only [Act.put, List.setIfInBounds_toArray, List.set_cons_zero, List.set_cons_succ, i64_w, i32_w]
    rfl
  refine pure_ (i := 9) (N := some 32) (v := ?_) (a' := ?_) #[true, true, true, true, true, true, true, true, true, true, false, false, false, false, false] rfl rfl (any_of HT_.out (by kernel_rfl)) (fun _ _ _ h => h) (Or.inl ⟨by rfl, ?_⟩) ?_ ?_
  rotate_left
  · intro w'
    go_simp
    with_reducible rfl
  rotate_left
  · simp only [Act.put, List.setIfInBounds_toArray, List.set_cons_zero, List.set_cons_succ, i64_w, i32_w]
    rfl
  refine pure_ (i := 10) (N := some 33) (v := ?_) (a' := ?_) #[true, true, true, true, true, true, true, true, true, true, true, false, false, false, false] rfl rfl (any_of HT_.out (by kernel_rfl)) (fun _ _ _ h => h) (Or.inl ⟨by rfl, ?_⟩) ?_ ?_
  rotate_left
  · intro w'
    go_simp
    with_reducible rfl
  rotate_left
  · simp only [Act.put, List.setIfInBounds_toArray, List.set_cons_zero, List.set_cons_succ, i64_w, i32_w]
    rfl
  refine pure_ (i := 11) (N := some 34) (v := ?_) (a' := ?_) #[true, true, true, true, true, true, true, true, true, true, true, true, false, false, false] rfl rfl (any_of HT_.out (by kernel_rfl)) (fun _ _ _ h => h) (Or.inl ⟨by rfl, ?_⟩) ?_ ?_
  rotate_left
  · intro w'
    go_simp
    with_reducible rfl
  rotate_left
  · simp only [Act.put, List.setIfInBounds_toArray, List.set_cons_zero, List.set_cons_succ, i64_w, i32_w]
    rfl
  refine pure_ (i := 12) (N := some 35) (v := ?_) (a' := ?_) #[true, true, true, true, true, true, true, true, true, true, true, true, true, false, false] rfl rfl (any_of HT_.out (by kernel_rfl)) (fun _ _ _ h => h) (Or.inl ⟨by rfl, ?_⟩) ?_ ?_
  rotate_left
  · intro w'
    go_simp
    with_reducible rfl
  rotate_left
  · simp only [Act.put, List.setIfInBounds_toArray, List.set_cons_zero, List.set_cons_succ, i64_w, i32_w]
    rfl
  refine one_ (i := 13) (N := some 36) #[true, true, true, true, true, true, true, true, true, true, true, true, true, true, false] rfl rfl (one_of HT_.out (by kernel_rfl)) (by decide) (fun K hK => ?_)
  refine Kd.R_make_step (Kd.int .u8) (w0 := w3) w3.heap.size 5 (by rfl) (N := 36) rfl 23 _ _ rfl (sz : Int) ?hx1 ?hx2 Try.underlying23 (.int .u8 0) 1 hinfo_u8 rfl (by decide) (by decide) (0 : Int) (ok := fun _ => True) (okp := fun _ => True) ?hz0 (fun _ h => h) trivial (by omega) (by have := HSZ.out; omega) hHeld hHeld.size ?_
  case hx1 => first | rfl | (go_simp; done) | (go_simp; rfl)
  case hx2 => first | rfl | (go_simp; done) | (go_simp; rfl)
  case hz0 => rfl
  intro v4 w4 ho4 hb4 hg4 hat4
  have hS_ := hb4
  refine hK.out _ _ hS_ (fun hHeld => ?_)
  clear hK K
  refine norm_ (a' := ?_) ?_ ?_
  rotate_left
  · show Act.put _ (some 36) _ = _
    simp only [Act.put, List.setIfInBounds_toArray, List.set_cons_zero, List.set_cons_succ, i64_w, i32_w]
    rfl
  refine pure_ (i := 14) (N := some 4) (v := ?_) (a' := ?_) #[true, true, true, true, true, true, true, true, true, true, true, true, true, true, true] rfl rfl (any_of HT_.out (by kernel_rfl)) (fun _ _ _ h => h) (Or.inl ⟨by rfl, ?_⟩) ?_ ?_
  rotate_left
  · intro w'
    go_simp
    with_reducible rfl
  rotate_left
  · simp only [Act.put, List.setIfInBounds_toArray, List.set_cons_zero, List.set_cons_succ, i64_w, i32_w]
    rfl
  refine done_ (done_of HT_.out (by kernel_rfl)) ?_
  clear m1 m2 m3 m4 m5 m6
  rw [Int.toNat_natCast, ← leB_zero] at ho4
  obtain ⟨Ab, cb, rfl⟩ := Kd.R_slice ho4
  rw [leB_length]
  rw [leB_length] at ho4
  have HV := Aside0.mk ho4
  have HB4 := Aside0.mk hHeld
  clear ho4 hb4 hg4 hat4 hHeld
  have hx1c := ((below_step HB.out HB4.out).cell (World.block_lt_of_cell? _ _ HX1.out)).trans HX1.out
  go_wp2
  clear hx1c
  go_loopg [5, 7, 8, 42] l.length (fun kq v5 v7 v8 v42 w' => ∃ i : Nat, v42 = .int .i64 (i : Int) ∧ v5 = .int .i64 ((i * q : Nat) : Int) ∧ Aside0 (i ≤ l.length ∧ l.length - i ≤ kq) ∧ Aside0 (Kd.R (Kd.int .u8) 5 w' w3.heap.size (fun _ => True) (.slice Ab sz cb) (leB (packN q (l.take i)) sz)) ∧ Aside0 (Below w3.heap.size w3 w'))
  case atStart => exact ⟨0, rfl, by rw [Nat.zero_mul]; rfl, ⟨by omega, by omega⟩, ⟨HV.out⟩, ⟨HB4.out⟩⟩
  case round =>
    clear HV HB4
    obtain ⟨i, rfl, rfl, HI, HV, HB4⟩ := hrel
    have hx1c := ((below_step HB.out HB4.out).cell (World.block_lt_of_cell? _ _ HX1.out)).trans HX1.out
    have hx0c := ((below_step HB.out HB4.out).cell (World.block_lt_of_cell? _ _ HX0.out)).trans HX0.out
    by_cases k1 : i < l.length
    · have d1 : decide ((i : Int) < (l.length : Int)) = true := decide_eq_true (by omega)
      obtain ⟨ad, rfl, hcell⟩ := Kd.at_int HC.out (i : Int) (by omega) (by omega)
      rw [Int.toNat_natCast] at hcell
      have hcellr := ((below_step HB.out HB4.out).cell (World.block_lt_of_cell? _ _ hcell)).trans hcell
      have hxb := HBB.out _ (List.getElem_mem k1)
      have hrd := rd_at l i k1
      rw [hrd] at hcellr
      have hgd : l.getD i 0 = l[i] := by rw [List.getD_eq_getElem?_getD, List.getElem?_eq_getElem k1, Option.getD_some]
      obtain ⟨x, hx⟩ := Int.eq_ofNat_of_zero_le hxb.1
      rw [hx] at hcellr hxb hgd
      have HXN := Aside0.mk (show x < 65536 by omega)
      have HGD := Aside0.mk hgd
      have HK1 := Aside0.mk k1
      have HI2 := Aside0.mk (show i ≤ 100000 by have := HN.out; omega)
      clear hcell hrd hxb hgd hx
      go_wp2
      obtain ⟨wo, hwo⟩ : ∃ wo, wo = wr := ⟨_, rfl⟩
      rw [← hwo]
      go_loopg [5, 8, 50] 65 (fun kq v5 v8 v50 w' => ∃ k : Nat, v50 = .int .i64 (k : Int) ∧ v5 = .int .i64 ((i * q + k : Nat) : Int) ∧ Aside0 (k ≤ q ∧ q - k ≤ kq) ∧ Aside0 (Kd.R (Kd.int .u8) 5 w' w3.heap.size (fun _ => True) (.slice Ab sz cb) (leB (partN q l i k) sz)) ∧ Aside0 (Below w3.heap.size w3 w'))
      case atStart => exact ⟨0, rfl, rfl, ⟨by omega, by have := HQ.out; omega⟩, ⟨by rw [partN_zero, hwo]; exact HV.out⟩, ⟨by rw [hwo]; exact HB4.out⟩⟩
      case round =>
        obtain ⟨k, rfl, rfl, HK, HV2, HB5⟩ := hrel
        by_cases k2 : k < q
        · have d2 : decide ((k : Int) < (q : Int)) = true := decide_eq_true (by omega)
          have hps := place_size HK1.out k2
          rw [HESZ.out] at hps
          have hq64 := HQ.out
          obtain ⟨gb, cb2, eb, hb1, hb2, hb3, hb4⟩ := Kd.R_form HV2.out (by rw [leB_length]; omega)
          rw [leB_length] at eb
          injection eb with eb1 eb2 eb3
          subst eb1
          clear eb2 eb3 hb1 hb2 hb3 hb4
          obtain ⟨p, hp⟩ : ∃ p : Int, p = ((i * q + k : Nat) : Int) := ⟨_, rfl⟩
          rw [← hp]
          have hp0 : 0 ≤ p := by omega
          have hpm : p < 6400008 := by have := HSZ.out; omega
          have hp8 : p < 8 * (sz : Int) := by omega
          obtain ⟨j, hj⟩ : ∃ j, Int.tdiv p 8 = j := ⟨_, rfl⟩
          obtain ⟨m, hm⟩ : ∃ m, Int.tmod p 8 = m := ⟨_, rfl⟩
          have hj0 : 0 ≤ j ∧ j < (sz : Int) ∧ 0 ≤ m ∧ m < 8 := by
            rw [← hj, ← hm, Int.tdiv_eq_ediv_of_nonneg hp0, Int.tmod_eq_emod_of_nonneg hp0]
            omega
          obtain ⟨q5, q6, q7, q8⟩ := hj0
          have hsh0 : (x : Int) / 2 ^ k = ((x / 2 ^ k : Nat) : Int) := by rw [Int.natCast_ediv, Int.natCast_pow]; rfl
          have hxl : x / 2 ^ k < 18446744073709551616 := Nat.lt_of_le_of_lt (Nat.div_le_self _ _) (by have := HXN.out; omega)
          obtain ⟨bt, hbt⟩ : ∃ bt : Nat, x / 2 ^ k % 2 = bt := ⟨_, rfl⟩
          obtain ⟨xs, hxs⟩ : ∃ xs : Nat, x / 2 ^ k = xs := ⟨_, rfl⟩
          rw [hxs] at hsh0 hxl
          have hb2 : bt < 2 := by rw [← hbt]; exact Nat.mod_lt _ (by decide)
          have hbit : Go.bits .and .u64 (xs : Int) 1 = (bt : Int) := by
            rw [← hbt, hxs]
            exact bit_u64 _ hxl
          obtain ⟨s8, hs8⟩ : ∃ s8 : Int, shl .u8 (bt : Int) m = s8 := ⟨_, rfl⟩
          have hset := pack_set HK1.out k2 hp hj hm (s8 := s8) (by rw [HGD.out, Int.toNat_natCast, hbt]; exact hs8)
          rw [HESZ.out] at hset
          obtain ⟨LB, eLB⟩ : ∃ LB, leB (partN q l i k) sz = LB := ⟨_, rfl⟩
          rw [eLB] at HV2 hset
          have hLBl : LB.length = sz := by rw [← eLB, leB_length]
          have HSET := Aside0.mk hset
          have HKK := Aside0.mk (And.intro k2 hq64)
          have HPP := Aside0.mk hp
          have hs8_ : (IntKind.u8.wrap ((bt : Int) * 2 ^ min m.toNat 8)) = s8 := hs8
          have hs8z : m ≤ 8 → (IntKind.u8.wrap ((bt : Int) * 2 ^ m.toNat)) = s8 := shl_small hs8
          have hsh2 : (x : Int) / 2 ^ min k 64 = (xs : Int) := by rw [Nat.min_eq_left (by omega)]; exact hsh0
          have hxw : IntKind.u64.wrap (x : Int) = (x : Int) := by rw [wrap_u64]; have := HXN.out; omega
          have hbw : IntKind.u8.wrap (bt : Int) = (bt : Int) := by rw [Go.IntKind.wrap_u8]; omega
          have hbw2 : (bt : Int) % 256 = (bt : Int) := by omega
          have j7' := eq_true q7
          have j7d : decide (0 ≤ m) = true := decide_eq_true q7
          have cj0 := eq_true q5
          have cj0d : decide (0 ≤ j) = true := decide_eq_true q5
          have cj1d : decide (j < (sz : Int)) = true := decide_eq_true q6
          have hjw : wrap64 j = j := w64 (by omega) (by have := HSZ.out; omega)
          have HJ := Aside0.mk (And.intro q5 q6)
          clear hset eLB hps hbt hxs hxl hp8 hp q5 q6 q7 q8
          go_wp2
          have HV1 := Aside0.mk (Kd.R_drew HV2.out)
          have HB1 := Aside0.mk (below_drew1 HB5.out)
          clear HV2 HB5
          have q5 : 0 ≤ j := HJ.out.1
          have q6 : j < (sz : Int) := HJ.out.2
          have GG := Aside0.mk (And.intro (Kd.R_base HV1.out gb rfl) (Kd.R_typed HV1.out gb rfl))
          obtain ⟨hx1_, hf1_⟩ := Kd.R_celln 0 HV1.out j q5 q6
          have q5' := eq_true q5
          have q6' := eq_true q6
          have HP2 := Aside0.mk (Kd.R_putn HV1.out j (Go.bits .or .u8 (rd LB j) s8))
          refine start_ (n := 17) (S := fun w' => w'.cell? ⟨gb, j.toNat, none⟩ = some (.int .u8 (rd LB j))) (ds := [16]) #[false, false, false, false, false, false, false, false, false, false, false, false, false, false, false, false, false] (by kernel_rfl) rfl rfl hx1_ (fun hHeld => ?_)
          refine with_tabW by.tab10 by.bits10 (fun HT_ HW_ => ?_)
          generalize wr.drew = w26 at HV1 HB1 GG HP2 hf1_ hx1_ hHeld ⊢
          refine pure_ (i := 0) (N := some 53) (v := ?_) (a' := ?_) #[true, false, false, false, false, false, false, false, false, false, false, false, false, false, false, false, false] rfl rfl (any_of HT_.out (by kernel_rfl)) (fun _ _ _ h => h) (Or.inl ⟨by rfl, ?_⟩) ?_ ?_
          rotate_left
          · intro w'
            go_simp
            with_reducible rfl
          rotate_left
          · simp only [Act.put, List.setIfInBounds_toArray, List.set_cons_zero, List.set_cons_succ, i64_w, i32_w]
            rfl
          refine pure_ (i := 1) (N := some 54) (v := ?_) (a' := ?_) #[true, true, false, false, false, false, false, false, false, false, false, false, false, false, false, false, false] rfl rfl (any_of HT_.out (by kernel_rfl)) (fun _ _ _ h => h) (Or.inl ⟨by rfl, ?_⟩) ?_ ?_
          rotate_left
          · intro w'
            go_simp
            with_reducible rfl
          rotate_left
          · simp only [Act.put, List.setIfInBounds_toArray, List.set_cons_zero, List.set_cons_succ, i64_w, i32_w]
            rfl
          refine pure_ (i := 2) (N := some 55) (v := ?_) (a' := ?_) #[true, true, true, false, false, false, false, false, false, false, false, false, false, false, false, false, false] rfl rfl (any_of HT_.out (by kernel_rfl)) (fun _ _ _ h => h) (Or.inl ⟨by rfl, ?_⟩) ?_ ?_
          rotate_left
          · intro w'
            go_simp
            with_reducible rfl
          rotate_left
          · simp only [Act.put, List.setIfInBounds_toArray, List.set_cons_zero, List.set_cons_succ, i64_w, i32_w]
            rfl
          refine pure_ (i := 3) (N := some 56) (v := ?_) (a' := ?_) #[true, true, true, true, false, false, false, false, false, false, false, false, false, false, false, false, false] rfl rfl (any_of HT_.out (by kernel_rfl)) (fun _ _ _ h => h) (Or.inl ⟨by rfl, ?_⟩) ?_ ?_
          rotate_left
          · intro w'
            go_simp
            with_reducible rfl
          rotate_left
          · simp only [Act.put, List.setIfInBounds_toArray, List.set_cons_zero, List.set_cons_succ, i64_w, i32_w]
            rfl
          refine take_ (i := 4) (N := some 57) (v := ?_) (a' := ?_) #[true, true, true, true, true, false, false, false, false, false, false, false, false, false, false, false, false] rfl rfl (take_ofW HT_.out HW_.out (by kernel_rfl)) (fun _ _ _ h => h) (Or.inl ⟨by rfl, ?_⟩) hHeld ?_ ?_
          rotate_left
          · intro w' s0
            go_simp
            with_reducible rfl
          rotate_left
          · simp only [Act.put, List.setIfInBounds_toArray, List.set_cons_zero, List.set_cons_succ, i64_w, i32_w]
            rfl
          refine pure_ (i := 5) (N := some 58) (v := ?_) (a' := ?_) #[true, true, true, true, true, true, false, false, false, false, false, false, false, false, false, false, false] rfl rfl (any_of HT_.out (by kernel_rfl)) (fun _ _ _ h => h) (Or.inl ⟨by rfl, ?_⟩) ?_ ?_
          rotate_left
          · intro w'
            go_simp
            with_reducible rfl
          rotate_left
          · simp only [Act.put, List.setIfInBounds_toArray, List.set_cons_zero, List.set_cons_succ, i64_w, i32_w]
            rfl
          refine pure_ (i := 6) (N := some 59) (v := ?_) (a' := ?_) #[true, true, true, true, true, true, true, false, false, false, false, false, false, false, false, false, false] rfl rfl (any_of HT_.out (by kernel_rfl)) (fun _ _ _ h => h) (Or.inl ⟨by rfl, ?_⟩) ?_ ?_
          rotate_left
          · intro w'
            go_simp
            with_reducible rfl
          rotate_left
          · simp only [Act.put, List.setIfInBounds_toArray, List.set_cons_zero, List.set_cons_succ, i64_w, i32_w]
            rfl
          refine pure_ (i := 7) (N := some 60) (v := ?_) (a' := ?_) #[true, true, true, true, true, true, true, true, false, false, false, false, false, false, false, false, false] rfl rfl (any_of HT_.out (by kernel_rfl)) (fun _ _ _ h => h) (Or.inl ⟨by rfl, ?_⟩) ?_ ?_
          rotate_left
          · intro w'
            go_simp
            with_reducible rfl
          rotate_left
          · simp only [Act.put, List.setIfInBounds_toArray, List.set_cons_zero, List.set_cons_succ, i64_w, i32_w]
            rfl
          refine pure_ (i := 8) (N := some 61) (v := ?_) (a' := ?_) #[true, true, true, true, true, true, true, true, true, false, false, false, false, false, false, false, false] rfl rfl (any_of HT_.out (by kernel_rfl)) (fun _ _ _ h => h) (Or.inl ⟨by rfl, ?_⟩) ?_ ?_
          rotate_left
          · intro w'
            go_simp
            with_reducible rfl
          rotate_left
          · simp only [Act.put, List.setIfInBounds_toArray, List.set_cons_zero, List.set_cons_succ, i64_w, i32_w]
            rfl
          refine pure_ (i := 9) (N := some 62) (v := ?_) (a' := ?_) #[true, true, true, true, true, true, true, true, true, true, false, false, false, false, false, false, false] rfl rfl (any_of HT_.out (by kernel_rfl)) (fun _ _ _ h => h) (Or.inl ⟨by rfl, ?_⟩) ?_ ?_
          rotate_left
          · intro w'
            go_simp
            with_reducible rfl
          rotate_left
          · simp only [Act.put, List.setIfInBounds_toArray, List.set_cons_zero, List.set_cons_succ, i64_w, i32_w]
            rfl
          refine pure_ (i := 10) (N := some 63) (v := ?_) (a' := ?_) #[true, true, true, true, true, true, true, true, true, true, true, false, false, false, false, false, false] rfl rfl (any_of HT_.out (by kernel_rfl)) (fun _ _ _ h => h) (Or.inl ⟨by rfl, ?_⟩) ?_ ?_
          rotate_left
          · intro w'
            go_simp
            with_reducible rfl
          rotate_left
          · simp only [Act.put, List.setIfInBounds_toArray, List.set_cons_zero, List.set_cons_succ, i64_w, i32_w]
            rfl
          refine pure_ (i := 11) (N := some 64) (v := ?_) (a' := ?_) #[true, true, true, true, true, true, true, true, true, true, true, true, false, false, false, false, false] rfl rfl (any_of HT_.out (by kernel_rfl)) (fun _ _ _ h => h) (Or.inl ⟨by rfl, ?_⟩) ?_ ?_
          rotate_left
          · intro w'
            go_simp
            with_reducible rfl
          rotate_left
          · simp only [Act.put, List.setIfInBounds_toArray, List.set_cons_zero, List.set_cons_succ, i64_w, i32_w]
            rfl
          refine pure_ (i := 12) (N := some 65) (v := ?_) (a' := ?_) #[true, true, true, true, true, true, true, true, true, true, true, true, true, false, false, false, false] rfl rfl (any_of HT_.out (by kernel_rfl)) (fun _ _ _ h => h) (Or.inl ⟨by rfl, ?_⟩) ?_ ?_
          rotate_left
          · intro w'
            go_simp
            with_reducible rfl
          rotate_left
          · simp only [Act.put, List.setIfInBounds_toArray, List.set_cons_zero, List.set_cons_succ, i64_w, i32_w]
            rfl
          refine pure_ (i := 13) (N := some 66) (v := ?_) (a' := ?_) #[true, true, true, true, true, true, true, true, true, true, true, true, true, true, false, false, false] rfl rfl (any_of HT_.out (by kernel_rfl)) (fun _ _ _ h => h) (Or.inl ⟨by rfl, ?_⟩) ?_ ?_
          rotate_left
          · intro w'
            go_simp
            with_reducible rfl
          rotate_left
          · simp only [Act.put, List.setIfInBounds_toArray, List.set_cons_zero, List.set_cons_succ, i64_w, i32_w]
            rfl
          refine pure_ (i := 14) (N := some 67) (v := ?_) (a' := ?_) #[true, true, true, true, true, true, true, true, true, true, true, true, true, true, true, false, false] rfl rfl (any_of HT_.out (by kernel_rfl)) (fun _ _ _ h => h) (Or.inl ⟨by rfl, ?_⟩) ?_ ?_
          rotate_left
          · intro w'
            go_simp
            with_reducible rfl
          rotate_left
          · simp only [Act.put, List.setIfInBounds_toArray, List.set_cons_zero, List.set_cons_succ, i64_w, i32_w]
            rfl
          refine pure_ (i := 15) (N := some 68) (v := ?_) (a' := ?_) #[true, true, true, true, true, true, true, true, true, true, true, true, true, true, true, true, false] rfl rfl (any_of HT_.out (by kernel_rfl)) (fun _ _ _ h => h) (Or.inl ⟨by rfl, ?_⟩) ?_ ?_
          rotate_left
          · intro w'
            go_simp
            with_reducible rfl
          rotate_left
          · simp only [Act.put, List.setIfInBounds_toArray, List.set_cons_zero, List.set_cons_succ, i64_w, i32_w]
            rfl
          refine last_ (i := 16) (N := none) #[true, true, true, true, true, true, true, true, true, true, true, true, true, true, true, true, true] rfl rfl (one_of HT_.out (by kernel_rfl)) (by decide) (fun K hK => ?_)
          refine skip_ (w1 := ?_) (by rfl) rfl ?_ ?_
          rotate_left
          · go_simp
            rfl
          refine hK.out _ _ ?_
          clear hK K
          refine done_ (done_of HT_.out (by kernel_rfl)) ?_
          go_wp2
          have HB9 := Aside0.mk (below_set (j := j.toNat) (v := .int .u8 (Go.bits .or .u8 (rd LB j) s8)) HB1.out GG.out.1)
          go_roundg (q - 1 - k)
          case measure => have := HK.out; have := HKK.out; omega
          case rel =>
            refine ⟨k + 1, by go_num, by have := HPP.out; go_num, ⟨by have := HKK.out; omega, by omega⟩, ⟨?_⟩, ⟨HB9.out⟩⟩
            rw [← HSET.out]
            exact HP2.out
        · have d2 : decide ((k : Int) < (q : Int)) = false := decide_eq_false (by omega)
          obtain rfl : k = q := by have := HK.out.1; omega
          have h_ := HI2.out
          go_wp2
          go_roundg (l.length - 1 - i)
          case measure => have := HI.out; have := HK1.out; omega
          case rel =>
            refine ⟨i + 1, by go_num, by rw [Nat.succ_mul], ⟨by have := HK1.out; omega, by omega⟩, ⟨?_⟩, ⟨HB5.out⟩⟩
            rw [← partN_full k l i HK1.out]
            exact HV2.out
    · have d1 : decide ((i : Int) < (l.length : Int)) = false := decide_eq_false (by omega)
      obtain rfl : i = l.length := by have := HI.out.1; omega
      rw [List.take_length] at HV
      have hrb := (Kd.R_reads' HV.out).2
      have hvb : vbytes q l = H2 ++ leB (packN q l) sz := by
        unfold vbytes
        rw [HHE.out, HESZ.out, HH2.out]
      have HESZ2 := Aside0.mk HSZ.out.2
      clear HV HESZ HNW HSZ HI
      obtain ⟨BL, eBL⟩ : ∃ BL, leB (packN q l) sz = BL := ⟨_, rfl⟩
      have hBl : BL.length = sz := by rw [← eBL, leB_length]
      rw [eBL] at hrb hvb
      clear eBL
      subst hBl
      have hcon : concatF [H2, BL] = some (vbytes q l) := by
        unfold concatF
        have e : [H2, BL].flatten = vbytes q l := by rw [hvb]; simp
        rw [e, if_pos ⟨by simp, by rw [hvb, List.length_append]; have := HH2L.out; have := HESZ2.out; omega⟩]
      have HCON := Aside0.mk hcon
      have HTW := Aside0.mk (two_rows (q := 5) (e := 23) HHR.out.1 (Kd.C_below HHR.out.2 HB4.out) hrb.1 hrb.2)
      have HB9 := Aside0.mk (below_alloc (below_step HB.out HB4.out) (.cells #[.slice A3 H2.length c3, .slice Ab BL.length cb] 23))
      clear hrb hvb hcon hx0c
      go_wp2_with (go_at_call 52; refine (concat_calls _ _ [H2, BL] _ _ HTW.out (by simp) HCON.out).mono ?_; rintro e w9 ⟨v9, rfl, ho, hb⟩; have HO := Aside0.mk (Kd.R_mono (Kd.R_lower ho HB9.out.size) (ok' := fun _ => True) (fun _ _ => trivial)); have HB10 := Aside0.mk (below_step HB9.out hb); clear ho hb)
      go_ret
      exact ⟨_, rfl, HO.out, HB10.out⟩
end Go.Proofs.Ytolncaccemfbdaa.V16

/- Printed by a program of this session (drv.py) from the translation of this seat: functions, their contracts, rows. -/
namespace Go.Proofs.Ytolncaccemfbdaa.PPk
open Go.RowKit Go.Proofs.YtolncaccemfbdaaW.PrintWords Go.Proofs.YtolncaccemfbdaaW.PrintLast Go.Proofs.YtolncaccemfbdaaW.PrintMore
attribute [local go_sem] max2_int min2_int max_two min_two max_three min_three max_four min_four   -- for this text's walks alone
set_option linter.unusedVariables false
set_option linter.unusedSimpArgs false

/-! ### packed_Width_uint8: function 41 -/
def packed_Width_uint8.l0 : Nat → Int → List Int → Int → Int → Option (Int)
  | 0, _, _, _, _ => none
  | k + 1, x3, x6, x7, x8 => if x8 < x7 then (if 0 ≤ x8 then (if x8 < (x6.length : Int) then ((bits_Len64.f (IntKind.u64.wrap (rd x6 x8))).bind fun t154 => (packed_Width_uint8.l0 k (mx x3 t154) x6 x7 (wrap64 (x8 + 1)))) else (none)) else (none)) else (some x3)
def packed_Width_uint8.f (k : Nat) (l0 : List Int) : Option (Int) := packed_Width_uint8.l0 k 0 l0 (l0.length : Int) 0
theorem packed_Width_uint8.mono_l : ∀ k, (∀ y0 y1 y2 y3, LeO (packed_Width_uint8.l0 k y0 y1 y2 y3) (packed_Width_uint8.l0 (k + 1) y0 y1 y2 y3))
  | 0 => fun _ _ _ _ r h => by simp [packed_Width_uint8.l0] at h
  | k + 1 => by
    have ih0 := packed_Width_uint8.mono_l k
    · intro y0 y1 y2 y3
      unfold packed_Width_uint8.l0
      repeat' first
      | (with_reducible exact ih0 _ _ _ _)
      | (with_reducible exact LeO.refl _)
      | (with_reducible exact LeO.none _)
      | (with_reducible refine LeO.ite ?_ ?_)
      | (with_reducible refine LeO.bind ?_ (fun _ => ?_))
      | exact ih0 _ _ _ _
      | exact LeO.none _
      | refine LeO.ite ?_ ?_
      | refine LeO.bind ?_ (fun _ => ?_)
theorem packed_Width_uint8.mono : ∀ a0 k, LeO (packed_Width_uint8.f k a0) (packed_Width_uint8.f (k + 1) a0) := by
  intro a0 k
  have ih0 := packed_Width_uint8.mono_l k
  unfold packed_Width_uint8.f
  repeat' first
      | (with_reducible exact ih0 _ _ _ _)
      | (with_reducible exact LeO.refl _)
      | (with_reducible exact LeO.none _)
      | (with_reducible refine LeO.ite ?_ ?_)
      | (with_reducible refine LeO.bind ?_ (fun _ => ?_))
      | exact ih0 _ _ _ _
      | exact LeO.none _
      | refine LeO.ite ?_ ?_
      | refine LeO.bind ?_ (fun _ => ?_)
set_option maxHeartbeats 8000000 in
set_option maxRecDepth 100000 in
theorem packed_Width_uint8.calls (k : Nat) (A0 : Option Addr) (c0 : Nat) (l0 : List Int) (r : Int) (w : World) (hr0 : Kd.C (Kd.int .u8) w A0 l0.length l0) (hc0 : l0.length ≤ c0) (h : packed_Width_uint8.f k l0 = some r) :
    Calls Try.prog 41 #[.slice A0 l0.length c0] w fun e w' => e = .returned (.int .i64 r) ∧ Below w.heap.size w w' := by
  have HR0 := Aside0.mk hr0
  have HC0 := Aside0.mk hc0
  clear hr0 hc0
  have HB := Aside0.mk (Below.refl w.heap.size w)
  have H : (packed_Width_uint8.l0 k 0 l0 (l0.length : Int) 0) = some r := h
  clear h
  have H' := Aside0.mk H
  clear H
  go_enter Try.func41, Try.ntmps41
  go_wp2
  go_loopg [3, 8] k (fun kq v3 v8 w' => ∃ (x3_1 : Int) (x8_1 : Int), v3 = .int .i64 x3_1 ∧ v8 = .int .i64 x8_1 ∧ Aside0 (packed_Width_uint8.l0 kq x3_1 l0 (l0.length : Int) x8_1 = some r) ∧ Aside0 (kq ≤ k) ∧ Aside0 (Below w.heap.size w w'))
  case atStart => exact ⟨(0), (0), (by first | rfl | (simp; done) | (simp [*]; done)), (by first | rfl | (simp; done) | (simp [*]; done)), H', ⟨Nat.le_refl _⟩, ⟨by repeat (first | (with_reducible first | exact HB.out | apply below_alloc | apply pw_below_drewN | apply below_drew1) | exact HB.out)⟩⟩
  case round =>
    clear H'
    obtain ⟨x3_1, x8_1, rfl, rfl, HA, HK1, HB⟩ := hrel
    cases gk with
    | zero => exact absurd HA.out (by simp [packed_Width_uint8.l0])
    | succ k1 =>
      have H := HA.out
      clear HA
      simp only [packed_Width_uint8.l0] at H
      by_cases c2 : x8_1 < (l0.length : Int)
      · rw [if_pos c2] at H
        have c2b0 : decide (x8_1 < (l0.length : Int)) = true := decide_eq_true c2
        clear c2
        by_cases c3 : 0 ≤ x8_1
        · rw [if_pos c3] at H
          have c3b0 : decide (0 ≤ x8_1) = true := decide_eq_true c3
          clear c3
          by_cases c4 : x8_1 < (l0.length : Int)
          · rw [if_pos c4] at H
            have c4b0 : decide (x8_1 < (l0.length : Int)) = true := decide_eq_true c4
            clear c4
            replace H := Option.bind_eq_some_iff.mp H
            obtain ⟨t154, A50, H⟩ := H
            replace H : (packed_Width_uint8.l0 k1 (mx x3_1 t154) l0 (l0.length : Int) (wrap64 (x8_1 + 1))) = some r := H
            have A5 := Aside0.mk A50
            clear A50
            obtain ⟨ji6, hji6⟩ : ∃ j_ : Int, (mx x3_1 t154) = j_ := ⟨_, rfl⟩
            replace H : (packed_Width_uint8.l0 k1 ji6 l0 (l0.length : Int) (wrap64 (x8_1 + 1))) = some r := by first | (rw [hji6] at H; exact H) | (simp only [hji6] at H ⊢; exact H)
            (try rw [hji6] at A5)
            have hji6_ : (if x3_1 < t154 then t154 else x3_1) = ji6 := hji6
            have H' := Aside0.mk H
            clear H
            have p153 : 0 ≤ (x8_1 : Int) := of_decide_eq_true (by first | (with_reducible assumption) | assumption)
            have q153 : x8_1 < (l0.length : Int) := of_decide_eq_true (by first | (with_reducible assumption) | assumption)
            obtain ⟨ad153, e153, hx153_0⟩ := Kd.at_int HR0.out x8_1 p153 q153
            cases e153
            replace hx153_0 := (HB.out.cell (World.block_lt_of_cell? w _ hx153_0)).trans hx153_0
            replace p153 := eq_true p153
            replace q153 := eq_true q153
            go_wp2_with (first | ((with_reducible refine gate_callee (f := 47) rfl ?_); refine goesL_ (some 15) rfl rfl Try.func47 (by kernel_rfl) rfl #[.int .u64 (IntKind.u64.wrap (rd l0 x8_1))] rfl (by (try simp only [List.map_toArray, List.map_cons, List.map_nil]); first | done | rfl | (simp only [List.length_drop, List.length_take]; rfl)) ?_; (with_reducible refine (bits_Len64.calls (IntKind.u64.wrap (rd l0 x8_1)) t154 _ A5.out).mono ?_); rintro e w' ⟨rfl, ⟨nd, rfl⟩⟩; refine ⟨_, rfl, ?_⟩))
            go_roundg k1
            case measure => have := HK1.out; omega
            case rel => exact ⟨(ji6), (wrap64 (x8_1 + 1)), (by first | rfl | (simp; done) | (simp only [← hji6] <;> (first | rfl | simp)) | (simp [*]; done)), (by first | rfl | (simp; done) | (simp [*]; done)), H', ⟨by have := HK1.out; omega⟩, ⟨by repeat (first | (with_reducible first | exact HB.out | apply below_alloc | apply pw_below_drewN | apply below_drew1) | exact HB.out)⟩⟩
          · rw [if_neg c4] at H
            exact absurd H (by simp)
        · rw [if_neg c3] at H
          exact absurd H (by simp)
      · rw [if_neg c2] at H
        have c2b0 : decide (x8_1 < (l0.length : Int)) = false := decide_eq_false c2
        clear c2
        obtain rfl := Option.some.inj H
        go_wp2
        go_ret
        exact ⟨by first | rfl | (simp [errW_none, errW_some] <;> rfl) | (simp [*, errW_none, errW_some] <;> rfl), by repeat (first | (with_reducible first | exact HB.out | apply below_alloc | apply pw_below_drewN | apply below_drew1) | exact HB.out)⟩

end Go.Proofs.Ytolncaccemfbdaa.PPk

/- Packed numbers of the type uint8: what Width, New, Get, Len tell. -/
namespace Go.Proofs.Ytolncaccemfbdaa.V8
open Go.RowKit Go.Proofs.YtolncaccemfbdaaW.PrintWords Go.Proofs.YtolncaccemfbdaaW.PrintLast Go.Proofs.YtolncaccemfbdaaW.PrintMore
open Go.Proofs.Ytolncaccemfbdaa.Plain Go.Proofs.Ytolncaccemfbdaa.PPk Go.Proofs.Ytolncaccemfbdaa.Hand
set_option linter.unusedVariables false
set_option linter.unusedSimpArgs false
theorem width_go (l : List Int) (hb : ∀ x ∈ l, 0 ≤ x ∧ x < 256) (hl : l.length ≤ 1000000) : ∀ (d k i : Nat), l.length - i = d → d < k → i ≤ l.length → packed_Width_uint8.l0 k (widthL (l.take i) : Int) l (l.length : Int) (i : Int) = some (widthL l : Int) := by
  intro d
  induction d with
  | zero =>
    intro k i hd hk hi
    obtain ⟨k, rfl⟩ : ∃ m, k = m + 1 := ⟨k - 1, by omega⟩
    rw [packed_Width_uint8.l0, if_neg (by omega), show i = l.length from by omega, List.take_length]
  | succ d ih =>
    intro k i hd hk hi
    obtain ⟨k, rfl⟩ : ∃ m, k = m + 1 := ⟨k - 1, by omega⟩
    have hlt : i < l.length := by omega
    have hx := hb _ (List.getElem_mem hlt)
    have hf : bits_Len64.f (IntKind.u64.wrap (rd l (i : Int))) = some (Lib.bitLen (l[i]).toNat : Int) := by
      rw [rd_at l i hlt]
      rw [wrap_u64, Int.emod_eq_of_lt hx.1 (by omega)]
      unfold bits_Len64.f len64F
      rw [if_pos (by omega)]
    rw [packed_Width_uint8.l0, if_pos (by omega), if_pos (by omega), if_pos (by omega), hf, Option.bind_some, mx_cast, w64 (by omega) (by omega)]
    have e : max (widthL (l.take i)) (Lib.bitLen (l[i]).toNat) = widthL (l.take (i + 1)) := by
      rw [List.take_succ_eq_append_getElem hlt, widthL_snoc]
    rw [e, show (i : Int) + 1 = ((i + 1 : Nat) : Int) from by omega]
    exact ih k (i + 1) (by omega) (by omega) (by omega)
theorem width_f (l : List Int) (hb : ∀ x ∈ l, 0 ≤ x ∧ x < 256) (hl : l.length ≤ 1000000) : packed_Width_uint8.f (l.length + 1) l = some (widthL l : Int) := by
  have := width_go l hb hl l.length (l.length + 1) 0 (by omega) (by omega) (by omega)
  rw [List.take_zero, show (widthL [] : Int) = 0 from rfl] at this
  exact this
end Go.Proofs.Ytolncaccemfbdaa.V8

/- concordancelaw6.awake tells true. -/
namespace Go.Proofs.Ytolncaccemfbdaa.Plain
open Go.RowKit Go.Proofs.YtolncaccemfbdaaW.PrintWords Go.Proofs.YtolncaccemfbdaaW.PrintLast Go.Proofs.YtolncaccemfbdaaW.PrintMore
set_option linter.unusedVariables false
set_option linter.unusedSimpArgs false
theorem vbytes_awake : vbytes 3 [1, 2, 3] = [3, 3, 209, 0] := by
  unfold vbytes
  rw [encN_lt (by simp)]
  rfl
theorem newE_awake : newE 3 [1, 2, 3] = 0 := by decide
theorem width_awake : widthL [5] = 3 := by decide
end Go.Proofs.Ytolncaccemfbdaa.Plain
namespace Go.Proofs.Ytolncaccemfbdaa.Hand
open Go.RowKit Go.Proofs.YtolncaccemfbdaaW.PrintWords Go.Proofs.YtolncaccemfbdaaW.PrintLast Go.Proofs.YtolncaccemfbdaaW.PrintMore
open Go.Proofs.Ytolncaccemfbdaa.Plain Go.Proofs.Ytolncaccemfbdaa.PPk
attribute [local go_sem] max2_int min2_int max_two min_two
set_option linter.unusedVariables false
set_option linter.unusedSimpArgs false
theorem C_new (W : World) (k : IntKind) (e : TypeId) (f : Nat × Nat) (xs : List Int) (hm : xs.length ≤ 9223372036854775807) : Kd.C (Kd.int k) (W.alloc (.cells (nums k xs).toArray e f)) (some ⟨W.heap.size, 0, none⟩) xs.length xs := by
  refine Kd.C_of_reads (d := (0 : Int)) (h1 := fun _ => rfl) ⟨rfl, hm, fun _ => ⟨_, rfl, fun j hj => ?_⟩⟩
  rw [add_plain, cell_of_row _ W.heap.size j (nums k xs).toArray e f (blk_new W _)]
  simp [nums, hj]
set_option maxHeartbeats 4000000 in
set_option maxRecDepth 100000 in
theorem awake6_calls (w : World) : Calls Try.prog 11 #[] w fun e w' => e = .returned (.bool true) ∧ Below w.heap.size w w' := by
  have HC3 := Aside0.mk (C_new w .u16 40 (0, 0) [1, 2, 3] (by simp))
  have HB := Aside0.mk (below_alloc (Below.refl w.heap.size w) (.cells #[.int .u16 1, .int .u16 2, .int .u16 3] 40))
  have HB3 := Aside0.mk (show ∀ x ∈ ([1, 2, 3] : List Int), 0 ≤ x ∧ x < 65536 from by decide)
  have HNE := Aside0.mk newE_awake
  have HVB := Aside0.mk vbytes_awake
  have hW8 : packed_Width_uint8.f 2 [5] = some 3 := by
    have h := V8.width_f [5] (by decide) (by simp)
    rw [width_awake] at h
    exact h
  have HW8 := Aside0.mk hW8
  clear hW8
  have hstr : strOfNums [3, 3, 209, 0] = (⟨#[3, 3, 209, 0]⟩ : ByteArray) := by decide +kernel
  go_enter Try.func11, Try.ntmps11
  go_wp2_with (first | (go_at_call 16; refine (V16.new_good 3 _ 3 [1, 2, 3] _ HC3.out (by simp) HB3.out (by simp) HNE.out).mono ?_; rintro e w1 ⟨g, rfl, hg, hV, hb⟩; have HV := Aside0.mk hV; clear hV hg; have n1_ := Aside0.mk (below_step HB.out hb); clear HB; have HB := n1_; clear n1_; clear hb) | (go_at_call 19; refine (V16.bytes_calls g 3 [1, 2, 3] _ HV.out (by decide) (by simp) HB3.out).mono ?_; rintro e w2 ⟨v2, rfl, ho, hb⟩; rw [HVB.out] at ho; obtain ⟨A2, c2, rfl⟩ := Kd.R_slice ho; have hcv := Kd.C_string (P := Try.prog) (A := A2) (c := c2) Try.underlying23 Try.underlying5 Try.underlying9 (Kd.R_reads' ho).2.2; rw [hstr] at hcv; simp only [List.length_cons, List.length_nil, Nat.reduceAdd] at hcv; have n0_ := Aside0.mk (HV.out.below hb); clear HV ho; have HV := n0_; clear n0_; have n1_ := Aside0.mk (below_step HB.out hb); clear HB; have HB := n1_; clear n1_; clear hb) | (go_at_call 30; refine (V16.get_calls g 3 [1, 2, 3] 1 _ HV.out).mono ?_; rintro e w3 ⟨rfl, rfl⟩; have HC5 := Aside0.mk (C_new w3 .u8 5 (0, 0) [5] (by simp)); have n1_ := Aside0.mk (below_alloc HB.out (.cells #[.int .u8 5] 5)); clear HB; have HB := n1_; clear n1_) | (go_at_call 41; refine (packed_Width_uint8.calls 2 _ 1 [5] 3 _ HC5.out (by simp) HW8.out).mono ?_; rintro e w4 ⟨rfl, hb⟩; have n1_ := Aside0.mk (below_step HB.out hb); clear HB; have HB := n1_; clear n1_; clear hb))
  go_ret
  exact ⟨rfl, HB.out⟩
end Go.Proofs.Ytolncaccemfbdaa.Hand

/- concordancelaw6.PackedWidths, walked by hand: a width that does holds every number, and one less does not hold the greatest. -/
namespace Go.Proofs.Ytolncaccemfbdaa.Plain
open Go.RowKit Go.Proofs.YtolncaccemfbdaaW.PrintWords Go.Proofs.YtolncaccemfbdaaW.PrintLast Go.Proofs.YtolncaccemfbdaaW.PrintMore
set_option linter.unusedVariables false
set_option linter.unusedSimpArgs false
/-- The greatest of them. -/
def maxN (l : List Int) : Nat := l.foldl (fun m x => max m x.toNat) 0
theorem maxN_snoc (l : List Int) (x : Int) : maxN (l ++ [x]) = max (maxN l) x.toNat := by simp [maxN]
theorem maxN_lt {l : List Int} {k : Nat} (hk : 0 < k) : maxN l < k ↔ ∀ x ∈ l, x.toNat < k := by
  have h : ∀ (l : List Int) (m : Nat), l.foldl (fun m x => max m x.toNat) m < k ↔ m < k ∧ ∀ x ∈ l, x.toNat < k := by
    intro l
    induction l with
    | nil => intro m; simp
    | cons y l ih =>
      intro m
      rw [List.foldl_cons, ih]
      simp only [List.mem_cons, forall_eq_or_imp, Nat.max_lt, and_assoc]
  unfold maxN
  rw [h]
  simp [hk]
theorem widthL_64 {l : List Int} (hb : ∀ x ∈ l, 0 ≤ x ∧ x < 18446744073709551616) : widthL l ≤ 64 := widthL_le.2 fun x hx => Lib.bitLen_le _ 64 (Nat.le_refl _) (by have := hb x hx; omega)
theorem top_lt {l : List Int} (hb : ∀ x ∈ l, 0 ≤ x ∧ x < 18446744073709551616) : maxN l < 2 ^ widthL l := by
  rw [maxN_lt (Nat.two_pow_pos _)]
  intro x hx
  have h1 := bitLen_pow (x := x.toNat) (by have := hb x hx; omega)
  exact Nat.lt_of_lt_of_le h1 (Nat.pow_le_pow_right (by decide) (widthL_le.1 (Nat.le_refl _) x hx))
theorem top_ge {l : List Int} (hb : ∀ x ∈ l, 0 ≤ x ∧ x < 18446744073709551616) (h0 : widthL l ≠ 0) : 2 ^ (widthL l - 1) ≤ maxN l := by
  rcases Nat.lt_or_ge (maxN l) (2 ^ (widthL l - 1)) with h | h
  · have h1 := (maxN_lt (Nat.two_pow_pos _)).1 h
    have h64 := widthL_64 hb
    have h2 : widthL l ≤ widthL l - 1 := widthL_le.2 fun x hx => Lib.bitLen_le _ _ (by omega) (h1 x hx)
    omega
  · exact h
/-- What the last line asks. -/
theorem top_shift {l : List Int} (hb : ∀ x ∈ l, 0 ≤ x ∧ x < 18446744073709551616) : maxN l / 2 ^ widthL l = 0 ∧ (widthL l ≠ 0 → maxN l / 2 ^ (widthL l - 1) = 1) := by
  refine ⟨Nat.div_eq_of_lt (top_lt hb), fun h0 => ?_⟩
  have h1 := top_lt hb
  have h2 := top_ge hb h0
  have e : 2 ^ widthL l = 2 * 2 ^ (widthL l - 1) := by rw [Nat.mul_comm, ← Nat.pow_succ, show (widthL l - 1).succ = widthL l from by omega]
  rw [e] at h1
  have hp := Nat.two_pow_pos (widthL l - 1)
  exact Nat.div_eq_of_lt_le (by omega) (by omega)
end Go.Proofs.Ytolncaccemfbdaa.Plain
namespace Go.Proofs.Ytolncaccemfbdaa.Hand
open Go.RowKit Go.Proofs.YtolncaccemfbdaaW.PrintWords Go.Proofs.YtolncaccemfbdaaW.PrintLast Go.Proofs.YtolncaccemfbdaaW.PrintMore
open Go.Proofs.Ytolncaccemfbdaa.Plain Go.Proofs.Ytolncaccemfbdaa.PPk
attribute [local go_sem] max2_int min2_int max_two min_two
set_option linter.unusedVariables false
set_option linter.unusedSimpArgs false
set_option maxHeartbeats 8000000 in
set_option maxRecDepth 100000 in
theorem widths_walk (A0 : Option Addr) (c0 : Nat) (l : List Int) (w : World) (hr0 : Kd.C (Kd.int .u64) w A0 l.length l) (hc0 : l.length ≤ c0) (_y0 : l.length * 8 ≤ 140737488351232) (hw0 : ∀ n ∈ l, (Lit.int .u64 n).wf = true) :
    Calls Try.prog 5 #[.slice A0 l.length c0] w fun e w' => e = .returned (.bool true) ∧ Below w.heap.size w w' := by
  have hbl : ∀ x ∈ l, 0 ≤ x ∧ x < 18446744073709551616 := fun x hx => by have := wf_u64 (hw0 x hx); omega
  have HBL := Aside0.mk hbl
  have HR0 := Aside0.mk hr0
  have HB := Aside0.mk (Below.refl w.heap.size w)
  clear hw0 hr0 _y0
  by_cases k1 : 500 < l.length
  · have d1 : decide (500 < (l.length : Int)) = true := decide_eq_true (by omega)
    clear hbl
    go_enter Try.func5, Try.ntmps5
    go_wp2_with (first | (go_at_call 11; refine (awake6_calls _).mono ?_; rintro e w9 ⟨rfl, hb⟩; have n1_ := Aside0.mk (below_step HB.out hb); clear HB hb; have HB := n1_; clear n1_))
    go_ret
    exact ⟨rfl, HB.out⟩
  have d1 : decide (500 < (l.length : Int)) = false := decide_eq_false (by omega)
  have hwf := V64.width_f l hbl (by omega)
  have h64 := widthL_64 hbl
  have hsh := top_shift hbl
  have hne : newE (widthL l : Int) l = 0 := newE_of (by omega) (by omega) (Int.le_refl _) (by omega)
  have hnb : newE ((widthL l : Int) - 1) l = 1 := by
    unfold newE
    rw [if_pos (.inr (.inr (by omega)))]
  have HL6 := Aside0.mk (show l.length ≤ 1000000 by omega)
  have HL5 := Aside0.mk (show l.length ≤ 500 by omega)
  have htl := top_lt hbl
  obtain ⟨m, em⟩ : ∃ m, widthL l = m := ⟨_, rfl⟩
  obtain ⟨T, eT⟩ : ∃ T, maxN l = T := ⟨_, rfl⟩
  rw [em] at hwf h64 hsh hne hnb
  rw [eT] at hsh
  have HWF := Aside0.mk hwf
  have HNE := Aside0.mk hne
  have HNB := Aside0.mk hnb
  have HSH := Aside0.mk hsh
  have HET := Aside0.mk eT
  have H64 := Aside0.mk h64
  clear hwf hne hnb hsh eT em h64 hbl k1 htl
  go_enter Try.func5, Try.ntmps5
  go_wp2_with (first | (go_at_call 13; refine (packed_Width_uint64.calls _ _ _ _ _ _ (Kd.C_below HR0.out HB.out) hc0 HWF.out).mono ?_; rintro e w1 ⟨rfl, hb⟩; have n1_ := Aside0.mk (below_step HB.out hb); clear HB hb; have HB := n1_; clear n1_))
  go_loopg [4, 5] 501 (fun kq v4 v5 w' => ∃ i : Nat, v5 = .int .i64 (i : Int) ∧ v4 = .int .u64 ((maxN (l.take i) : Nat) : Int) ∧ Aside0 (i ≤ l.length ∧ l.length - i ≤ kq) ∧ w' = w1)
  case atStart => exact ⟨0, rfl, rfl, ⟨by omega, by have := HL5.out; omega⟩, rfl⟩
  case round =>
    obtain ⟨i, rfl, rfl, HI, rfl⟩ := hrel
    have hi5 : i ≤ 500 := by have := HI.out; have := HL5.out; omega
    by_cases k2 : i < l.length
    · have d2 : decide ((i : Int) < (l.length : Int)) = true := decide_eq_true (by omega)
      obtain ⟨ad, rfl, hcell⟩ := Kd.at_int (Kd.C_below HR0.out HB.out) (i : Int) (by omega) (by omega)
      rw [Int.toNat_natCast, rd_at l i k2] at hcell
      have hxb := HBL.out _ (List.getElem_mem k2)
      have hmx : max (maxN (l.take i)) (l[i]).toNat = maxN (l.take (i + 1)) := by rw [List.take_succ_eq_append_getElem k2, maxN_snoc]
      obtain ⟨x, hx⟩ := Int.eq_ofNat_of_zero_le hxb.1
      rw [hx] at hcell hmx
      rw [Int.toNat_natCast] at hmx
      obtain ⟨a, ea⟩ : ∃ a, maxN (l.take i) = a := ⟨_, rfl⟩
      rw [ea] at hmx ⊢
      have HMX := Aside0.mk hmx
      have HK2 := Aside0.mk k2
      clear hxb hx ea hmx
      by_cases k3 : a < x
      · have k3' : (a : Int) < (x : Int) := by omega
        go_wp2
        go_roundg (l.length - 1 - i)
        case measure => have := HI.out; have := HK2.out; omega
        case rel => exact ⟨i + 1, by go_num, by have := HMX.out; go_num, ⟨by have := HK2.out; omega, by omega⟩, rfl⟩
      · have k3' : ¬ (a : Int) < (x : Int) := by omega
        go_wp2
        go_roundg (l.length - 1 - i)
        case measure => have := HI.out; have := HK2.out; omega
        case rel => exact ⟨i + 1, by go_num, by have := HMX.out; go_num, ⟨by have := HK2.out; omega, by omega⟩, rfl⟩
    · have d2 : decide ((i : Int) < (l.length : Int)) = false := decide_eq_false (by omega)
      obtain rfl : i = l.length := by have := HI.out.1; omega
      rw [List.take_length, HET.out]
      have h64 := H64.out
      have hmw : wrap64 ((m : Int) - 1) = (m : Int) - 1 := w64 (by omega) (by omega)
      have hs0 : (T : Int) / 2 ^ m = 0 := by
        have h := HSH.out.1
        have e : (T : Int) / 2 ^ m = ((T / 2 ^ m : Nat) : Int) := by rw [Int.natCast_ediv, Int.natCast_pow]; rfl
        rw [e, h]
        rfl
      have hs0' : (T : Int) / 2 ^ min m 64 = 0 := by rw [Nat.min_eq_left (by omega)]; exact hs0
      by_cases k4 : m = 0
      · have k4b : ((m : Int) == 0) = true := beq_iff_eq.mpr (by omega)
        have k5b : ((m : Int) == 64) = false := beq_eq_false_iff_ne.mpr (by omega)
        clear k4
        go_wp2_with (first | ((with_reducible refine gate_callee (f := 14) rfl ?_); refine goesL_ (some 31) rfl rfl Try.func14 (by kernel_rfl) rfl #[.int .i64 (m : Int), .slice A0 l.length c0] rfl (by (try simp only [List.map_toArray, List.map_cons, List.map_nil]); first | done | rfl) ?_; refine (V64.new_good (m : Int) A0 c0 l _ (Kd.C_below HR0.out HB.out) hc0 HBL.out HL6.out HNE.out).mono ?_; rintro e w2 ⟨g, rfl, hg, hV, hb⟩; refine ⟨_, rfl, ?_⟩; clear hg hV; have n1_ := Aside0.mk (below_step HB.out hb); clear HB hb; have HB := n1_; clear n1_) | ((with_reducible refine gate_callee (f := 14) rfl ?_); refine goesL_ (some 38) rfl rfl Try.func14 (by kernel_rfl) rfl #[.int .i64 ((m : Int) - 1), .slice A0 l.length c0] rfl (by (try simp only [List.map_toArray, List.map_cons, List.map_nil]); first | done | rfl) ?_; refine (V64.new_bad ((m : Int) - 1) A0 c0 l _ (Kd.C_below HR0.out HB.out) hc0 HBL.out HL6.out 1 HNB.out (by decide)).mono ?_; rintro e w3 ⟨rfl, hb⟩; refine ⟨_, rfl, ?_⟩; have n1_ := Aside0.mk (below_step HB.out hb); clear HB hb; have HB := n1_; clear n1_) | (go_at_call 11; refine (awake6_calls _).mono ?_; rintro e w9 ⟨rfl, hb⟩; have n1_ := Aside0.mk (below_step HB.out hb); clear HB hb; have HB := n1_; clear n1_))
        go_ret
        exact ⟨rfl, HB.out⟩
      · have k4b : ((m : Int) == 0) = false := beq_eq_false_iff_ne.mpr (by omega)
        have hm1 : (0 ≤ (m : Int) - 1) = True := eq_true (by omega)
        have hm1d : decide (0 ≤ (m : Int) - 1) = true := decide_eq_true (by omega)
        have hm1n : ((m : Int) - 1).toNat = m - 1 := by omega
        have hs1 : (T : Int) / 2 ^ (m - 1) = 1 := by
          have h := HSH.out.2 k4
          have e : (T : Int) / 2 ^ (m - 1) = ((T / 2 ^ (m - 1) : Nat) : Int) := by rw [Int.natCast_ediv, Int.natCast_pow]; rfl
          rw [e, h]
          rfl
        have hs1' : (T : Int) / 2 ^ min (m - 1) 64 = 1 := by rw [Nat.min_eq_left (by omega)]; exact hs1
        by_cases k5 : m = 64
        · have k5b : ((m : Int) == 64) = true := beq_iff_eq.mpr (by omega)
          clear k5
          go_wp2_with (first | ((with_reducible refine gate_callee (f := 14) rfl ?_); refine goesL_ (some 31) rfl rfl Try.func14 (by kernel_rfl) rfl #[.int .i64 (m : Int), .slice A0 l.length c0] rfl (by (try simp only [List.map_toArray, List.map_cons, List.map_nil]); first | done | rfl) ?_; refine (V64.new_good (m : Int) A0 c0 l _ (Kd.C_below HR0.out HB.out) hc0 HBL.out HL6.out HNE.out).mono ?_; rintro e w2 ⟨g, rfl, hg, hV, hb⟩; refine ⟨_, rfl, ?_⟩; clear hg hV; have n1_ := Aside0.mk (below_step HB.out hb); clear HB hb; have HB := n1_; clear n1_) | ((with_reducible refine gate_callee (f := 14) rfl ?_); refine goesL_ (some 38) rfl rfl Try.func14 (by kernel_rfl) rfl #[.int .i64 ((m : Int) - 1), .slice A0 l.length c0] rfl (by (try simp only [List.map_toArray, List.map_cons, List.map_nil]); first | done | rfl) ?_; refine (V64.new_bad ((m : Int) - 1) A0 c0 l _ (Kd.C_below HR0.out HB.out) hc0 HBL.out HL6.out 1 HNB.out (by decide)).mono ?_; rintro e w3 ⟨rfl, hb⟩; refine ⟨_, rfl, ?_⟩; have n1_ := Aside0.mk (below_step HB.out hb); clear HB hb; have HB := n1_; clear n1_) | (go_at_call 11; refine (awake6_calls _).mono ?_; rintro e w9 ⟨rfl, hb⟩; have n1_ := Aside0.mk (below_step HB.out hb); clear HB hb; have HB := n1_; clear n1_))
          go_ret
          exact ⟨rfl, HB.out⟩
        · have k5b : ((m : Int) == 64) = false := beq_eq_false_iff_ne.mpr (by omega)
          clear k5
          go_wp2_with (first | ((with_reducible refine gate_callee (f := 14) rfl ?_); refine goesL_ (some 31) rfl rfl Try.func14 (by kernel_rfl) rfl #[.int .i64 (m : Int), .slice A0 l.length c0] rfl (by (try simp only [List.map_toArray, List.map_cons, List.map_nil]); first | done | rfl) ?_; refine (V64.new_good (m : Int) A0 c0 l _ (Kd.C_below HR0.out HB.out) hc0 HBL.out HL6.out HNE.out).mono ?_; rintro e w2 ⟨g, rfl, hg, hV, hb⟩; refine ⟨_, rfl, ?_⟩; clear hg hV; have n1_ := Aside0.mk (below_step HB.out hb); clear HB hb; have HB := n1_; clear n1_) | ((with_reducible refine gate_callee (f := 14) rfl ?_); refine goesL_ (some 38) rfl rfl Try.func14 (by kernel_rfl) rfl #[.int .i64 ((m : Int) - 1), .slice A0 l.length c0] rfl (by (try simp only [List.map_toArray, List.map_cons, List.map_nil]); first | done | rfl) ?_; refine (V64.new_bad ((m : Int) - 1) A0 c0 l _ (Kd.C_below HR0.out HB.out) hc0 HBL.out HL6.out 1 HNB.out (by decide)).mono ?_; rintro e w3 ⟨rfl, hb⟩; refine ⟨_, rfl, ?_⟩; have n1_ := Aside0.mk (below_step HB.out hb); clear HB hb; have HB := n1_; clear n1_) | (go_at_call 11; refine (awake6_calls _).mono ?_; rintro e w9 ⟨rfl, hb⟩; have n1_ := Aside0.mk (below_step HB.out hb); clear HB hb; have HB := n1_; clear n1_))
          go_ret
          exact ⟨rfl, HB.out⟩
end Go.Proofs.Ytolncaccemfbdaa.Hand
