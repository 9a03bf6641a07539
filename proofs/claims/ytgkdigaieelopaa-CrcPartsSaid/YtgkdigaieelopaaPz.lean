/- Plain facts on rows of bytes and on whole numbers of a kind, without any program. -/
import Derived.Laws.BitsAllLaws
import Derived.Laws.BitsLemmas
import Derived.Laws.BytesArg
import Derived.Test.YtgkdigaieelopaaWWords
import Derived.Test.YtgkdigaieelopaaWLast
import Derived.Test.YtgkdigaieelopaaWMore
namespace Go.Proofs.Ytgkdigaieelopaa.Plain
open Go.RowKit Go.Proofs.YtgkdigaieelopaaW.PrintWords Go.Proofs.YtgkdigaieelopaaW.PrintLast Go.Proofs.YtgkdigaieelopaaW.PrintMore
set_option linter.unusedVariables false
set_option linter.unusedSimpArgs false

def isB (l : List Int) : Prop := ∀ x ∈ l, 0 ≤ x ∧ x < 256
theorem w64 {x : Int} (h0 : -9223372036854775808 ≤ x) (h1 : x < 9223372036854775808) : wrap64 x = x := by unfold wrap64; omega
theorem wrap_u64 (n : Int) : IntKind.u64.wrap n = n % 18446744073709551616 := by simp [IntKind.wrap, IntKind.bits, IntKind.signed]
theorem rd_at (l : List Int) (i : Nat) (h : i < l.length) : rd l (i : Int) = l[i] := by
  unfold rd
  rw [Int.toNat_natCast, List.getD_eq_getElem?_getD, List.getElem?_eq_getElem h]
  rfl

theorem isB_drop {l : List Int} (h : isB l) (i : Nat) : isB (l.drop i) := fun x hx => h x (List.mem_of_mem_drop hx)
theorem isB_take {l : List Int} (h : isB l) (i : Nat) : isB (l.take i) := fun x hx => h x (List.mem_of_mem_take hx)
theorem isB_append {l r : List Int} (h : isB l) (h' : isB r) : isB (l ++ r) := fun x hx => (List.mem_append.1 hx).elim (h x) (h' x)
theorem isB_bytesOf (s : ByteArray) : isB (bytesOf s) := by
  intro x hx
  obtain ⟨b, _, rfl⟩ := List.mem_map.1 hx
  have := b.toNat_lt
  omega
theorem bytesOf_strOfNums {l : List Int} (h : isB l) : bytesOf (strOfNums l) = l := by
  unfold bytesOf
  rw [strOfNums_data, List.map_map]
  conv => rhs; rw [← List.map_id l]
  refine List.map_congr_left fun x hx => ?_
  have := h x hx
  show (((UInt8.ofNat x.toNat).toNat : Nat) : Int) = x
  rw [UInt8.toNat_ofNat']
  omega
theorem strOfNums_inj {l r : List Int} (h : isB l) (h' : isB r) (e : (strOfNums l).toList = (strOfNums r).toList) : l = r := by
  have := congrArg (fun s : List UInt8 => s.map fun b => (b.toNat : Int)) e
  rw [ByteArray.toList_eq, ByteArray.toList_eq] at this
  have e2 : bytesOf (strOfNums l) = bytesOf (strOfNums r) := this
  rwa [bytesOf_strOfNums h, bytesOf_strOfNums h'] at e2
theorem strOfNums_append (l r : List Int) : strOfNums l ++ strOfNums r = strOfNums (l ++ r) := by
  apply ByteArray.ext
  rw [ByteArray.data_append]
  apply Array.ext'
  simp [strOfNums]

theorem wf_i64 {a : Int} (h : (Lit.int .i64 a).wf = true) : -9223372036854775808 ≤ a ∧ a < 9223372036854775808 := by
  have h : IntKind.i64.min ≤ a ∧ a ≤ IntKind.i64.max := by simpa [Lit.wf] using h
  rw [show IntKind.i64.min = -9223372036854775808 from by decide, show IntKind.i64.max = 9223372036854775807 from by decide] at h
  omega
theorem wf_u64 {a : Int} (h : (Lit.int .u64 a).wf = true) : 0 ≤ a ∧ a < 18446744073709551616 := by
  have h : IntKind.u64.min ≤ a ∧ a ≤ IntKind.u64.max := by simpa [Lit.wf] using h
  rw [show IntKind.u64.min = 0 from by decide, show IntKind.u64.max = 18446744073709551615 from by decide] at h
  omega
theorem wf_u8 {a : Int} (h : (Lit.int .u8 a).wf = true) : 0 ≤ a ∧ a < 256 := by
  have h : IntKind.u8.min ≤ a ∧ a ≤ IntKind.u8.max := by simpa [Lit.wf] using h
  rw [show IntKind.u8.min = 0 from by decide, show IntKind.u8.max = 255 from by decide] at h
  omega

theorem wf_u32 {a : Int} (h : (Lit.int .u32 a).wf = true) : 0 ≤ a ∧ a < 4294967296 := by
  have h : IntKind.u32.min ≤ a ∧ a ≤ IntKind.u32.max := by simpa [Lit.wf] using h
  rw [show IntKind.u32.min = 0 from by decide, show IntKind.u32.max = 4294967295 from by decide] at h
  omega
/-- A row of low bits, taken out of a whole number. -/
theorem and_low (a : Int) (j : Nat) (hj : j < 63) : Go.bits .and .i64 a ((2 ^ j - 1 : Nat) : Int) = a % ((2 ^ j : Nat) : Int) := by
  show IntKind.i64.wrap ((BitVec.ofInt 64 a &&& BitVec.ofInt 64 ((2 ^ j - 1 : Nat) : Int)).toNat : Int) = _
  have hp : 2 ^ j ≤ 2 ^ 62 := Nat.pow_le_pow_right (by omega) (by omega)
  have hp0 : 0 < 2 ^ j := Nat.pow_pos (by omega)
  have e : (BitVec.ofInt 64 a &&& BitVec.ofInt 64 ((2 ^ j - 1 : Nat) : Int)).toNat = (a % 18446744073709551616).toNat % 2 ^ j := by
    rw [BitVec.toNat_and, BitVec.toNat_ofInt, Go.ofInt_u64 _ (by omega)]
    exact Nat.and_two_pow_sub_one_eq_mod _ j
  have hd : (2 : Int) ^ 64 = ((2 ^ j : Nat) : Int) * ((2 ^ (64 - j) : Nat) : Int) := by
    rw [← Int.natCast_mul, ← Nat.pow_add, show j + (64 - j) = 64 from by omega]
    rfl
  have hm : a % 18446744073709551616 % ((2 ^ j : Nat) : Int) = a % ((2 ^ j : Nat) : Int) := by
    refine Int.emod_emod_of_dvd a ⟨((2 ^ (64 - j) : Nat) : Int), ?_⟩
    rw [← hd]
    rfl
  have h0 : 0 ≤ a % ((2 ^ j : Nat) : Int) := Int.emod_nonneg _ (by omega)
  have h1 : a % ((2 ^ j : Nat) : Int) < ((2 ^ j : Nat) : Int) := Int.emod_lt_of_pos _ (by omega)
  rw [e]
  have e2 : (((a % 18446744073709551616).toNat % 2 ^ j : Nat) : Int) = a % ((2 ^ j : Nat) : Int) := by
    rw [Int.natCast_emod, Int.toNat_of_nonneg (by omega), hm]
  rw [e2, Go.IntKind.wrap_i64]
  generalize a % ((2 ^ j : Nat) : Int) = q at h0 h1
  generalize 2 ^ j = p at hp h1
  omega
end Go.Proofs.Ytgkdigaieelopaa.Plain
