/- What the printed num.Take, the document's Take, num.Size and awake tell, in plain words. -/
import Derived.Test.YtpcjdgmjlnlfgaaPNumx4
import Derived.Test.YtpcjdgmjlnlfgaaPNumx17
import Derived.Test.YtpcjdgmjlnlfgaaPNumx13
import Derived.Test.YtpcjdgmjlnlfgaaPNumx7
import Derived.Test.YtpcjdgmjlnlfgaaPNumx15
import Derived.Test.YtpcjdgmjlnlfgaaPNumx8
import Derived.Test.YtpcjdgmjlnlfgaaPa
import Derived.Test.YtpcjdgmjlnlfgaaHb
namespace Go.Proofs.Ytpcjdgmjlnlfgaa.Plain
open Go.RowKit Go.Proofs.YtpcjdgmjlnlfgaaW.PrintWords Go.Proofs.YtpcjdgmjlnlfgaaW.PrintLast Go.Proofs.YtpcjdgmjlnlfgaaW.PrintMore
open Go.Proofs.Ytpcjdgmjlnlfgaa.PNum Go.Proofs.Ytpcjdgmjlnlfgaa.Hand
set_option linter.unusedVariables false
set_option linter.unusedSimpArgs false

def isB (l : List Int) : Prop := ∀ x ∈ l, 0 ≤ x ∧ x < 256
theorem w64 {x : Int} (h0 : -9223372036854775808 ≤ x) (h1 : x < 9223372036854775808) : wrap64 x = x := by unfold wrap64; omega
theorem wrap_u64 (n : Int) : IntKind.u64.wrap n = n % 18446744073709551616 := by simp [IntKind.wrap, IntKind.bits, IntKind.signed]
theorem rd_at (l : List Int) (i : Nat) (h : i < l.length) : rd l (i : Int) = l[i] := by
  unfold rd
  rw [Int.toNat_natCast, List.getD_eq_getElem?_getD, List.getElem?_eq_getElem h]
  rfl

theorem shl7 (x i : Nat) (hi : i ≤ 9) (hx : x * 128 ^ i < 18446744073709551616) : shl .u64 (x : Int) (7 * (i : Int)) = ((x * 128 ^ i : Nat) : Int) := by
  unfold shl
  rw [show IntKind.u64.bits = 64 from rfl, show min (7 * (i : Int)).toNat 64 = 7 * i from by omega]
  have e : (2 : Nat) ^ (7 * i) = 128 ^ i := by rw [Nat.pow_mul]
  rw [show (2 : Int) ^ (7 * i) = ((128 ^ i : Nat) : Int) from by rw [← e, Int.natCast_pow]; rfl, ← Int.natCast_mul, wrap_u64]
  omega
theorem and127 (c : Nat) (hc : c < 256) : Go.bits .and .u8 (c : Int) 127 = ((c % 128 : Nat) : Int) := by
  rw [show (127 : Int) = ((127 : Nat) : Int) from rfl, Go.u8_and_nat _ 127 hc (by omega), Go.nat_mask7]
theorem or_join (n x i : Nat) (hn : n < 128 ^ i) (h : n + x * 128 ^ i < 18446744073709551616) : Go.bits .or .u64 (n : Int) ((x * 128 ^ i : Nat) : Int) = ((n + x * 128 ^ i : Nat) : Int) := by
  rw [Go.u64_or_nat _ _ (by omega) (by omega), Nat.or_comm]
  congr 1
  rw [show 128 ^ i = 2 ^ (7 * i) from by rw [Nat.pow_mul]] at *
  rw [Go.nat_join (7 * i) _ _ (Nat.mul_mod_left _ _) hn, Nat.add_comm]

/-- One group more, as the machine reckons it. -/
theorem take_or (n c i : Nat) (hi : i ≤ 9) (hn : n < 128 ^ i) (hc : c < 256) (h9 : i = 9 → c ≤ 1) :
    Go.bits .or .u64 (n : Int) (shl .u64 (IntKind.u64.wrap (Go.bits .and .u8 (c : Int) 127)) (7 * (i : Int))) = ((n + c % 128 * 128 ^ i : Nat) : Int) := by
  have hb : n + c % 128 * 128 ^ i < 18446744073709551616 := by
    rcases Nat.lt_or_ge i 9 with h | h
    · have h1 : c % 128 * 128 ^ i ≤ 127 * 128 ^ i := Nat.mul_le_mul_right _ (by omega)
      have h2 : 128 ^ i ≤ 128 ^ 8 := Nat.pow_le_pow_right (by omega) (by omega)
      have e : (128 : Nat) ^ 8 = 72057594037927936 := by decide
      rw [e] at h2
      omega
    · have : i = 9 := by omega
      subst this
      have h1 := h9 rfl
      have e : (128 : Nat) ^ 9 = 9223372036854775808 := by decide
      rw [e] at hn ⊢
      have : c % 128 ≤ 1 := by omega
      have : c % 128 * 9223372036854775808 ≤ 1 * 9223372036854775808 := Nat.mul_le_mul_right _ this
      omega
  rw [and127 c hc, wrap_u64, show ((c % 128 : Nat) : Int) % 18446744073709551616 = ((c % 128 : Nat) : Int) from by omega, shl7 _ _ hi (by omega), or_join _ _ _ hn hb]

theorem take_next (n c i : Nat) (hi : i < 9) (hn : n < 128 ^ i) : n + c % 128 * 128 ^ i < 128 ^ (i + 1) := by
  have e2 : 128 ^ (i + 1) = 128 * 128 ^ i := by rw [Nat.pow_succ, Nat.mul_comm]
  have : c % 128 * 128 ^ i ≤ 127 * 128 ^ i := Nat.mul_le_mul_right _ (by omega)
  omega

theorem num_take_l0 (l : List Int) (hb : isB l) : ∀ (d i n k : Nat), i + d = 10 → i ≤ 9 → n < 128 ^ i → i ≤ l.length → 2 * d < k →
    num_Take.l0 k l (n : Int) (i : Int) = some (takeL i n (l.drop i)) := by
  intro d
  induction d with
  | zero =>
    intro i n k hd hi hn hl hk
    omega
  | succ d ih =>
    intro i n k hd hi hn hl hk
    obtain ⟨k, rfl⟩ : ∃ m, k = m + 1 := ⟨k - 1, by omega⟩
    obtain ⟨k, rfl⟩ : ∃ m, k = m + 1 := ⟨k - 1, by omega⟩
    simp only [num_Take.l0]
    rw [if_pos (by omega)]
    by_cases h1 : (i : Int) ≥ (l.length : Int)
    · rw [if_pos h1, List.drop_of_length_le (by omega)]
      rfl
    · have hlt : i < l.length := by omega
      rw [if_neg h1, if_pos (by omega), if_pos (by omega), List.drop_eq_getElem_cons hlt, rd_at l i hlt]
      obtain ⟨c, hc⟩ := Int.eq_ofNat_of_zero_le (hb l[i] (List.getElem_mem hlt)).1
      have hc2 := (hb l[i] (List.getElem_mem hlt)).2
      rw [hc] at hc2 ⊢
      simp only [takeL]
      have e1 : wrap64 (7 * (i : Int)) = 7 * (i : Int) := w64 (by omega) (by omega)
      have e2 : wrap64 ((i : Int) + 1) = ((i + 1 : Nat) : Int) := by rw [w64 (by omega) (by omega)]; omega
      by_cases h9 : i = 9 ∧ (c : Int) > 1
      · rw [if_pos h9, if_pos (by omega)]
        simp only [num_Take.j1]
        rw [if_pos (by simpa using h9.2)]
      · rw [if_neg h9]
        have hj : ∀ b : Bool, b = false → num_Take.j1 (k + 1) l (n : Int) (i : Int) (c : Int) (i : Int) b = some (if (c : Int) < 128 then (if (c : Int) = 0 ∧ i > 0 then (0, 0, 3) else (((n + (c : Int).toNat * 128 ^ i : Nat) : Int), (i : Int) + 1, 0)) else takeL (i + 1) (n + (c : Int).toNat % 128 * 128 ^ i) (l.drop (i + 1))) := by
          rintro _ rfl
          simp only [num_Take.j1]
          rw [if_neg (by decide), e1, e2, if_pos (by omega), take_or n c i (by omega) hn (by omega) (by omega), Int.toNat_natCast]
          by_cases h2 : (c : Int) < 128
          · rw [if_pos h2, if_pos h2]
            by_cases h3 : (c : Int) = 0
            · rw [if_pos h3]
              by_cases h4 : (i : Int) > 0
              · rw [if_pos h4, if_pos ⟨h3, by omega⟩]
              · rw [if_neg h4, if_neg (by omega), show c % 128 = c from by omega]
                rfl
            · rw [if_neg h3, if_neg (by omega), show c % 128 = c from by omega]
              rfl
          · rw [if_neg h2, if_neg h2]
            have hi9 : i < 9 := by omega
            exact ih (i + 1) _ k (by omega) (by omega) (take_next n c i hi9 hn) (by omega) (by omega)
        by_cases h5 : (i : Int) = 9
        · rw [if_pos h5]
          exact hj _ (by simp; omega)
        · rw [if_neg h5]
          exact hj _ rfl
/-- num.Take tells what the bytes begin with. -/
theorem num_take (l : List Int) (hb : isB l) {k : Nat} (hk : 21 ≤ k) : num_Take.f k l = some (takeT l) := by
  have := num_take_l0 l hb 10 0 0 k (by omega) (by omega) (by simp) (by omega) (by omega)
  rw [List.drop_zero] at this
  exact this

theorem isB_drop {l : List Int} (h : isB l) (i : Nat) : isB (l.drop i) := fun x hx => h x (List.mem_of_mem_drop hx)
theorem isB_take {l : List Int} (h : isB l) (i : Nat) : isB (l.take i) := fun x hx => h x (List.mem_of_mem_take hx)
theorem isB_append {l r : List Int} (h : isB l) (h' : isB r) : isB (l ++ r) := fun x hx => (List.mem_append.1 hx).elim (h x) (h' x)
theorem isB_bytesOf (s : ByteArray) : isB (bytesOf s) := by
  intro x hx
  obtain ⟨b, _, rfl⟩ := List.mem_map.1 hx
  have := b.toNat_lt
  omega
theorem bytesOf_strOfNums {l : List Int} (h : isB l) : bytesOf (strOfNums l) = l := by
  unfold bytesOf
  rw [strOfNums_data, List.map_map]
  conv => rhs; rw [← List.map_id l]
  refine List.map_congr_left fun x hx => ?_
  have := h x hx
  show (((UInt8.ofNat x.toNat).toNat : Nat) : Int) = x
  rw [UInt8.toNat_ofNat']
  omega
theorem strOfNums_inj {l r : List Int} (h : isB l) (h' : isB r) (e : (strOfNums l).toList = (strOfNums r).toList) : l = r := by
  have := congrArg (fun s : List UInt8 => s.map fun b => (b.toNat : Int)) e
  rw [ByteArray.toList_eq, ByteArray.toList_eq] at this
  have e2 : bytesOf (strOfNums l) = bytesOf (strOfNums r) := this
  rwa [bytesOf_strOfNums h, bytesOf_strOfNums h'] at e2
theorem strOfNums_append (l r : List Int) : strOfNums l ++ strOfNums r = strOfNums (l ++ r) := by
  apply ByteArray.ext
  rw [ByteArray.data_append]
  apply Array.ext'
  simp [strOfNums]

theorem ref_take_l0 (s : ByteArray) (hs : s.size ≤ 9223372036854775807) : ∀ (d i n k : Nat), i + d = 10 → i ≤ 9 → n < 128 ^ i → i ≤ s.size → 2 * d < k →
    concordanceref1_Take.l0 k s (n : Int) (i : Int) = some (takeL i n ((bytesOf s).drop i)) := by
  intro d
  have hb := isB_bytesOf s
  have hlen := bytesOf_length s
  have hbt := rd_bytesOf s
  generalize bytesOf s = l at hb hlen hbt ⊢
  have hsz : ∀ _ : Unit, s.size = l.length := fun _ => hlen.symm
  rw [hsz ()]
  clear hlen hs
  induction d with
  | zero =>
    intro i n k hd hi hn hl hk
    omega
  | succ d ih =>
    intro i n k hd hi hn hl hk
    obtain ⟨k, rfl⟩ : ∃ m, k = m + 1 := ⟨k - 1, by omega⟩
    obtain ⟨k, rfl⟩ : ∃ m, k = m + 1 := ⟨k - 1, by omega⟩
    simp only [concordanceref1_Take.l0]
    rw [hsz (), if_pos (by omega)]
    by_cases h1 : (i : Int) ≥ (l.length : Int)
    · rw [if_pos h1, List.drop_of_length_le (by omega)]
      rfl
    · have hlt : i < l.length := by omega
      rw [if_neg h1, if_pos (by omega), if_pos (by omega), List.drop_eq_getElem_cons hlt, ← hbt, rd_at _ i hlt]
      obtain ⟨c, hc⟩ := Int.eq_ofNat_of_zero_le (hb _ (List.getElem_mem hlt)).1
      have hc2 := (hb _ (List.getElem_mem hlt)).2
      rw [hc] at hc2 ⊢
      simp only [takeL]
      rw [wrap_u64, show (c : Int) % 18446744073709551616 = (c : Int) from by omega]
      have e1 : wrap64 (7 * (i : Int)) = 7 * (i : Int) := w64 (by omega) (by omega)
      have e2 : wrap64 ((i : Int) + 1) = ((i + 1 : Nat) : Int) := by rw [w64 (by omega) (by omega)]; omega
      by_cases h9 : i = 9 ∧ (c : Int) > 1
      · have h99 : (i : Int) = 9 := by rw [h9.1]; rfl
        rw [if_pos h9, if_pos h99]
        simp only [concordanceref1_Take.j1]
        rw [if_pos (by simpa using h9.2)]
      · rw [if_neg h9]
        have hj : ∀ b : Bool, b = false → concordanceref1_Take.j1 (k + 1) s (n : Int) (i : Int) (c : Int) b = some (if (c : Int) < 128 then (if (c : Int) = 0 ∧ i > 0 then (0, 0, 3) else (((n + (c : Int).toNat * 128 ^ i : Nat) : Int), (i : Int) + 1, 0)) else takeL (i + 1) (n + (c : Int).toNat % 128 * 128 ^ i) (l.drop (i + 1))) := by
          rintro _ rfl
          have hor := take_or n c i (by omega) hn (by omega) (by omega)
          rw [and127 c (by omega), wrap_u64, show ((c % 128 : Nat) : Int) % 18446744073709551616 = ((c % 128 : Nat) : Int) from by omega] at hor
          have h127 : Go.bits .and .u64 (c : Int) 127 = ((c % 128 : Nat) : Int) := by
            rw [show (127 : Int) = ((127 : Nat) : Int) from rfl, Go.u64_and_nat _ 127 (by omega) (by omega), Go.nat_mask7]
          simp only [concordanceref1_Take.j1]
          rw [if_neg (by decide), e1, e2, if_pos (by omega), h127, hor, Int.toNat_natCast]
          by_cases h2 : (c : Int) < 128
          · rw [if_pos h2, if_pos h2]
            by_cases h3 : (i : Int) > 0
            · rw [if_pos h3]
              by_cases h4 : (c : Int) = 0
              · rw [if_pos h4, if_pos ⟨h4, by omega⟩]
              · rw [if_neg h4, if_neg (by omega), show c % 128 = c from by omega]
                rfl
            · rw [if_neg h3, if_neg (by omega), show c % 128 = c from by omega]
              rfl
          · rw [if_neg h2, if_neg h2]
            have hi9 : i < 9 := by omega
            exact ih (i + 1) _ k (by omega) (by omega) (take_next n c i hi9 hn) (by omega) (by omega)
        by_cases h5 : (i : Int) = 9
        · rw [if_pos h5]
          exact hj _ (by simp; omega)
        · rw [if_neg h5]
          exact hj _ rfl
/-- The document's Take tells the same. -/
theorem ref_take (s : ByteArray) (hs : s.size ≤ 9223372036854775807) {k : Nat} (hk : 21 ≤ k) : concordanceref1_Take.f k s = some (takeT (bytesOf s)) := by
  have := ref_take_l0 s hs 10 0 0 k (by omega) (by omega) (by simp) (by omega) (by omega)
  rw [List.drop_zero] at this
  exact this
theorem ref_take_nums {l : List Int} (h : isB l) (hs : l.length ≤ 9223372036854775807) {k : Nat} (hk : 21 ≤ k) : concordanceref1_Take.f k (strOfNums l) = some (takeT l) := by
  rw [ref_take _ (by rw [strOfNums_size]; exact hs) hk, bytesOf_strOfNums h]

theorem size_l0 : ∀ (k : Nat) (x c : Int), 0 ≤ x → (encN x.toNat).length ≤ k → 0 ≤ c → c + k < 1000 → num_Size.l0 k x c = some (c + (encN x.toNat).length - 1) := by
  intro k
  induction k with
  | zero =>
    intro x c hx hl hc hk
    have := encN_pos x.toNat
    omega
  | succ k ih =>
    intro x c hx hl hc hk
    simp only [num_Size.l0]
    by_cases h : x ≥ 128
    · rw [if_pos h, w64 (by omega) (by omega), encN_step h]
      rw [encN_step h] at hl
      rw [ih (x / 128) (c + 1) (by omega) (by simpa using hl) (by omega) (by omega)]
      simp only [List.length_cons]
      congr 1
      omega
    · rw [if_neg h, encN_last hx (by omega)]
      simp
/-- num.Size: as many bytes as the number's encoding has. -/
theorem size_tells {x : Int} (h0 : 0 ≤ x) (h1 : x < 18446744073709551616) {k : Nat} (hk : 10 ≤ k) : num_Size.f k x = some ((encN x.toNat).length : Int) := by
  refine at_rounds (g := fun k => num_Size.f k x) (num_Size.mono (a0 := x)) hk ?_
  show num_Size.l0 10 x 1 = _
  rw [size_l0 10 x 1 h0 (encN_len64 (by omega)) (by omega) (by omega)]
  congr 1
  omega

theorem ref_num_l0 : ∀ (k : Nat) (x : Int) (acc : List Int), 0 ≤ x → (encN x.toNat).length ≤ k → acc.length + k < 1000 → concordanceref1_Num.l0 k x acc = some (strOfNums (acc ++ encN x.toNat)) := by
  intro k
  induction k with
  | zero =>
    intro x acc hx hl hk
    have := encN_pos x.toNat
    omega
  | succ k ih =>
    intro x acc hx hl hk
    simp only [concordanceref1_Num.l0]
    by_cases h : x > 127
    · rw [if_pos h, if_pos (by omega), encN_step (by omega)]
      rw [encN_step (by omega)] at hl
      rw [ih (x / 128) _ (by omega) (by simpa using hl) (by simp; omega)]
      rw [List.append_assoc]
      rfl
    · rw [if_neg h, if_pos (by omega), encN_last hx (by omega)]
/-- The document's Num: the encoding. -/
theorem ref_num {x : Int} (h0 : 0 ≤ x) (h1 : x < 18446744073709551616) {k : Nat} (hk : 10 ≤ k) : concordanceref1_Num.f k x = some (strOfNums (encN x.toNat)) := by
  refine at_rounds (g := fun k => concordanceref1_Num.f k x) (concordanceref1_Num.mono (a0 := x)) hk ?_
  show concordanceref1_Num.l0 10 x [] = _
  rw [ref_num_l0 10 x [] h0 (encN_len64 (by omega)) (by simp)]
  rfl

theorem xor_ones {x : Int} (h0 : 0 ≤ x) (h1 : x < 18446744073709551616) : Go.bits .xor .u64 x 18446744073709551615 = 18446744073709551615 - x := by
  obtain ⟨n, rfl⟩ := Int.eq_ofNat_of_zero_le h0
  show IntKind.u64.wrap ((BitVec.ofInt 64 (n : Int) ^^^ BitVec.ofInt 64 18446744073709551615).toNat : Int) = _
  rw [show BitVec.ofInt 64 18446744073709551615 = BitVec.allOnes 64 from by decide, BitVec.xor_allOnes, BitVec.toNat_not, Go.ofInt_u64 n (by omega), wrap_u64]
  omega
theorem xor_none {x : Int} (h0 : 0 ≤ x) (h1 : x < 18446744073709551616) : Go.bits .xor .u64 x 0 = x := by
  obtain ⟨n, rfl⟩ := Int.eq_ofNat_of_zero_le h0
  rw [show (0 : Int) = ((0 : Nat) : Int) from rfl, Go.u64_xor_nat _ 0 (by omega) (by omega), Nat.xor_zero]
theorem xor_ones_i {x : Int} (h0 : 0 ≤ x) (h1 : x < 9223372036854775808) : Go.bits .xor .i64 x (-1) = -x - 1 := by
  obtain ⟨n, rfl⟩ := Int.eq_ofNat_of_zero_le h0
  show IntKind.i64.wrap ((BitVec.ofInt 64 (n : Int) ^^^ BitVec.ofInt 64 (-1)).toNat : Int) = _
  rw [show BitVec.ofInt 64 (-1) = BitVec.allOnes 64 from by decide, BitVec.xor_allOnes, BitVec.toNat_not, Go.ofInt_u64 n (by omega), Go.IntKind.wrap_i64]
  omega
theorem xor_none_i {x : Int} (h0 : 0 ≤ x) (h1 : x < 9223372036854775808) : Go.bits .xor .i64 x 0 = x := by
  obtain ⟨n, rfl⟩ := Int.eq_ofNat_of_zero_le h0
  show IntKind.i64.wrap ((BitVec.ofInt 64 (n : Int) ^^^ BitVec.ofInt 64 0).toNat : Int) = _
  rw [show BitVec.ofInt 64 0 = 0#64 from by decide, BitVec.xor_zero, Go.ofInt_u64 n (by omega), Go.IntKind.wrap_i64]
  omega
def zigZ (a : Int) : Int := if 0 ≤ a then 2 * a else -2 * a - 1
def zagZ (x : Int) : Int := if x % 2 = 0 then x / 2 else -(x / 2) - 1
theorem zig_tells {a : Int} (h0 : -9223372036854775808 ≤ a) (h1 : a < 9223372036854775808) : num_Zig.f a = some (zigZ a) := by
  unfold num_Zig.f zigZ
  rw [wrap_u64, wrap_u64, wrap_u64]
  by_cases h : 0 ≤ a
  · rw [if_pos h, show a / 9223372036854775808 = 0 from by omega, show a % 18446744073709551616 * 2 % 18446744073709551616 = 2 * a from by omega, show (0 : Int) % 18446744073709551616 = 0 from rfl, xor_none (by omega) (by omega)]
  · rw [if_neg h, show a / 9223372036854775808 = -1 from by omega, show (-1 : Int) % 18446744073709551616 = 18446744073709551615 from rfl, show a % 18446744073709551616 * 2 % 18446744073709551616 = 18446744073709551616 + 2 * a from by omega, xor_ones (by omega) (by omega)]
    congr 1
    omega
theorem zag_tells {x : Int} (h0 : 0 ≤ x) (h1 : x < 18446744073709551616) : num_Zag.f x = some (zagZ x) := by
  unfold num_Zag.f zagZ
  have e : Go.bits .and .u64 x 1 = x % 2 := by
    obtain ⟨n, rfl⟩ := Int.eq_ofNat_of_zero_le h0
    rw [show (1 : Int) = ((1 : Nat) : Int) from rfl, Go.u64_and_nat _ 1 (by omega) (by omega), Go.nat_mask1]
    omega
  rw [e, w64 (x := x / 2) (by omega) (by omega), w64 (x := x % 2) (by omega) (by omega), w64 (x := -(x % 2)) (by omega) (by omega)]
  by_cases h : x % 2 = 0
  · rw [if_pos h, h, show -(0 : Int) = 0 from rfl, xor_none_i (by omega) (by omega)]
  · rw [if_neg h, show x % 2 = 1 from by omega, xor_ones_i (by omega) (by omega)]
theorem ref_zig {a : Int} (h0 : -9223372036854775808 ≤ a) (h1 : a < 9223372036854775808) : concordanceref1_Zig.f a = some (zigZ a) := by
  unfold concordanceref1_Zig.f zigZ
  simp only [wrap_u64]
  by_cases h : a < 0
  · rw [if_pos h, if_neg (by omega), w64 (x := a + 1) (by omega) (by omega), w64 (x := -(a + 1)) (by omega) (by omega)]
    congr 1
    omega
  · rw [if_neg h, if_pos (by omega)]
    congr 1
    omega
theorem zig_range {a : Int} (h0 : -9223372036854775808 ≤ a) (h1 : a < 9223372036854775808) : 0 ≤ zigZ a ∧ zigZ a < 18446744073709551616 := by unfold zigZ; split <;> omega
theorem zag_range {x : Int} (h0 : 0 ≤ x) (h1 : x < 18446744073709551616) : -9223372036854775808 ≤ zagZ x ∧ zagZ x < 9223372036854775808 := by unfold zagZ; split <;> omega
theorem zag_zig (a : Int) : zagZ (zigZ a) = a := by unfold zigZ zagZ; split <;> split <;> omega
theorem zig_zag {x : Int} (h0 : 0 ≤ x) : zigZ (zagZ x) = x := by unfold zigZ zagZ; split <;> split <;> omega

theorem wf_i64 {a : Int} (h : (Lit.int .i64 a).wf = true) : -9223372036854775808 ≤ a ∧ a < 9223372036854775808 := by
  have h : IntKind.i64.min ≤ a ∧ a ≤ IntKind.i64.max := by simpa [Lit.wf] using h
  rw [show IntKind.i64.min = -9223372036854775808 from by decide, show IntKind.i64.max = 9223372036854775807 from by decide] at h
  omega
theorem wf_u64 {a : Int} (h : (Lit.int .u64 a).wf = true) : 0 ≤ a ∧ a < 18446744073709551616 := by
  have h : IntKind.u64.min ≤ a ∧ a ≤ IntKind.u64.max := by simpa [Lit.wf] using h
  rw [show IntKind.u64.min = 0 from by decide, show IntKind.u64.max = 18446744073709551615 from by decide] at h
  omega
theorem wf_u8 {a : Int} (h : (Lit.int .u8 a).wf = true) : 0 ≤ a ∧ a < 256 := by
  have h : IntKind.u8.min ≤ a ∧ a ≤ IntKind.u8.max := by simpa [Lit.wf] using h
  rw [show IntKind.u8.min = 0 from by decide, show IntKind.u8.max = 255 from by decide] at h
  omega

theorem put_nil {n : Int} (h0 : 0 ≤ n) (h1 : n < 18446744073709551616) : num_Put.f [] n = some (encN n.toNat) := by
  unfold num_Put.f putF
  rw [if_pos ⟨by simp, h0, h1⟩, List.nil_append]
theorem put_tells {l : List Int} {n : Int} (hl : l.length ≤ 140737488355000) (h0 : 0 ≤ n) (h1 : n < 18446744073709551616) : num_Put.f l n = some (l ++ encN n.toNat) := by
  unfold num_Put.f putF
  rw [if_pos ⟨hl, h0, h1⟩]

/-- awake tells true. -/
theorem awake_tells {k : Nat} (hk : 21 ≤ k) : concordancelaw1_awake.f k = some true := by
  unfold concordancelaw1_awake.f
  rw [put_nil (by omega) (by omega)]
  have e1 : encN (300 : Int).toNat = [172, 2] := by
    show encN 300 = _
    rw [encN_ge (by omega), encN_lt (by omega)]
    rfl
  have hb : isB [172, 2, 9] := by intro x hx; simp at hx; omega
  simp only [Option.bind_some]
  rw [num_take _ hb hk, e1, size_tells (by omega) (by omega) (by omega), e1, zig_tells (by omega) (by omega), zag_tells (by omega) (by omega)]
  have e2 : takeT [172, 2, 9] = (300, 2, 0) := by decide
  rw [e2]
  simp only [Option.bind_some]
  decide +kernel
end Go.Proofs.Ytpcjdgmjlnlfgaa.Plain
