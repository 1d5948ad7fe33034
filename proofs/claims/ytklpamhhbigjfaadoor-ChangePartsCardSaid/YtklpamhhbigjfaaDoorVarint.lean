/- Encodings of numbers and texts as plain lists of bytes. -/
import Derived.Test.YtklpamhhbigjfaaDoorKit5
namespace Go.Proofs.YtklpamhhbigjfaaDoor

/-- the encoding of a number -/
def varint (n : Nat) : List UInt8 := if h : n < 128 then [UInt8.ofNat n] else UInt8.ofNat (n % 128 + 128) :: varint (n / 128)
termination_by n
decreasing_by omega
theorem varint_lo {n : Nat} (h : n < 128) : varint n = [UInt8.ofNat n] := by rw [varint, dif_pos h]
theorem varint_hi {n : Nat} (h : 128 ≤ n) : varint n = UInt8.ofNat (n % 128 + 128) :: varint (n / 128) := by rw [varint, dif_neg (by omega)]
theorem varint_len (n : Nat) : 1 ≤ (varint n).length := by
  by_cases h : n < 128
  · rw [varint_lo h]; simp
  · rw [varint_hi (by omega)]; simp
theorem varint_len_le : ∀ (k n : Nat), n < 128 ^ k → (varint n).length ≤ max k 1
  | 0, n, h => by
    have : n = 0 := by simpa using h
    subst this
    rw [varint_lo (by omega)]
    simp
  | k + 1, n, h => by
    by_cases h' : n < 128
    · rw [varint_lo h']; simp only [List.length_cons, List.length_nil]; omega
    · rw [varint_hi (by omega)]
      cases k with
      | zero => simp at h; omega
      | succ k =>
        have := varint_len_le (k + 1) (n / 128) (by rw [Nat.div_lt_iff_lt_mul (by omega)]; rw [Nat.pow_succ] at h; exact h)
        simp only [List.length_cons]
        omega
theorem varint_max {n : Nat} (h : n < 18446744073709551616) : (varint n).length ≤ 10 := by
  have := varint_len_le 10 n (by have : (128 : Nat) ^ 10 = 1180591620717411303424 := by decide
                                 omega)
  omega
def numS (n : Nat) : ByteArray := bs (varint n)
def txtS (s : ByteArray) : ByteArray := numS s.size ++ s
theorem bs_size (l : List UInt8) : (bs l).size = l.length := by simp [bs, ByteArray.size]
theorem bs_append (a b : List UInt8) : bs a ++ bs b = bs (a ++ b) := by
  apply ByteArray.ext
  simp [bs, ByteArray.data_append]
theorem append_bs (s : ByteArray) (a b : List UInt8) : s ++ bs a ++ bs b = s ++ bs (a ++ b) := by
  rw [ByteArray.append_assoc, bs_append]
theorem numS_size {n : Nat} (h : n < 18446744073709551616) : (numS n).size ≤ 10 := by rw [numS, bs_size]; exact varint_max h
theorem pow128 (k m n : Nat) (h : m * 128 ^ k ≤ n) (hn : n < 18446744073709551616) (hm : 128 ≤ m) : k ≤ 8 := by
  by_cases hk : k ≤ 8
  · exact hk
  · exfalso
    have h1 : 128 ^ 9 ≤ 128 ^ k := Nat.pow_le_pow_right (by omega) (by omega)
    have h2 : 128 * 128 ^ 9 ≤ m * 128 ^ k := Nat.mul_le_mul hm h1
    have h3 : (128 : Nat) * 128 ^ 9 = 1180591620717411303424 := by decide
    omega
theorem pow128_next (k m n : Nat) (h : m * 128 ^ k ≤ n) : m / 128 * 128 ^ (k + 1) ≤ n := by
  have : m / 128 * 128 ^ (k + 1) = (m / 128 * 128) * 128 ^ k := by rw [Nat.pow_succ]; ac_rfl
  rw [this]
  exact Nat.le_trans (Nat.mul_le_mul_right _ (Nat.div_mul_le_self _ _)) h
end Go.Proofs.YtklpamhhbigjfaaDoor
