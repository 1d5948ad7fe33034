/- Decoding of numbers, plain. -/
import Derived.Test.YtklpamhhbigjfaaDoorVarint
import Derived.Laws.Bits64b
namespace Go.Proofs.YtklpamhhbigjfaaDoor

/-- the number at the front of bytes, from the i-th byte on, with what is read so far; and how many bytes it has -/
def decAt : Nat → Nat → List UInt8 → Option (Nat × Nat)
  | _, _, [] => none
  | i, n, b :: r => if 10 ≤ i then none else if i = 9 ∧ 1 < b.toNat then none else
    if b.toNat < 128 then (if b.toNat = 0 ∧ 0 < i then none else some (n + b.toNat % 128 * 128 ^ i, i + 1)) else decAt (i + 1) (n + b.toNat % 128 * 128 ^ i) r
def dec (s : ByteArray) : Option (Nat × Nat) := decAt 0 0 s.data.toList
/-- what decode returns -/
def decN (s : ByteArray) : Nat := match dec s with | some (n, _) => n | none => 0
def decK (s : ByteArray) : Nat := match dec s with | some (_, k) => k | none => 0
theorem decAt_end (i n : Nat) : decAt i n [] = none := rfl
theorem decAt_ten (n : Nat) (l : List UInt8) : decAt 10 n l = none := by cases l <;> simp [decAt]
theorem decAt_some : ∀ (l : List UInt8) (i n m k : Nat), decAt i n l = some (m, k) → i ≤ 9 ∧ i < k ∧ k ≤ i + l.length ∧ k ≤ 10
  | [], i, n, m, k, h => by simp [decAt] at h
  | b :: r, i, n, m, k, h => by
    unfold decAt at h
    split at h
    · cases h
    split at h
    · cases h
    split at h
    · split at h
      · cases h
      · injection h with h
        injection h with h1 h2
        simp only [List.length_cons]
        omega
    · have := decAt_some r (i + 1) _ m k h
      simp only [List.length_cons]
      omega
theorem decK_le (s : ByteArray) : decK s ≤ s.size ∧ (decK s = 0 ↔ dec s = none) := by
  unfold decK
  cases h : dec s with
  | none => simp
  | some p =>
    obtain ⟨m, k⟩ := p
    have := decAt_some _ _ _ _ _ h
    have e : s.data.toList.length = s.size := by simp
    refine ⟨by simp only; omega, ?_⟩
    simp only [reduceCtorEq, iff_false]
    omega
theorem dec_step {s : ByteArray} {i n : Nat} (hd : dec s = decAt i n (s.data.toList.drop i)) (h1 : i < s.size) (h2 : i < 10) :
    dec s = if i = 9 ∧ 1 < s[i].toNat then none else if s[i].toNat < 128 then (if s[i].toNat = 0 ∧ 0 < i then none else some (n + s[i].toNat % 128 * 128 ^ i, i + 1)) else decAt (i + 1) (n + s[i].toNat % 128 * 128 ^ i) (s.data.toList.drop (i + 1)) := by
  have hl : i < s.data.toList.length := by simpa using h1
  rw [hd, List.drop_eq_getElem_cons hl]
  have e : s.data.toList[i] = s[i] := by simp; rfl
  rw [e]
  conv => lhs; unfold decAt
  rw [if_neg (by omega)]
theorem bits_and127_fin : ∀ x : Fin 256, bits BinOp.and IntKind.u8 (x.val : Int) 127 = ((x.val % 128 : Nat) : Int) := by decide +kernel
theorem or_shift (i n b : Nat) (hi : i ≤ 9) (hn : n < 128 ^ i) (hb : b < 256) (h9 : i = 9 → b ≤ 1) :
    bits BinOp.or IntKind.u64 (n : Int) (IntKind.u64.wrap (IntKind.u64.wrap (bits BinOp.and IntKind.u8 (b : Int) 127) * 2 ^ (7 * i))) = ((n + b % 128 * 128 ^ i : Nat) : Int) ∧ n + b % 128 * 128 ^ i < 18446744073709551616 ∧ n + b % 128 * 128 ^ i < 128 ^ (i + 1) := by
  have e1 : bits BinOp.and IntKind.u8 (b : Int) 127 = ((b % 128 : Nat) : Int) := bits_and127_fin ⟨b, hb⟩
  have hp : (2 : Nat) ^ (7 * i) = 128 ^ i := by rw [Nat.pow_mul]
  have hp2 : (2 : Int) ^ (7 * i) = ((128 ^ i : Nat) : Int) := by rw [← hp]; simp
  have hc : b % 128 < 128 := Nat.mod_lt _ (by omega)
  have h3 : n + b % 128 * 128 ^ i < 128 ^ (i + 1) := by
    rw [Nat.pow_succ]
    have : b % 128 * 128 ^ i ≤ 127 * 128 ^ i := Nat.mul_le_mul_right _ (by omega)
    omega
  have h2 : n + b % 128 * 128 ^ i < 18446744073709551616 := by
    by_cases e : i = 9
    · subst e
      have := h9 rfl
      have e2 : b % 128 ≤ 1 := by omega
      have : b % 128 * 128 ^ 9 ≤ 1 * 128 ^ 9 := Nat.mul_le_mul_right _ e2
      have e3 : (128 : Nat) ^ 9 = 9223372036854775808 := by decide
      omega
    · have : (128 : Nat) ^ (i + 1) ≤ 128 ^ 9 := Nat.pow_le_pow_right (by omega) (by omega)
      have e3 : (128 : Nat) ^ 9 = 9223372036854775808 := by decide
      omega
  refine ⟨?_, h2, h3⟩
  have hm : b % 128 * 128 ^ i < 18446744073709551616 := by omega
  have e2 : (((b % 128 : Nat) : Int) * 2 ^ (7 * i)) = ((b % 128 * 128 ^ i : Nat) : Int) := by rw [hp2]; simp
  rw [e1, show IntKind.u64.wrap ((b % 128 : Nat) : Int) = ((b % 128 : Nat) : Int) from IntWalk.u64_in _ (by omega), e2, IntWalk.u64_in _ (by omega), bits_or_u64_nat n _ (by omega) hm]
  congr 1
  rw [← hp] at hn ⊢
  have := Nat.two_pow_add_eq_or_of_lt hn (b % 128)
  rw [Nat.or_comm, Nat.mul_comm (b % 128), ← this, Nat.add_comm]
end Go.Proofs.YtklpamhhbigjfaaDoor
