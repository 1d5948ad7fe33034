/- The sum of chapter 2, plain: registers as natural numbers. -/
import Derived.Test.YtklpamhhbigjfaaKit5
namespace Go.Proofs.Ytklpamhhbigjfaa

def POLY : Nat := 2197175160
/-- a register shifted by one bit -/
def sh (x : Nat) : Nat := if x % 2 = 1 then x / 2 ^^^ POLY else x / 2
def shn : Nat → Nat → Nat
  | 0, x => x
  | n + 1, x => shn n (sh x)
def crcU (x : Nat) (l : List UInt8) : Nat := l.foldl (fun x b => shn 8 (x ^^^ b.toNat)) x
theorem xor_lt {a b : Nat} (ha : a < 4294967296) (hb : b < 4294967296) : a ^^^ b < 4294967296 := Nat.xor_lt_two_pow (n := 32) ha hb
theorem sh_lt {x : Nat} (h : x < 4294967296) : sh x < 4294967296 := by
  unfold sh
  split
  · exact xor_lt (by omega) (by decide)
  · omega
theorem shn_lt : ∀ (n : Nat) {x : Nat}, x < 4294967296 → shn n x < 4294967296
  | 0, _, h => h
  | n + 1, _, h => shn_lt n (sh_lt h)
theorem shn_add : ∀ (m n x : Nat), shn (m + n) x = shn n (shn m x)
  | 0, n, x => by simp [shn]
  | m + 1, n, x => by
    rw [Nat.succ_add]
    show shn (m + n) (sh x) = shn n (shn m (sh x))
    exact shn_add m n (sh x)
theorem shn_succ (n x : Nat) : shn (n + 1) x = sh (shn n x) := shn_add n 1 x
theorem xor_mod2 (a b : Nat) : (a ^^^ b) % 2 = (a % 2 + b % 2) % 2 := by
  have h := Nat.xor_mod_two_pow (a := a) (b := b) (n := 1)
  simp only [Nat.pow_one] at h
  rw [h]
  have ha : a % 2 = 0 ∨ a % 2 = 1 := by omega
  have hb : b % 2 = 0 ∨ b % 2 = 1 := by omega
  rcases ha with ha | ha <;> rcases hb with hb | hb <;> rw [ha, hb] <;> rfl
theorem sh_xor (a b : Nat) : sh (a ^^^ b) = sh a ^^^ sh b := by
  have h2 : (a ^^^ b) / 2 = a / 2 ^^^ b / 2 := by simpa using Nat.xor_div_two_pow (a := a) (b := b) (n := 1)
  unfold sh
  rw [xor_mod2, h2]
  have ha : a % 2 = 0 ∨ a % 2 = 1 := by omega
  have hb : b % 2 = 0 ∨ b % 2 = 1 := by omega
  rcases ha with ha | ha <;> rcases hb with hb | hb <;> simp only [ha, hb]
  · simp
  · simp [Nat.xor_assoc]
  · simp only [if_true]
    rw [if_neg (by decide)]
    ac_rfl
  · simp only [if_true]
    rw [show (1 + 1) % 2 = 0 from rfl, if_neg (by decide)]
    rw [show a / 2 ^^^ POLY ^^^ (b / 2 ^^^ POLY) = a / 2 ^^^ b / 2 ^^^ (POLY ^^^ POLY) by ac_rfl, Nat.xor_self, Nat.xor_zero]
theorem shn_xor : ∀ (n a b : Nat), shn n (a ^^^ b) = shn n a ^^^ shn n b
  | 0, _, _ => rfl
  | n + 1, a, b => by
    show shn n (sh (a ^^^ b)) = _
    rw [sh_xor]
    exact shn_xor n _ _
theorem sh_even (x : Nat) : sh (2 * x) = x := by
  unfold sh
  rw [if_neg (by omega)]
  omega
theorem sh4_16 (x : Nat) : shn 4 (16 * x) = x := by
  show sh (sh (sh (sh (16 * x)))) = x
  rw [show 16 * x = 2 * (8 * x) by omega, sh_even, show 8 * x = 2 * (4 * x) by omega, sh_even, show 4 * x = 2 * (2 * x) by omega, sh_even, sh_even]
theorem split16 (x : Nat) : x = 16 * (x / 16) ^^^ x % 16 := by
  refine Nat.eq_of_testBit_eq fun i => ?_
  rw [Nat.testBit_xor, show 16 * (x / 16) = 2 ^ 4 * (x / 2 ^ 4) from rfl, show x % 16 = x % 2 ^ 4 from rfl, Nat.testBit_two_pow_mul, Nat.testBit_mod_two_pow, Nat.testBit_div_two_pow]
  by_cases h : i < 4
  · have : ¬ 4 ≤ i := by omega
    simp [h, this]
  · have h2 : 4 ≤ i := by omega
    have h3 : 4 + (i - 4) = i := by omega
    have h4 : i - 4 + 4 = i := by omega
    simp [h, h2, h4]
theorem div16_xor (a b : Nat) : (a ^^^ b) / 16 = a / 16 ^^^ b / 16 := by simpa using Nat.xor_div_two_pow (a := a) (b := b) (n := 4)
/-- a step over 4 bits, by the table -/
theorem nib_step (x b : Nat) (hb : b < 16) : x / 16 ^^^ shn 4 ((x ^^^ b) % 16) = shn 4 (x ^^^ b) := by
  have h := split16 (x ^^^ b)
  have hb0 : b / 16 = 0 := by omega
  conv => rhs; rw [h]
  rw [shn_xor, sh4_16, div16_xor, hb0, Nat.xor_zero]
theorem byte_step (x c : Nat) : shn 4 (shn 4 (x ^^^ c % 16) ^^^ c / 16) = shn 8 (x ^^^ c) := by
  have h := split16 c
  rw [show (8 : Nat) = 4 + 4 from rfl, shn_add]
  congr 1
  conv => rhs; rw [h, show x ^^^ (16 * (c / 16) ^^^ c % 16) = x ^^^ c % 16 ^^^ 16 * (c / 16) by ac_rfl]
  rw [shn_xor 4 (x ^^^ c % 16) (16 * (c / 16)), sh4_16]
theorem crcU_snoc (x : Nat) (l : List UInt8) (b : UInt8) : crcU x (l ++ [b]) = shn 8 (crcU x l ^^^ b.toNat) := by simp [crcU, List.foldl_append]
theorem crcU_append (x : Nat) (l m : List UInt8) : crcU x (l ++ m) = crcU (crcU x l) m := by simp [crcU, List.foldl_append]
theorem crcU_lt : ∀ (l : List UInt8) {x : Nat}, x < 4294967296 → crcU x l < 4294967296
  | [], _, h => h
  | b :: l, x, h => crcU_lt l (shn_lt 8 (xor_lt h (by have := b.toNat_lt; omega)))
/-- the sum of bytes -/
def sumN (l : List UInt8) : Nat := 4294967295 - crcU 4294967295 l
theorem sumN_lt (l : List UInt8) : sumN l < 4294967296 := by unfold sumN; omega
/-- a register's four bytes -/
def bytes4 (n : Nat) : List UInt8 := [UInt8.ofNat n, UInt8.ofNat (n / 256), UInt8.ofNat (n / 65536), UInt8.ofNat (n / 16777216)]
end Go.Proofs.Ytklpamhhbigjfaa
