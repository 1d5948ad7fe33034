/- Chapter 14, plain: a frame read back; damage within 4 successive bytes turns the sum. -/
import Derived.Test.YtklpamhhbigjfaaRead14
namespace Go.Proofs.Ytklpamhhbigjfaa
open Go.RowKit
set_option linter.unusedSimpArgs false

theorem sh_inj0 {x : Nat} (hx : x < 4294967296) (h : sh x = 0) : x = 0 := by
  unfold sh at h
  split at h
  · have h2 : x / 2 = POLY := by
      have e : x / 2 = x / 2 ^^^ POLY ^^^ POLY := by rw [Nat.xor_assoc, Nat.xor_self, Nat.xor_zero]
      rw [e, h, Nat.zero_xor]
    unfold POLY at h2
    omega
  · omega
theorem shn_inj0 : ∀ (n : Nat) {x : Nat}, x < 4294967296 → shn n x = 0 → x = 0
  | 0, _, _, h => h
  | n + 1, _, hx, h => sh_inj0 hx (shn_inj0 n (sh_lt hx) h)
theorem shn_zero : ∀ n : Nat, shn n 0 = 0
  | 0 => rfl
  | n + 1 => shn_zero n
theorem crcU_zeros : ∀ (n x : Nat), crcU x (List.replicate n 0) = shn (8 * n) x
  | 0, x => rfl
  | n + 1, x => by
    rw [List.replicate_succ]
    show crcU (shn 8 (x ^^^ (0 : UInt8).toNat)) (List.replicate n 0) = _
    rw [crcU_zeros n, show 8 * (n + 1) = 8 + 8 * n by omega, shn_add]
    congr 2
    exact Nat.xor_zero x
/-- two texts of one length, combined byte by byte -/
def xorZ (l m : List UInt8) : List UInt8 := List.zipWith (· ^^^ ·) l m
theorem crcU_xor : ∀ (l m : List UInt8) (x y : Nat), l.length = m.length → crcU (x ^^^ y) (xorZ l m) = crcU x l ^^^ crcU y m
  | [], [], _, _, _ => rfl
  | [], _ :: _, _, _, h => by simp at h
  | _ :: _, [], _, _, h => by simp at h
  | a :: l, b :: m, x, y, h => by
    show crcU (shn 8 (x ^^^ y ^^^ (a ^^^ b).toNat)) (xorZ l m) = _
    rw [UInt8.toNat_xor, show x ^^^ y ^^^ (a.toNat ^^^ b.toNat) = (x ^^^ a.toNat) ^^^ (y ^^^ b.toNat) by ac_rfl, shn_xor]
    exact crcU_xor l m _ _ (by simpa using h)
theorem mul_xor (k a b : Nat) : 2 ^ k * (a ^^^ b) = 2 ^ k * a ^^^ 2 ^ k * b := by
  refine Nat.eq_of_testBit_eq fun i => ?_
  simp only [Nat.testBit_xor, Nat.testBit_two_pow_mul]
  by_cases h : k ≤ i <;> simp [h]
theorem split256 (x : Nat) : x = x % 256 ^^^ 256 * (x / 256) := by
  refine Nat.eq_of_testBit_eq fun i => ?_
  rw [Nat.testBit_xor, show 256 * (x / 256) = 2 ^ 8 * (x / 2 ^ 8) from rfl, show x % 256 = x % 2 ^ 8 from rfl, Nat.testBit_two_pow_mul, Nat.testBit_mod_two_pow, Nat.testBit_div_two_pow]
  by_cases h : i < 8
  · have : ¬ 8 ≤ i := by omega
    simp [h, this]
  · have h2 : 8 ≤ i := by omega
    have h4 : i - 8 + 8 = i := by omega
    simp [h, h2, h4]
theorem shn8_256 (x : Nat) : shn 8 (256 * x) = x := by
  rw [show (8 : Nat) = 4 + 4 from rfl, shn_add, show 256 * x = 16 * (16 * x) by omega, sh4_16, sh4_16]
theorem shn16_65536 (x : Nat) : shn 16 (65536 * x) = x := by
  rw [show (16 : Nat) = 8 + 8 from rfl, shn_add, show 65536 * x = 256 * (256 * x) by omega, shn8_256, shn8_256]
theorem shn24_m (x : Nat) : shn 24 (16777216 * x) = x := by
  rw [show (24 : Nat) = 16 + 8 from rfl, shn_add, show 16777216 * x = 65536 * (256 * x) by omega, shn16_65536, shn8_256]
theorem crcU_bytes4 (c v : Nat) (hv : v < 4294967296) : crcU c (bytes4 v) = shn 32 (c ^^^ v) := by
  have e : ∀ n, (UInt8.ofNat n).toNat = n % 256 := fun n => by simp
  show shn 8 (shn 8 (shn 8 (shn 8 (c ^^^ (UInt8.ofNat v).toNat) ^^^ (UInt8.ofNat (v / 256)).toNat) ^^^ (UInt8.ofNat (v / 65536)).toNat) ^^^ (UInt8.ofNat (v / 16777216)).toNat) = _
  rw [e, e, e, e]
  have s1 : ∀ x b, shn 8 x ^^^ b = shn 8 (x ^^^ 256 * b) := fun x b => by rw [shn_xor, shn8_256]
  have s2 : ∀ x b, shn 16 x ^^^ b = shn 16 (x ^^^ 65536 * b) := fun x b => by rw [shn_xor, shn16_65536]
  have s3 : ∀ x b, shn 24 x ^^^ b = shn 24 (x ^^^ 16777216 * b) := fun x b => by rw [shn_xor, shn24_m]
  rw [s1 (c ^^^ v % 256), ← shn_add 8 8, s2 _ (v / 65536 % 256), ← shn_add 16 8, s3 _ (v / 16777216 % 256), ← shn_add 24 8]
  congr 1
  have h1 := split256 v
  have h2 := split256 (v / 256)
  have h3 := split256 (v / 256 / 256)
  have d2 : v / 256 / 256 = v / 65536 := by omega
  have d3 : v / 65536 / 256 = v / 16777216 := by omega
  have d4 : v / 16777216 % 256 = v / 16777216 := by omega
  rw [d2] at h2 h3
  rw [d3] at h3
  have m1 := mul_xor 8 (v / 256 % 256) (256 * (v / 65536))
  have m2 := mul_xor 16 (v / 65536 % 256) (256 * (v / 16777216))
  have e1 : (2 : Nat) ^ 8 = 256 := rfl
  have e2 : (2 : Nat) ^ 16 = 65536 := rfl
  rw [e1] at m1
  rw [e2] at m2
  rw [d4]
  conv => rhs; rw [h1, h2, m1, show 256 * (256 * (v / 65536)) = 65536 * (v / 65536) by omega, h3, m2, show 65536 * (256 * (v / 16777216)) = 16777216 * (v / 16777216) by omega]
  have z3 : 65536 * (v / 65536 % 256 ^^^ 256 * (v / 16777216)) = 65536 * (v / 65536 % 256) ^^^ 16777216 * (v / 16777216) := by
    rw [m2, show 65536 * (256 * (v / 16777216)) = 16777216 * (v / 16777216) by omega]
  ac_rfl
theorem inv_xor {c : Nat} (h : c < 4294967296) : c ^^^ (4294967295 - c) = 4294967295 := by
  have h1 : 4294967295 - c = 4294967295 ^^^ c := by
    refine Nat.eq_of_testBit_eq fun i => ?_
    rw [show 4294967295 - c = 2 ^ 32 - (c + 1) by omega, Nat.testBit_two_pow_sub_succ (by simpa using h), Nat.testBit_xor, show (4294967295 : Nat) = 2 ^ 32 - 1 from rfl, Nat.testBit_two_pow_sub_one]
    by_cases hi : i < 32
    · simp [hi]
    · have : c.testBit i = false := Nat.testBit_lt_two_pow (Nat.lt_of_lt_of_le (by simpa using h : c < 2 ^ 32) (Nat.pow_le_pow_right (by decide) (by omega)))
      simp [hi, this]
  rw [h1, show c ^^^ (4294967295 ^^^ c) = 4294967295 ^^^ (c ^^^ c) by ac_rfl, Nat.xor_self, Nat.xor_zero]
/-- the register behind a sealed text -/
theorem crcU_seal (l : List UInt8) : crcU 4294967295 (l ++ bytes4 (sumN l)) = shn 32 4294967295 := by
  rw [crcU_append, crcU_bytes4 _ _ (sumN_lt l), sumN, inv_xor (crcU_lt l (by decide))]

/-- a text with some bytes from a place on combined with those of a mask -/
def xorAt (l : List UInt8) (i : Nat) (m : List UInt8) : List UInt8 := xorZ l (List.replicate i 0 ++ m ++ List.replicate (l.length - i - m.length) 0)
theorem xorAt_len (l : List UInt8) (i : Nat) (m : List UInt8) (h : i + m.length ≤ l.length) : (xorAt l i m).length = l.length := by
  simp [xorAt, xorZ]; omega
theorem seal_damage (l m : List UInt8) (i v : Nat) (hv : v < 4294967296) (hi : i + 4 ≤ (l ++ bytes4 (sumN l)).length) (h : xorAt (l ++ bytes4 (sumN l)) i (bytes4 v) = m ++ bytes4 (sumN m)) : v = 0 := by
  have h4 : (bytes4 v).length = 4 := rfl
  have h1 := crcU_xor (l ++ bytes4 (sumN l)) (List.replicate i 0 ++ bytes4 v ++ List.replicate ((l ++ bytes4 (sumN l)).length - i - 4) 0) 4294967295 0 (by
    simp only [List.length_append, List.length_replicate, h4] at hi ⊢; omega)
  rw [Nat.xor_zero] at h1
  have h2 : crcU 4294967295 (xorZ (l ++ bytes4 (sumN l)) (List.replicate i 0 ++ bytes4 v ++ List.replicate ((l ++ bytes4 (sumN l)).length - i - 4) 0)) = shn 32 4294967295 := by
    have e : xorZ (l ++ bytes4 (sumN l)) (List.replicate i 0 ++ bytes4 v ++ List.replicate ((l ++ bytes4 (sumN l)).length - i - 4) 0) = xorAt (l ++ bytes4 (sumN l)) i (bytes4 v) := rfl
    rw [e, h, crcU_seal]
  rw [h2, crcU_seal] at h1
  have h3 : crcU 0 (List.replicate i 0 ++ bytes4 v ++ List.replicate ((l ++ bytes4 (sumN l)).length - i - 4) 0) = 0 := by
    have := congrArg (fun x => shn 32 4294967295 ^^^ x) h1
    simp only [← Nat.xor_assoc, Nat.xor_self, Nat.zero_xor] at this
    exact this.symm
  rw [crcU_append, crcU_append, crcU_zeros, crcU_zeros, shn_zero, crcU_bytes4 _ _ hv, Nat.zero_xor] at h3
  exact shn_inj0 32 hv (shn_inj0 _ (shn_lt 32 hv) h3)

theorem bs_extract (l : List UInt8) (i j : Nat) : (bs l).extract i j = bs ((l.drop i).take (j - i)) := by
  apply ByteArray.ext
  simp [bs, ByteArray.data_extract, List.extract_toArray, List.extract_eq_take_drop]
theorem bs_toList (l : List UInt8) : (bs l).data.toList = l := by simp [bs]
theorem sealS_bs (l : List UInt8) : sealS (bs l) = bs (l ++ bytes4 (sumN l)) := by rw [sealS, bs_toList, bs_append]
theorem frS_eq {n : Int} {a b : Bool} {d : ByteArray} (h : FrOk n d) : frS n a b d = bs (frL n.toNat a b d ++ bytes4 (sumN (frL n.toNat a b d))) := by
  rw [frS, if_pos h, sealS_bs]
theorem frS_size {n : Int} {a b : Bool} {d : ByteArray} (h : FrOk n d) : (frS n a b d).size = 64 := by
  rw [frS_eq h, bs_size, List.length_append, frL_len h.2.2.2]; rfl
theorem byB_bs (l : List UInt8) (i : Nat) : byB (bs l) i = (l.getD i 0).toNat := by rw [byB, bs_toList]
/-- a frame is read back -/
theorem rf_fr {n : Int} {a b : Bool} {d : ByteArray} (h : FrOk n d) : RfOk (frS n a b d) ∧ (rfN (frS n a b d) : Int) = n ∧ rfA (frS n a b d) = a ∧ rfB (frS n a b d) = b ∧ rfD (frS n a b d) = d := by
  obtain ⟨h1, h2, h3, h4⟩ := h
  have hs := frS_size (a := a) (b := b) ⟨h1, h2, h3, h4⟩
  have he := frS_eq (a := a) (b := b) ⟨h1, h2, h3, h4⟩
  have e : ∀ n, (UInt8.ofNat n).toNat = n % 256 := fun n => by simp
  have b0 : byB (frS n a b d) 0 = n.toNat % 256 := by rw [he, byB_bs]; exact e _
  have b1 : byB (frS n a b d) 1 = n.toNat / 256 := by rw [he, byB_bs]; exact (e _).trans (by omega)
  have b2 : byB (frS n a b d) 2 = mkN a b := by rw [he, byB_bs]; exact (e _).trans (by cases a <;> cases b <;> decide)
  have b3 : byB (frS n a b d) 3 = d.size := by rw [he, byB_bs]; exact (e _).trans (by omega)
  have eN : rfN (frS n a b d) = n.toNat := by rw [rfN, b0, b1]; omega
  have eA : rfA (frS n a b d) = a := by rw [rfA, b2]; cases a <;> cases b <;> decide
  have eB : rfB (frS n a b d) = b := by rw [rfB, b2]; cases a <;> cases b <;> decide
  have eD : rfD (frS n a b d) = d := by
    rw [rfD, b3, he, bs_extract]
    have e1 : ((frL n.toNat a b d ++ bytes4 (sumN (frL n.toNat a b d))).drop 4).take (4 + d.size - 4) = d.data.toList := by
      rw [frL, List.append_assoc, List.append_assoc]
      show (List.take (4 + d.size - 4) (d.data.toList ++ _)) = _
      rw [show 4 + d.size - 4 = d.data.toList.length by simp]
      exact List.take_left' rfl
    rw [e1]
    exact bs_self d
  have eI : (rfN (frS n a b d) : Int) = n := by rw [eN]; omega
  refine ⟨⟨⟨hs, by rw [b2]; cases a <;> cases b <;> decide, by rw [b3]; exact h3, by rw [b3]; exact h4⟩, ?_⟩, eI, eA, eB, eD⟩
  rw [eI, eA, eB, eD]
/-- a damaged frame is not a frame -/
theorem rf_damage {n : Int} {a b : Bool} {d : ByteArray} (h : FrOk n d) (i v : Nat) (hv : v < 4294967296) (h0 : v ≠ 0) (hi : i ≤ 60) : ¬ RfOk (bs (xorAt (frS n a b d).data.toList i (bytes4 v))) := by
  rintro ⟨⟨k1, k2, k3, k4⟩, k5⟩
  rw [frS_eq h, bs_toList] at *
  generalize hX : xorAt (frL n.toNat a b d ++ bytes4 (sumN (frL n.toNat a b d))) i (bytes4 v) = X at *
  by_cases hf : FrOk (rfN (bs X)) (rfD (bs X))
  · rw [frS_eq hf] at k5
    have k6 := congrArg (fun s : ByteArray => s.data.toList) k5
    simp only [bs_toList] at k6
    refine h0 (seal_damage _ _ i v hv ?_ (hX.trans k6.symm))
    rw [List.length_append, frL_len h.2.2.2]
    show i + 4 ≤ 60 + 4
    omega
  · rw [frS_no hf] at k5
    rw [← k5] at k1
    exact absurd k1 (by decide)
end Go.Proofs.Ytklpamhhbigjfaa
