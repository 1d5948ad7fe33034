/- Reading what was written, plain: numbers and texts. -/
import Derived.Test.YtklpamhhbigjfaaDoorReader2
namespace Go.Proofs.YtklpamhhbigjfaaDoor
open Go.RowKit

theorem bs_eq (s : ByteArray) : bs s.data.toList = s := by cases s; simp [bs]
theorem bs_list (l : List UInt8) : (bs l).data.toList = l := by simp [bs]
theorem list_append (a b : ByteArray) : (a ++ b).data.toList = a.data.toList ++ b.data.toList := by simp [ByteArray.data_append]
theorem list_inj {a b : ByteArray} (h : a.data.toList = b.data.toList) : a = b := by rw [← bs_eq a, ← bs_eq b, h]
theorem ex_list (s : ByteArray) (i j : Nat) : (s.extract i j).data.toList = (s.data.toList.drop i).take (j - i) := by
  simp [ByteArray.data_extract]
theorem ex_left (a b : ByteArray) : (a ++ b).extract 0 a.size = a := by
  apply list_inj
  rw [ex_list, list_append]
  simp
theorem ex_right (a b : ByteArray) : (a ++ b).extract a.size (a ++ b).size = b := by
  apply list_inj
  rw [ex_list, list_append]
  simp only [ByteArray.size_append, Nat.add_sub_cancel_left]
  rw [show a.size = a.data.toList.length by simp, List.drop_left, show b.size = b.data.toList.length by simp, List.take_length]
theorem ex_cut (s : ByteArray) (k : Nat) : s.extract 0 k ++ s.extract k s.size = s := by
  apply list_inj
  rw [list_append, ex_list, ex_list]
  have e : s.size = s.data.toList.length := by simp
  rw [e]
  simp only [List.drop_zero, Nat.sub_zero]
  rw [List.take_of_length_le (l := s.data.toList.drop k) (by simp), List.take_append_drop]

/-- reading a number that was written -/
theorem decAt_varint : ∀ (m : Nat) (i n : Nat) (t : List UInt8), (0 < i → m ≠ 0) → i ≤ 9 → m * 128 ^ i < 18446744073709551616 → decAt i n (varint m ++ t) = some (n + m * 128 ^ i, i + (varint m).length) := by
  intro m
  induction m using Nat.strongRecOn with
  | _ m ih =>
    intro i n t hz hi hm
    have e9 : (128 : Nat) ^ 9 = 9223372036854775808 := by decide
    by_cases h : m < 128
    · rw [varint_lo h]
      have e1 : (UInt8.ofNat m).toNat = m := by rw [UInt8.toNat_ofNat']; omega
      show decAt i n (UInt8.ofNat m :: t) = _
      unfold decAt
      rw [e1, if_neg (by omega), if_neg, if_pos h, if_neg (by omega), Nat.mod_eq_of_lt h]
      · simp
      · rintro ⟨h1, h2⟩
        subst h1
        rw [e9] at hm
        omega
    · rw [varint_hi (by omega)]
      have e1 : (UInt8.ofNat (m % 128 + 128)).toNat = m % 128 + 128 := by rw [UInt8.toNat_ofNat']; omega
      have h8 : i ≤ 8 := pow128 i m (m * 128 ^ i) (Nat.le_refl _) hm (by omega)
      show decAt i n (UInt8.ofNat (m % 128 + 128) :: (varint (m / 128) ++ t)) = _
      unfold decAt
      rw [e1, if_neg (by omega), if_neg (by omega), if_neg (by omega), ih (m / 128) (by omega) (i + 1) _ t (by omega) (by omega) (Nat.lt_of_le_of_lt (pow128_next i m _ (Nat.le_refl _)) hm)]
      have e2 : (m % 128 + 128) % 128 = m % 128 := by omega
      have e3 : m / 128 * 128 ^ (i + 1) = (m / 128 * 128) * 128 ^ i := by rw [Nat.pow_succ]; ac_rfl
      have e4 : m * 128 ^ i = (m % 128) * 128 ^ i + (m / 128 * 128) * 128 ^ i := by rw [← Nat.add_mul]; congr 1; omega
      rw [e2, e3, e4, List.length_cons]
      congr 2 <;> omega
theorem dec_varint {n : Nat} (hn : n < 18446744073709551616) (t : ByteArray) : dec (numS n ++ t) = some (n, (numS n).size) := by
  rw [dec, list_append, numS, bs_list, decAt_varint n 0 0 _ (by omega) (by omega) (by simpa using hn), bs_size]
  simp
/-- a number that was read is as it would be written -/
theorem decAt_canon : ∀ (l : List UInt8) (i n m k : Nat), decAt i n l = some (m, k) → ∃ v t, l = varint v ++ t ∧ m = n + v * 128 ^ i ∧ k = i + (varint v).length ∧ (0 < i → v ≠ 0)
  | [], i, n, m, k, h => by simp [decAt] at h
  | b :: r, i, n, m, k, h => by
    unfold decAt at h
    split at h
    · cases h
    split at h
    · cases h
    split at h
    · rename_i hb
      split at h
      · cases h
      · rename_i h0
        injection h with h
        injection h with h1 h2
        refine ⟨b.toNat, r, ?_, ?_, ?_, by omega⟩
        · rw [varint_lo hb]; simp
        · rw [← h1, Nat.mod_eq_of_lt hb]
        · rw [varint_lo hb, ← h2]; rfl
    · rename_i hb
      obtain ⟨v, t, e1, e2, e3, e4⟩ := decAt_canon r (i + 1) _ m k h
      have hv := e4 (by omega)
      have hb2 := b.toNat_lt
      have hd : (v * 128 + b.toNat % 128) / 128 = v := by omega
      have hmod : (v * 128 + b.toNat % 128) % 128 + 128 = b.toNat := by omega
      refine ⟨v * 128 + b.toNat % 128, t, ?_, ?_, ?_, by omega⟩
      · rw [varint_hi (by omega), hd, hmod, e1]; simp
      · rw [e2, Nat.add_mul, Nat.pow_succ]
        have : v * (128 ^ i * 128) = v * 128 * 128 ^ i := by ac_rfl
        omega
      · rw [varint_hi (by omega), hd, e3, List.length_cons]; omega
theorem dec_canon {s : ByteArray} {n k : Nat} (h : dec s = some (n, k)) : s = numS n ++ s.extract k s.size ∧ k = (numS n).size := by
  obtain ⟨v, t, e1, e2, e3, _⟩ := decAt_canon _ _ _ _ _ h
  have hv : v = n := by simpa using e2.symm
  subst hv
  have hk : k = (numS v).size := by rw [e3, numS, bs_size]; omega
  have hs : s = numS v ++ bs t := by rw [← bs_eq s, e1, numS, bs_append]
  refine ⟨?_, hk⟩
  rw [hk]
  conv => rhs; rw [hs]
  rw [ex_right]
  exact hs

theorem rCnt_num {most : Int} {n : Nat} (t : ByteArray) (hn : n < 18446744073709551616) (hm : (n : Int) ≤ most) : rCnt most (numS n ++ t, 0) = (n, (t, 0)) := by
  have h := dec_varint hn t
  have h1 : decN (numS n ++ t) = n := by rw [decN, h]
  have h2 : decK (numS n ++ t) = (numS n).size := by rw [decK, h]
  have h3 : 1 ≤ (numS n).size := by rw [numS, bs_size]; exact varint_len n
  unfold rCnt
  dsimp only
  rw [if_neg (by simp), h2, h1, if_neg (by omega), if_neg (by omega), ex_right]
theorem rTxt_txt {most : Int} (x t : ByteArray) (hn : x.size < 18446744073709551616) (hm : (x.size : Int) ≤ most) : rTxt most (txtS x ++ t, 0) = (x, (t, 0)) := by
  have h : rCnt most (txtS x ++ t, 0) = (x.size, (x ++ t, 0)) := by rw [txtS, ByteArray.append_assoc]; exact rCnt_num _ hn hm
  unfold rTxt
  rw [h]
  dsimp only
  rw [if_neg (by simp), if_neg (by rw [ByteArray.size_append]; omega), ex_left, ex_right]
theorem rCnt_back {most : Int} {r : RS} (h : (rCnt most r).2.2 = 0) : r.2 = 0 ∧ r.1 = numS (rCnt most r).1 ++ (rCnt most r).2.1 ∧ ((rCnt most r).1 : Int) ≤ most := by
  unfold rCnt at h ⊢
  split at h
  · rename_i h0; exact absurd h h0
  · rename_i h0
    rw [if_neg h0]
    split at h
    · cases h
    · rename_i hk
      rw [if_neg hk]
      split at h
      · cases h
      · rename_i hm
        rw [if_neg hm]
        refine ⟨by simpa using h0, ?_, by dsimp only; omega⟩
        have hne : dec r.1 ≠ none := fun e => hk ((decK_le r.1).2.2 e)
        obtain ⟨⟨n, k⟩, hd⟩ := Option.ne_none_iff_exists'.1 hne
        have e1 : decN r.1 = n := by rw [decN, hd]
        have e2 : decK r.1 = k := by rw [decK, hd]
        rw [e1, e2]
        exact (dec_canon hd).1
theorem rTxt_back {most : Int} {r : RS} (h : (rTxt most r).2.2 = 0) : r.2 = 0 ∧ r.1 = txtS (rTxt most r).1 ++ (rTxt most r).2.1 ∧ ((rTxt most r).1.size : Int) ≤ most := by
  unfold rTxt at h ⊢
  split at h
  · rename_i h0; exact absurd h h0
  · rename_i h0
    rw [if_neg h0]
    obtain ⟨h1, h2, h3⟩ := rCnt_back (by simpa using h0 : (rCnt most r).2.2 = 0)
    split at h
    · cases h
    · rename_i hk
      rw [if_neg hk]
      have hz : ((rCnt most r).2.1.extract 0 (rCnt most r).1).size = (rCnt most r).1 := by rw [ByteArray.size_extract]; omega
      refine ⟨h1, ?_, by dsimp only; rw [hz]; exact h3⟩
      dsimp only
      rw [txtS, hz, ByteArray.append_assoc, ex_cut]
      exact h2
end Go.Proofs.YtklpamhhbigjfaaDoor
