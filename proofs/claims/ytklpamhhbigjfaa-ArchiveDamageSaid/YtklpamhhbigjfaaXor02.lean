/- The reference of chapter 2: Xor. -/
import Derived.Test.YtklpamhhbigjfaaKit12
import Derived.Test.YtklpamhhbigjfaaDmg14
namespace Go.Proofs.Ytklpamhhbigjfaa
open Go.RowKit
set_option linter.unusedSimpArgs false
set_option linter.unusedVariables false

theorem xorAt_get {l m : List UInt8} {i : Nat} (h : i + m.length ≤ l.length) (j : Nat) (hj : j < l.length) : (xorAt l i m)[j]? = some (l[j] ^^^ (if j < i then 0 else m.getD (j - i) 0)) := by
  have e : (List.replicate i (0 : UInt8) ++ m ++ List.replicate (l.length - i - m.length) 0)[j]? = some (if j < i then 0 else m.getD (j - i) 0) := by
    by_cases h1 : j < i
    · rw [List.append_assoc, List.getElem?_append_left (by simpa using h1), List.getElem?_replicate_of_lt h1, if_pos h1]
    · rw [if_neg h1, List.append_assoc, List.getElem?_append_right (by simpa using h1), List.length_replicate]
      by_cases h2 : j - i < m.length
      · rw [List.getElem?_append_left h2, List.getD, List.getElem?_eq_getElem h2]; rfl
      · rw [List.getElem?_append_right (by omega), List.getElem?_replicate_of_lt (by omega), List.getD, List.getElem?_eq_none (by omega)]; rfl
  rw [xorAt, xorZ, List.getElem?_zipWith, e, List.getElem?_eq_getElem hj]
theorem xorAt_nil (l : List UInt8) (i : Nat) (hi : i ≤ l.length) : xorAt l i [] = l := by
  refine List.ext_getElem? fun j => ?_
  by_cases hj : j < l.length
  · rw [xorAt_get (by simpa using hi) j hj, List.getElem?_eq_getElem hj]
    simp
  · rw [List.getElem?_eq_none (by rw [xorAt_len _ _ _ (by simpa using hi)]; omega), List.getElem?_eq_none (by omega)]
theorem xorAt_step {l m : List UInt8} {i k : Nat} (h : i + m.length ≤ l.length) (hk : k < m.length) : (xorAt l i (m.take k)).set (i + k) (l[i + k]'(by omega) ^^^ m[k]) = xorAt l i (m.take (k + 1)) := by
  have h1 : i + (m.take k).length ≤ l.length := by rw [List.length_take]; omega
  have h2 : i + (m.take (k + 1)).length ≤ l.length := by rw [List.length_take]; omega
  refine List.ext_getElem? fun j => ?_
  by_cases hj : j < l.length
  · rw [xorAt_get h2 j hj]
    by_cases e : i + k = j
    · subst e
      rw [List.getElem?_set_self (by rw [xorAt_len _ _ _ h1]; exact hj), if_neg (by omega), Nat.add_sub_cancel_left, List.getD, List.getElem?_take_of_lt (by omega), List.getElem?_eq_getElem hk]
      rfl
    · rw [List.getElem?_set_ne e, xorAt_get h1 j hj]
      congr 2
      by_cases h3 : j < i
      · rw [if_pos h3, if_pos h3]
      · rw [if_neg h3, if_neg h3, List.getD, List.getD]
        by_cases h4 : j - i < k
        · rw [List.getElem?_take_of_lt h4, List.getElem?_take_of_lt (by omega)]
        · rw [List.getElem?_eq_none (by rw [List.length_take]; omega), List.getElem?_eq_none (by rw [List.length_take]; omega)]
  · rw [List.getElem?_eq_none (by rw [List.length_set, xorAt_len _ _ _ h1]; omega), List.getElem?_eq_none (by rw [xorAt_len _ _ _ h2]; omega)]
theorem xorAt_old {l m : List UInt8} {i k : Nat} (h : i + m.length ≤ l.length) (hk : k < m.length) (hj : i + k < (xorAt l i (m.take k)).length) : (xorAt l i (m.take k))[i + k] = l[i + k]'(by omega) := by
  have h1 : i + (m.take k).length ≤ l.length := by rw [List.length_take]; omega
  have e := xorAt_get h1 (i + k) (by omega)
  rw [List.getElem?_eq_getElem hj, if_neg (by omega), List.getD, List.getElem?_eq_none (by rw [List.length_take]; omega)] at e
  simpa using e

set_option maxHeartbeats 1000000 in
set_option maxRecDepth 100000 in
theorem xor_any (s m : ByteArray) (i : Nat) (w : World) (h : i + m.size ≤ s.size) (hs : s.size ≤ 140737488355328) :
    Calls Try.prog 15 #[.string s, .int .i64 (i : Nat), .string m] w fun e w' => e = .returned (.string (bs (xorAt s.data.toList i m.data.toList))) ∧ Below w.heap.size w w' := by
  have hl : i + m.data.toList.length ≤ s.data.toList.length := by simpa using h
  obtain ⟨l, hll⟩ : ∃ l, l = s.data.toList := ⟨_, rfl⟩
  obtain ⟨M, hM⟩ : ∃ M, M = m.data.toList := ⟨_, rfl⟩
  have hlz : l.length = s.size := by rw [hll]; simp
  have hMz : M.length = m.size := by rw [hM]; simp
  rw [← hll, ← hM] at hl ⊢
  have HLL := Lib.hid hll
  have HM := Lib.hid hM
  clear hll hM
  go_enter Try.func15, Try.ntmps15
  go_wp2_with (first | ((with_reducible refine at_dst (N := 10) rfl ?_); refine wpList_bytesOwn 9 57 5 s (.tmp 9) rfl rfl rfl (Try.underlying9) (Try.underlying57) (Try.underlying5) ?_; intro g cap w1 hbo; rw [← HLL.out] at hbo))
  go_loopw [8] (fun t8 wr => ∃ k : Nat, t8 = .int .i64 k ∧ k ≤ m.size ∧ Hid (BO w wr g (xorAt l i (M.take k)))) (fun t8 _ => m.size - (intOf t8).toNat)
  case atStart => exact ⟨0, rfl, Nat.zero_le _, by show BO _ _ _ _; rw [List.take_zero, xorAt_nil _ _ (by omega)]; exact hbo⟩
  case round =>
    clear hbo
    obtain ⟨k, rfl, hk, HB⟩ := hrel
    by_cases hlt : k < m.size
    · have hkM : k < M.length := by omega
      have hlen : (xorAt l i (M.take k)).length = l.length := xorAt_len _ _ _ (by rw [List.length_take]; omega)
      have hj : i + k < (xorAt l i (M.take k)).length := by omega
      have c0 := HB.out.cell (i + k) hj
      have f0 := HB.out.frozen (i + k) hj
      rw [xorAt_old hl hkM hj] at c0
      have hil : i + k < l.length := by omega
      obtain ⟨x, hx⟩ : ∃ x, x = l[i + k]'hil := ⟨_, rfl⟩
      obtain ⟨y, hy⟩ : ∃ y, y = M[k]'hkM := ⟨_, rfl⟩
      have hy2 : (m[k]'hlt).toNat = y.toNat := by
        rw [hy]
        have : M[k]'hkM = m[k]'hlt := by
          have e := HM.out
          subst e
          simp
          rfl
        rw [this]
      have hs2 := xorAt_step hl hkM
      rw [← hx, ← hy] at hs2
      rw [← hx] at c0
      have hxy : bits BinOp.xor IntKind.u8 (x.toNat : Int) (y.toNat : Int) = (((x ^^^ y).toNat : Nat) : Int) := by
        rw [u8_xor_nat _ _ x.toNat_lt y.toNat_lt, UInt8.toNat_xor]
      have c1 : wr.cell? ⟨g, i + k, none⟩ = some (.int .u8 (x.toNat : Int)) := c0
      have HS2 := Lib.hid hs2
      have hil2 : i + k < s.size := by omega
      clear hx hy hs2 c0 hj hlen hil hkM
      go_wp2
      go_region
      have hb2 : BO w ((wr.setCell ⟨g, i + k, none⟩ (.int .u8 ((x.toNat ^^^ y.toNat : Nat) : Int))).drew) g (xorAt l i (M.take (k + 1))) := by
        have := (HB.out.set (i + k) (x ^^^ y)).drew
        rw [HS2.out, byV, UInt8.toNat_xor] at this
        exact this
      have HB2 := Lib.hid hb2
      clear hb2
      go_wp2
      go_roundw
      case measure => simp [intOf]; omega
      case rel => exact ⟨k + 1, by go_num, by omega, HB2⟩
    · have hkm : k = m.size := by omega
      subst hkm
      have hb := HB.out
      rw [List.take_of_length_le (by omega)] at hb
      have hcv := conv_BO (P := Try.prog) (c := cap) (src := 57) (dst := 9) (n := s.size) hb (Try.underlying57) (Try.underlying5) (Try.underlying9) (by rw [xorAt_len _ _ _ hl, hlz])
      have HCV := Lib.hid hcv
      have hbel := hb.1
      clear hb hcv HB
      go_wp2_with (first | ((with_reducible refine at_dst (N := 45) rfl ?_); refine wpList_run (v := .string (bs (xorAt l i M))) rfl (exec_convert rfl rfl HCV.out) ?_))
      go_ret
      exact ⟨rfl, hbel⟩
end Go.Proofs.Ytklpamhhbigjfaa
