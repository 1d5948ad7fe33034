/- The package checksum and the reference of chapter 2: sums. -/
import Derived.Test.YtklpamhhbigjfaaCrcP
import Derived.Test.YtklpamhhbigjfaaKit9
import Derived.Laws.BitsAllLaws
import Derived.BigQuiet
namespace Go.Proofs.Ytklpamhhbigjfaa
open Go.RowKit
set_option linter.unusedSimpArgs false
set_option linter.unusedVariables false

theorem and1_u32 (x : Nat) (h : x < 4294967296) : bits BinOp.and IntKind.u32 (x : Int) 1 = ((x % 2 : Nat) : Int) := by
  have := u32_and_nat x 1 h (by omega)
  rw [Nat.and_one_is_mod] at this
  exact this
theorem xorP_u32 (x : Nat) (h : x < 4294967296) : bits BinOp.xor IntKind.u32 ((x : Int) / 2) 2197175160 = ((x / 2 ^^^ POLY : Nat) : Int) := by
  have := u32_xor_nat (x / 2) 2197175160 (by omega) (by omega)
  simpa [POLY] using this

set_option maxHeartbeats 1000000 in
theorem shift_any (x n : Nat) (w : World) (hx : x < 4294967296) (hn : n < 1000) :
    Calls Try.prog 105 #[.int .u32 x, .int .i64 n] w fun e w' => e = .returned (.int .u32 (shn n x : Nat)) ∧ w = w' := by
  go_enter Try.func105, Try.ntmps105
  go_wp2
  go_loopw [0, 6] (fun t0 t6 wr => ∃ (k y : Nat), t0 = .int .u32 y ∧ t6 = .int .i64 k ∧ k ≤ n ∧ Hid (y = shn k x) ∧ y < 4294967296 ∧ Hid (wr = w)) (fun _ t6 _ => n - (intOf t6).toNat)
  case atStart => exact ⟨0, x, rfl, rfl, Nat.zero_le _, rfl, hx, rfl⟩
  case round =>
    obtain ⟨k, y, rfl, rfl, hk, HY, hy, HW⟩ := hrel
    have e1 := and1_u32 y hy
    have e2 := xorP_u32 y hy
    by_cases hlt : k < n
    · by_cases hm : y % 2 = 1
      · have e3 : sh y = y / 2 ^^^ POLY := by rw [sh, if_pos hm]
        have hs := sh_lt hy
        rw [e3] at hs
        have HE := Lib.hid e3
        clear e3
        go_wp2
        go_roundw
        case measure => simp [intOf]; omega
        case rel => exact ⟨k + 1, _, rfl, by go_num, by omega, by show _ = _; rw [shn_succ, ← HY.out, HE.out], hs, HW⟩
      · have hm0 : y % 2 = 0 := by omega
        have e3 : sh y = y / 2 := by rw [sh, if_neg hm]
        have HE := Lib.hid e3
        clear e3 hm
        go_wp2
        go_roundw
        case measure => simp [intOf]; omega
        case rel => exact ⟨k + 1, y / 2, by go_num, by go_num, by omega, by show _ = _; rw [shn_succ, ← HY.out, HE.out], by omega, HW⟩
    · have hkn : k = n := by omega
      subst hkn
      go_wp2
      go_ret
      exact ⟨congrArg (fun z : Nat => Ending.returned (.int .u32 (z : Int))) HY.out, HW.out.symm⟩

theorem rem2_u32 (x : Nat) : (x : Int).tmod 2 = ((x % 2 : Nat) : Int) := by
  rw [Int.tmod_eq_emod_of_nonneg (by omega)]; omega
theorem shiftR_any (x : Nat) (w : World) (hx : x < 4294967296) :
    Calls Try.prog 77 #[.int .u32 x] w fun e w' => e = .returned (.int .u32 (sh x : Nat)) ∧ w = w' := by
  have e2 := xorP_u32 x hx
  by_cases hm : x % 2 = 1
  · have e3 : sh x = x / 2 ^^^ POLY := by rw [sh, if_pos hm]
    rw [e3]
    clear e3
    go_enter Try.func77, Try.ntmps77
    go_wp2
    go_ret
    exact ⟨rfl, rfl⟩
  · have e3 : sh x = x / 2 := by rw [sh, if_neg hm]
    rw [e3]
    clear e3
    have hm0 : x % 2 = 0 := by omega
    clear hm
    go_enter Try.func77, Try.ntmps77
    go_wp2
    go_ret
    exact ⟨rfl, rfl⟩
theorem not_u32 (x : Nat) (h : x < 4294967296) : bits BinOp.xor IntKind.u32 IntKind.u32.max (x : Int) = ((4294967295 - x : Nat) : Int) := by
  refine (u32_xor_nat 4294967295 x (by omega) h).trans ?_
  congr 1
  refine Nat.eq_of_testBit_eq fun i => ?_
  have h2 : 4294967295 - x = 2 ^ 32 - (x + 1) := by omega
  rw [h2, Nat.testBit_two_pow_sub_succ (show x < 2 ^ 32 from h), Nat.testBit_xor, show (4294967295 : Nat) = 2 ^ 32 - 1 from rfl, Nat.testBit_two_pow_sub_one]
  by_cases hi : i < 32
  · simp [hi]
  · have : x.testBit i = false := Nat.testBit_lt_two_pow (Nat.lt_of_lt_of_le h (show 2 ^ 32 ≤ 2 ^ i from Nat.pow_le_pow_right (by decide) (by omega)))
    simp [hi, this]
theorem xor_byte (x : Nat) (b : UInt8) (hx : x < 4294967296) : bits BinOp.xor IntKind.u32 (x : Int) ((b.toNat : Int) % 4294967296) = ((x ^^^ b.toNat : Nat) : Int) := by
  have := b.toNat_lt
  rw [show ((b.toNat : Int) % 4294967296) = (b.toNat : Int) by omega]
  exact u32_xor_nat x b.toNat hx (by omega)
theorem crcU_take (x : Nat) (s : ByteArray) (k : Nat) (hk : k < s.size) : crcU x (s.data.toList.take (k + 1)) = shn 8 (crcU x (s.data.toList.take k) ^^^ s[k].toNat) := by
  have h : k < s.data.toList.length := by simpa using hk
  rw [List.take_succ_eq_append_getElem h, crcU_snoc]
  simp
  rfl
set_option maxHeartbeats 1000000 in
theorem updateR_any (x : Nat) (s : ByteArray) (w : World) (hx : x < 4294967296) (hs : s.size ≤ 140737488355328) :
    Calls Try.prog 56 #[.int .u32 x, .string s] w fun e w' => e = .returned (.int .u32 (4294967295 - crcU (4294967295 - x) s.data.toList : Nat)) ∧ w = w' := by
  have hsg : IntKind.u32.signed = false := rfl
  have hno := not_u32 x hx
  obtain ⟨X, hX⟩ : ∃ X, X = 4294967295 - x := ⟨_, rfl⟩
  have hXl : X < 4294967296 := by omega
  rw [← hX] at hno ⊢
  clear hX
  go_enter Try.func56, Try.ntmps56
  go_wp2
  go_loopw [5, 6] (fun t5 t6 wr => ∃ (k y : Nat), t5 = .int .u32 y ∧ t6 = .int .i64 k ∧ k ≤ s.size ∧ Hid (y = crcU X (s.data.toList.take k)) ∧ y < 4294967296 ∧ Hid (wr = w)) (fun _ t6 _ => s.size - (intOf t6).toNat)
  case atStart => exact ⟨0, X, rfl, rfl, Nat.zero_le _, by show _ = _; simp [crcU], hXl, rfl⟩
  case round =>
    clear hno
    obtain ⟨k, y, rfl, rfl, hk, HY, hy, HW⟩ := hrel
    by_cases hlt : k < s.size
    · obtain ⟨b, hb⟩ : ∃ b, b = s[k] := ⟨_, rfl⟩
      have hstep := crcU_take X s k hlt
      rw [← HY.out, ← hb] at hstep
      have e1 := xor_byte y b hy
      have hz := xor_lt hy (show b.toNat < 4294967296 by have := b.toNat_lt; omega)
      obtain ⟨z, hzz⟩ : ∃ z, z = y ^^^ b.toNat := ⟨_, rfl⟩
      rw [← hzz] at e1 hz hstep
      have HS := Lib.hid hstep
      clear hzz hstep
      have hb2 : (s[k]'hlt) = b := hb.symm
      have HB := Lib.hid hb
      clear hb
      go_wp2
      go_loopw [5, 7] (fun t5 t7 wq => ∃ (j q : Nat), t5 = .int .u32 q ∧ t7 = .int .i64 j ∧ j ≤ 8 ∧ Hid (q = shn j z) ∧ q < 4294967296 ∧ Hid (wq = w)) (fun _ t7 _ => 8 - (intOf t7).toNat)
      case atStart => exact ⟨0, z, rfl, rfl, Nat.zero_le _, rfl, hz, HW⟩
      case round =>
        obtain ⟨j, q, rfl, rfl, hj, HQ, hq, HWQ⟩ := hrel
        by_cases hjl : j < 8
        · go_wp2_with (go_at_call 77; refine (shiftR_any q _ hq).mono ?_; rintro e w' ⟨rfl, rfl⟩)
          go_roundw
          case measure => simp [intOf]; omega
          case rel => exact ⟨j + 1, _, rfl, by go_num, by omega, by show _ = _; rw [shn_succ, ← HQ.out], sh_lt hq, HWQ⟩
        · have hj8 : j = 8 := by omega
          subst hj8
          go_wp2
          go_roundw
          case measure => simp [intOf]; omega
          case rel => exact ⟨k + 1, q, rfl, by go_num, by omega, by show _ = _; rw [HS.out]; exact HQ.out, hq, HWQ⟩
    · have hno := not_u32 y hy
      go_wp2
      go_ret
      exact ⟨congrArg (fun z : Nat => Ending.returned (.int .u32 ((4294967295 - z : Nat) : Int))) (HY.out.trans (by rw [List.take_of_length_le (by simp; omega)])), HW.out.symm⟩
end Go.Proofs.Ytklpamhhbigjfaa
