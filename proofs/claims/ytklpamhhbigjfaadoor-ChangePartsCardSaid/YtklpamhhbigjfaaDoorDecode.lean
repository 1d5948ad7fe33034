/- The package wire: decode. -/
import Derived.Test.YtklpamhhbigjfaaDoorDec
namespace Go.Proofs.YtklpamhhbigjfaaDoor
open Go.RowKit
set_option linter.unusedSimpArgs false
set_option linter.unusedVariables false

set_option maxHeartbeats 1000000 in
set_option maxRecDepth 100000 in
theorem decode_any (s : ByteArray) (w : World) (hs : s.size ≤ 140737488355328) :
    Calls Tryd.prog 73 #[.string s] w fun e w' => e = .returned (.tuple #[.int .u64 (decN s), .int .i64 (decK s)]) ∧ w = w' := by
  go_enter Tryd.func73, Tryd.ntmps73
  go_wp2
  go_loop [4, 5] (fun t4 t5 => ∃ (i n : Nat), t4 = .int .u64 n ∧ t5 = .int .i64 i ∧ i ≤ s.size ∧ i ≤ 10 ∧ n < 18446744073709551616 ∧ Hid (n < 128 ^ i) ∧ Hid (dec s = decAt i n (s.data.toList.drop i))) (fun _ t5 => s.size - (intOf t5).toNat)
  case atStart => exact ⟨0, 0, rfl, rfl, by omega, by omega, by omega, by show 0 < 128 ^ 0; decide, rfl⟩
  case round =>
    obtain ⟨i, n, rfl, rfl, hi, hi2, hn, hn2, hd⟩ := hrel
    by_cases h1 : i < s.size
    · by_cases h2 : i < 10
      · have hst := dec_step hd.out h1 h2
        have hb : s[i].toNat < 256 := s[i].toNat_lt
        have hor := or_shift i n s[i].toNat (by omega) hn2.out hb
        have HST := Lib.hid hst
        have HOR := Lib.hid hor
        clear hst hor hb
        go_wp2
        all_goals first  | (go_round; (case measure => simp [intOf]; omega); (case rel => (obtain ⟨o1, o2, o3⟩ := HOR.out (by omega); refine ⟨i + 1, _, congrArg (Value.int .u64) o1, by go_num, by omega, by omega, o2, o3, ?_⟩; show _ = _; rw [HST.out, if_neg (by omega), if_neg (by omega)])))  | (go_ret2; refine ⟨?_, rfl⟩; have hdec : dec s = none := (by rw [HST.out]; first | (rw [if_pos (by omega)]; done) | (rw [if_neg (by omega), if_pos (by omega), if_pos (by omega)]; done)); rw [decN, decK, hdec]; rfl)  | (go_ret2; refine ⟨?_, rfl⟩; (have hi9 : i = 9 := (by omega)); subst hi9; have hdec : dec s = some (n + s[9].toNat % 128 * 128 ^ 9, 9 + 1) := (by rw [HST.out, if_neg (by omega), if_pos (by omega), if_neg (by omega)]); have o1 := (HOR.out (by omega)).1; rw [show (2 : Int) ^ (7 * 9) = 9223372036854775808 from by decide] at o1; rw [decN, decK, hdec]; show _ = Ending.returned (.tuple #[.int .u64 ((n + s[9].toNat % 128 * 128 ^ 9 : Nat) : Int), .int .i64 10]); rw [← o1]; rfl)  | (go_ret2; refine ⟨?_, rfl⟩; have hdec : dec s = some (n + s[i].toNat % 128 * 128 ^ i, i + 1) := (by rw [HST.out, if_neg (by omega), if_pos (by omega), if_neg (by omega)]); have o1 := (HOR.out (by omega)).1; have z : s[i].toNat = 0 := (by omega); rw [decN, decK, hdec]; show _ = Ending.returned (.tuple #[.int .u64 ((n + s[i].toNat % 128 * 128 ^ i : Nat) : Int), .int .i64 ((i + 1 : Nat) : Int)]); rw [← o1, z]; rfl)  | (go_ret2; refine ⟨?_, rfl⟩; have hdec : dec s = some (n + s[i].toNat % 128 * 128 ^ i, i + 1) := (by rw [HST.out, if_neg (by omega), if_pos (by omega), if_neg (by omega)]); rw [decN, decK, hdec, ← (HOR.out (by omega)).1]; rfl)
      · have hd0 : dec s = none := by rw [hd.out, show i = 10 by omega]; exact decAt_ten _ _
        have HD := Lib.hid hd0
        clear hd0
        go_wp2
        go_ret2
        exact ⟨by rw [decN, decK, HD.out]; rfl, rfl⟩
    · have hd0 : dec s = none := by rw [hd.out, List.drop_eq_nil_of_le (by simp; omega)]; rfl
      have HD := Lib.hid hd0
      clear hd0
      go_wp2
      go_ret2
      exact ⟨by rw [decN, decK, HD.out]; rfl, rfl⟩
end Go.Proofs.YtklpamhhbigjfaaDoor
