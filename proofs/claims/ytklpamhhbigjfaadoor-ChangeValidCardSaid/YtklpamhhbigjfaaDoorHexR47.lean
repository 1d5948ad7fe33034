/- The reference's hex. -/
import Derived.Test.YtklpamhhbigjfaaDoorHex47
import Derived.BigQuiet
namespace Go.Proofs.YtklpamhhbigjfaaDoor
open Go.RowKit
set_option linter.unusedSimpArgs false
set_option linter.unusedVariables false

theorem dig_ext (d : Nat) (h : d < 16) : digS.extract d (d + 1) = bs [hdL.getD d 0] := by
  have key : ∀ d : Fin 16, digS.extract d.val (d.val + 1) = bs [hdL.getD d.val 0] := by decide +kernel
  exact key ⟨d, h⟩
theorem hex_step (p : ByteArray) (l : List UInt8) (b : UInt8) (h : p = bs l) : p ++ digS.extract (b.toNat / 16) (b.toNat / 16 + 1) ++ digS.extract (b.toNat % 16) (b.toNat % 16 + 1) = bs (l ++ hexB b) := by
  have := b.toNat_lt
  rw [dig_ext _ (by omega), dig_ext _ (by omega), h, bs_append, bs_append, List.append_assoc]
  rfl
set_option maxHeartbeats 1000000 in
set_option maxRecDepth 100000 in
theorem hexR_any (s : ByteArray) (w : World) (hs : s.size ≤ 1000000) :
    Calls Tryd.prog 40 #[.string s] w fun e w' => e = .returned (.string (bs (hexL s.data.toList))) ∧ Below w.heap.size w w' := by
  have hst := St.start w
  go_enter Tryd.func40, Tryd.ntmps40
  go_wp2
  go_loopw [4, 5] (fun t4 t5 wr => ∃ (k : Nat) (p : ByteArray), t4 = .string p ∧ t5 = .int .i64 k ∧ k ≤ s.size ∧ Hid (p = bs (hexL (s.data.toList.take k))) ∧ p.size = 2 * k ∧ Below w.heap.size w wr) (fun _ t5 _ => s.size - (intOf t5).toNat)
  case atStart => exact ⟨0, ⟨#[]⟩, rfl, rfl, Nat.zero_le _, rfl, rfl, hst.base⟩
  case round =>
    obtain ⟨k, p, rfl, rfl, hk, HP, hps, hbel⟩ := hrel
    by_cases hlt : k < s.size
    · have hx256 := s[k].toNat_lt
      go_wp2
      go_quiet (fail)
      go_wp2
      go_roundw
      case measure => simp [intOf]; omega
      case rel =>
        have hkl : k < s.data.toList.length := by simpa using hlt
        have e : s.data.toList[k] = s[k] := by simp; rfl
        have hstp := hex_step p _ s[k] HP.out
        have hnew : bs (hexL (s.data.toList.take k) ++ hexB s[k]) = bs (hexL (s.data.toList.take (k + 1))) := by rw [hexL_snoc _ _ hkl, e]
        refine ⟨k + 1, _, congrArg Value.string hstp, by go_num, by omega, hnew, ?_, hbel.trans ⟨rfl, rfl, rfl, Nat.le_refl _, fun _ _ => rfl⟩⟩
        rw [bs_size, List.length_append, hexL_len, List.length_take]
        show _ + 2 = _
        omega
    · have hkn : k = s.size := by omega
      subst hkn
      have hall : s.data.toList.take s.size = s.data.toList := List.take_of_length_le (by simp)
      go_wp2
      go_ret
      exact ⟨ret_str (by rw [HP.out, hall]), hbel⟩
end Go.Proofs.YtklpamhhbigjfaaDoor
