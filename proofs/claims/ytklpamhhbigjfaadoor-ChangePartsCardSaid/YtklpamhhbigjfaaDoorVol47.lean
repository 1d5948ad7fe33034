/- The reference of chapter 47: volume. -/
import Derived.Test.YtklpamhhbigjfaaDoorSmall47
namespace Go.Proofs.YtklpamhhbigjfaaDoor
open Go.RowKit
set_option linter.unusedSimpArgs false
set_option linter.unusedVariables false

set_option maxHeartbeats 1000000 in
theorem volume_any (s : ByteArray) (w : World) (hs : s.size ≤ 140737488355328) :
    Calls Tryd.prog 37 #[.string s] w fun e w' => e = .returned (.bool (volOk s)) ∧ Below w.heap.size w w' := by
  by_cases h1 : 1 ≤ s.size ∧ s.size ≤ 8
  · by_cases hu : upB s[0] = true
    · have HU := Lib.hid hu
      simp only [upB, decide_eq_true_eq] at hu
      obtain ⟨hu1, hu2⟩ := hu
      obtain ⟨h11, h12⟩ := h1
      go_enter Tryd.func37, Tryd.ntmps37
      go_wp2
      go_loop [3] (fun t => ∃ k : Nat, k ≤ s.size ∧ t = .int .i64 k ∧ Hid (∀ i (h : i < s.size), i < k → (upB s[i] = true ∨ (digB s[i] = true ∧ i ≠ 0)))) (fun t => s.size - (intOf t).toNat)
      case atStart => exact ⟨0, Nat.zero_le _, rfl, fun i _ hi => absurd hi (by omega)⟩
      case round =>
        obtain ⟨k, hk, rfl, HZ⟩ := hrel
        by_cases hlt : k < s.size
        · go_wp2
          all_goals first  | (go_round; (case measure => simp [intOf]; omega); (case rel => (refine ⟨k + 1, by omega, by go_num, volOk_split HZ.out hlt ?_⟩; by_cases hk0 : k = 0; (subst hk0; exact Or.inl HU.out); clear HZ HU; simp only [upB, digB, Bool.not_eq_false', Bool.not_eq_true', decide_eq_true_eq, decide_eq_false_iff_not, beq_eq_false_iff_ne, beq_iff_eq, ne_eq] at *; omega)))  | (go_ret; refine ⟨ret_bool ?_, Below.refl _ _⟩; symm; simp only [volOk, decide_eq_false_iff_not]; intro hv; have hv2 := hv.2.2 k hlt; clear HU HZ hv; simp only [upB, digB, Bool.not_eq_false', Bool.not_eq_true', decide_eq_true_eq, decide_eq_false_iff_not, beq_eq_false_iff_ne, beq_iff_eq, ne_eq] at *; omega)
        · have hk' : k = s.size := by omega
          have hall : VolAt s := fun i hi => HZ.out i hi (by omega)
          have HALL := Lib.hid hall
          clear hk' hall
          go_wp2
          go_ret
          exact ⟨ret_bool (by symm; simp only [volOk, decide_eq_true_eq]; exact ⟨h11, h12, HALL.out⟩), Below.refl _ _⟩
    · have HU := Lib.hid hu
      simp only [upB, decide_eq_true_eq] at hu
      obtain ⟨h11, h12⟩ := h1
      go_enter Tryd.func37, Tryd.ntmps37
      go_wp2
      all_goals (go_ret; refine ⟨ret_bool ?_, Below.refl _ _⟩; symm; simp only [volOk, decide_eq_false_iff_not]; intro hv; have hv2 := hv.2.2 0 (by omega); rcases hv2 with hv2 | hv2; (exact HU.out hv2); exact hv2.2 rfl)
  · go_enter Tryd.func37, Tryd.ntmps37
    go_wp2
    all_goals (go_ret; refine ⟨ret_bool ?_, Below.refl _ _⟩; symm; simp only [volOk, decide_eq_false_iff_not]; omega)
end Go.Proofs.YtklpamhhbigjfaaDoor
