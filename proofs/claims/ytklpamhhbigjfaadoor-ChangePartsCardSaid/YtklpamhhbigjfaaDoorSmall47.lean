/- The package change: fits, volumeName; the reference: volume. -/
import Derived.Test.YtklpamhhbigjfaaDoorSpec47
import Derived.Test.YtklpamhhbigjfaaDoorKit7
namespace Go.Proofs.YtklpamhhbigjfaaDoor
open Go.RowKit
set_option linter.unusedSimpArgs false
set_option linter.unusedVariables false

theorem fits_any (lo hi : Int) (s : ByteArray) (w : World) :
    Calls Tryd.prog 35 #[.agg #[.int .i64 lo, .int .i64 hi], .string s] w fun e w' => e = .returned (.bool (fitsB lo hi s)) ∧ Below w.heap.size w w' := by
  have hst := St.start w
  go_enter Tryd.func35, Tryd.ntmps35
  go_wp2_with (first | ((with_reducible refine at_dst (N := 2) rfl ?_); refine wpList_box hst 59 #[.int .i64 lo, .int .i64 hi] rfl ?hr ?_; (case hr => first | (go_simp; done) | (go_simp; rfl)); clear hst; intro g1 w1 hst; obtain ⟨hc1, hf1, hl1⟩ := hst.c0))
  all_goals (go_ret; exact ⟨ret_bool (by simp only [fitsB]; rw [Bool.eq_iff_iff]; simp only [decide_eq_true_eq, Bool.and_eq_true, Bool.false_eq_true, false_iff, iff_false, true_iff, iff_true]; omega), hst.base⟩)

theorem volOk_split {s : ByteArray} {k : Nat} (h : ∀ i (h : i < s.size), i < k → (upB s[i] = true ∨ (digB s[i] = true ∧ i ≠ 0))) (hk : k < s.size) (hx : upB s[k] = true ∨ (digB s[k] = true ∧ k ≠ 0)) :
    ∀ i (h : i < s.size), i < k + 1 → (upB s[i] = true ∨ (digB s[i] = true ∧ i ≠ 0)) := fun i hi hik => by
  by_cases e : i = k
  · subst e; exact hx
  · exact h i hi (by omega)

set_option maxHeartbeats 1000000 in
theorem volumeName_any (s : ByteArray) (w : World) (hs : s.size ≤ 140737488355328) :
    Calls Tryd.prog 36 #[.string s] w fun e w' => e = .returned (.bool (volOk s)) ∧ Below w.heap.size w w' := by
  have hst := St.start w
  go_enter Tryd.func36, Tryd.ntmps36
  go_wp2_with (first | ((with_reducible refine at_dst (N := 8) rfl ?_); refine wpList_bytes hst 9 74 5 s _ rfl rfl rfl (Tryd.underlying9) (Tryd.underlying74) (Tryd.underlying5) ?_; clear hst; intro g cap w1 hst HB hg))
  go_loop [10] (fun t => ∃ k : Nat, k ≤ s.size ∧ t = .int .i64 k ∧ Hid (∀ i (h : i < s.size), i < k → (upB s[i] = true ∨ (digB s[i] = true ∧ i ≠ 0)))) (fun t => s.size - (intOf t).toNat)
  case atStart => exact ⟨0, Nat.zero_le _, rfl, fun i _ hi => absurd hi (by omega)⟩
  case round =>
    obtain ⟨k, hk, rfl, HZ⟩ := hrel
    by_cases hlt : k < s.size
    · have hcell := HB.out k hlt
      obtain ⟨x, hx⟩ : ∃ x, x = s[k] := ⟨_, rfl⟩
      rw [← hx] at hcell
      have HX := Lib.hid hx
      clear hx
      go_wp2
      all_goals first  | (go_round; (case measure => simp [intOf]; omega); (case rel => (refine ⟨k + 1, by omega, by go_num, volOk_split HZ.out hlt ?_⟩; rw [← HX.out]; clear hst HB HZ HX hcell; simp only [upB, digB, Bool.not_eq_false', Bool.not_eq_true', decide_eq_true_eq, decide_eq_false_iff_not, beq_eq_false_iff_ne, beq_iff_eq, ne_eq] at *; omega)))  | (go_ret; refine ⟨ret_bool ?_, hst.base⟩; symm; simp only [volOk, decide_eq_false_iff_not]; intro hv; have hv2 := hv.2.2 k hlt; rw [← HX.out] at hv2; clear hst HB HZ HX hcell hv; simp only [upB, digB, Bool.not_eq_false', Bool.not_eq_true', decide_eq_true_eq, decide_eq_false_iff_not, beq_eq_false_iff_ne, beq_iff_eq, ne_eq] at *; omega)
    · have hk' : k = s.size := by omega
      have hall : VolAt s := fun i hi => HZ.out i hi (by omega)
      have HALL := Lib.hid hall
      clear hk' hall
      go_wp2
      all_goals (go_ret; refine ⟨ret_bool ?_, hst.base⟩; rw [Bool.eq_iff_iff]; simp only [volOk, decide_eq_true_eq, Bool.and_eq_true, Bool.false_eq_true, false_iff, iff_false, true_iff, iff_true]; have := HALL.out; simp only [this, and_true]; omega)
end Go.Proofs.YtklpamhhbigjfaaDoor
