/- Chapter 14: the example holds: awake. The walks of ArchiveFrames. -/
import Derived.Test.YtklpamhhbigjfaaEncW14
import Derived.Test.YtklpamhhbigjfaaDmg14
import Derived.Test.YtklpamhhbigjfaaReadR14
namespace Go.Proofs.Ytklpamhhbigjfaa
open Go.RowKit
set_option linter.unusedSimpArgs false
set_option linter.unusedVariables false

theorem ex_frame : (frS 300 true true ⟨#[97, 98]⟩).size = 64 ∧ (frS 300 true true ⟨#[97, 98]⟩).extract 0 7 = ⟨#[44, 1, 3, 2, 97, 98, 0]⟩ := by decide +kernel
theorem ex_size : (encB zDS 0 []).size = 64 := by decide +kernel
theorem ex_pr : Pr14 zDS [] := ⟨by simp, fun c hc => by simp at hc, by decide, by decide⟩

set_option maxHeartbeats 1000000 in
set_option maxRecDepth 100000 in
theorem awake14_any (w : World) : Calls Try.prog 10 #[] w fun e w' => e = .returned (.bool true) ∧ Below w.heap.size w w' := by
  have hb0 : Below w.heap.size w w := Below.refl _ _
  obtain ⟨h1, h2⟩ := ex_frame
  have k1 := fun w => frame_any 300 true true ⟨#[97, 98]⟩ w (by decide)
  have k2 := fun w => size_any zDS 0 [] none 0 w ex_pr (Or.inl rfl) (by rw [ex_size]; omega)
  rw [ex_size] at k2
  obtain ⟨F, hF⟩ : ∃ F, F = frS 300 true true ⟨#[97, 98]⟩ := ⟨_, rfl⟩
  rw [← hF] at k1 h1 h2
  have K1 := Lib.hid k1
  have K2 := Lib.hid k2
  clear k1 k2 hF
  go_enter Try.func10, Try.ntmps10
  go_wp2_with (first | (go_at_call 13; refine (K1.out _).mono ?_; rintro e w' ⟨rfl, hb⟩; replace hb0 := below_next hb0 hb; clear hb)  | (go_at_call 24; refine (K2.out _).mono ?_; rintro e w' ⟨rfl, hb⟩; replace hb0 := below_next hb0 hb; clear hb))
  go_ret
  exact ⟨rfl, hb0⟩

theorem rfV_shape (s : ByteArray) : ∃ N A B D E, rfV s = .tuple #[.int .i64 N, .bool A, .bool B, .string D, .int .i64 E] := by
  unfold rfV
  split <;> exact ⟨_, _, _, _, _, rfl⟩

set_option maxHeartbeats 1000000 in
set_option maxRecDepth 100000 in
theorem lawFrames_walk (n : Int) (a b : Bool) (d s : ByteArray) (w : World) (hd : d.size ≤ 140737488351232) (hs : s.size ≤ 140737488351232) :
    Calls Try.prog 3 #[.int .i64 n, .bool a, .bool b, .string d, .string s] w fun e w' => e = .returned (.bool true) ∧ Below w.heap.size w w' := by
  have hb0 : Below w.heap.size w w := Below.refl _ _
  have k1 := fun w => frame_any n a b d w (by omega)
  have k2 := fun w => frameR_any n a b d w (by omega)
  have k3 := fun w => readFrame_any s w (by omega)
  have k4 := fun w => readFrameR_any s w (by omega)
  obtain ⟨N, A, B, D, E, hV⟩ := rfV_shape s
  obtain ⟨F, hF⟩ : ∃ F, F = frS n a b d := ⟨_, rfl⟩
  rw [← hF] at k1 k2
  rw [hV] at k3 k4
  have K1 := Lib.hid k1
  have K2 := Lib.hid k2
  have K3 := Lib.hid k3
  have K4 := Lib.hid k4
  clear k1 k2 k3 k4 hF hV
  go_enter Try.func3, Try.ntmps3
  go_wp2_with (first | (go_at_call 10; refine (awake14_any _).mono ?_; rintro e w' ⟨rfl, hb⟩; replace hb0 := below_next hb0 hb; clear hb)  | (go_at_call 13; refine (K1.out _).mono ?_; rintro e w' ⟨rfl, hb⟩; replace hb0 := below_next hb0 hb; clear hb)  | (go_at_call 14; refine (K2.out _).mono ?_; rintro e w' ⟨rfl, hb⟩; replace hb0 := below_next hb0 hb; clear hb)  | (go_at_call 11; refine (K3.out _).mono ?_; rintro e w' ⟨rfl, hb⟩; replace hb0 := below_next hb0 hb; clear hb)  | (go_at_call 12; refine (K4.out _).mono ?_; rintro e w' ⟨rfl, hb⟩; replace hb0 := below_next hb0 hb; clear hb))
  all_goals (go_ret; exact ⟨ret_bool (by simp), hb0⟩)
end Go.Proofs.Ytklpamhhbigjfaa
