/- Chapter 14: the reference ReadFrame. -/
import Derived.Test.YtklpamhhbigjfaaRead14
namespace Go.Proofs.Ytklpamhhbigjfaa
open Go.RowKit
set_option linter.unusedSimpArgs false
set_option linter.unusedVariables false

set_option maxHeartbeats 1000000 in
set_option maxRecDepth 100000 in
theorem readFrameR_any (s : ByteArray) (w : World) (hs : s.size ≤ 140737488355328) :
    Calls Try.prog 12 #[.string s] w fun e w' => e = .returned (rfV s) ∧ Below w.heap.size w w' := by
  have hb0 : Below w.heap.size w w := Below.refl _ _
  by_cases hz : s.size = 64
  · have q0 : (s[0]'(by omega)).toNat = byB s 0 := (byB_at (by omega)).symm
    have q1 : (s[1]'(by omega)).toNat = byB s 1 := (byB_at (by omega)).symm
    have q2 : (s[2]'(by omega)).toNat = byB s 2 := (byB_at (by omega)).symm
    have q3 : (s[3]'(by omega)).toNat = byB s 3 := (byB_at (by omega)).symm
    have l0 := (s[0]'(by omega)).toNat_lt
    have l1 := (s[1]'(by omega)).toNat_lt
    have l3 := (s[3]'(by omega)).toNat_lt
    rw [q0] at l0
    rw [q1] at l1
    rw [q3] at l3
    by_cases hsh : RfShape s
    · obtain ⟨_, h2, h3, h4⟩ := hsh
      obtain ⟨b0, e0⟩ : ∃ b, b = byB s 0 := ⟨_, rfl⟩
      obtain ⟨b1, e1⟩ : ∃ b, b = byB s 1 := ⟨_, rfl⟩
      obtain ⟨b2, e2⟩ : ∃ b, b = byB s 2 := ⟨_, rfl⟩
      obtain ⟨b3, e3⟩ : ∃ b, b = byB s 3 := ⟨_, rfl⟩
      rw [← e0] at q0 l0
      rw [← e1] at q1 l1
      rw [← e2] at q2 h2
      rw [← e3] at q3 l3 h3 h4
      have HE := Lib.hid (And.intro e0 (And.intro e1 (And.intro e2 e3)))
      clear e0 e1 e2 e3
      obtain ⟨N, hN⟩ : ∃ N, N = b0 + 256 * b1 := ⟨_, rfl⟩
      have ho : (b0 : Int) + 256 * (b1 : Int) = (N : Int) := by omega
      have eN : rfN s = N := by rw [rfN, ← HE.out.1, ← HE.out.2.1, hN]
      have hNl : N < 65536 := by omega
      have eA : rfA s = ((b2 : Int) % 2 == 1) := by
        rw [rfA, ← HE.out.2.2.1, Bool.eq_iff_iff]; simp only [decide_eq_true_eq, beq_iff_eq]; omega
      have eB : rfB s = decide (2 ≤ (b2 : Int)) := by
        rw [rfB, ← HE.out.2.2.1, Bool.eq_iff_iff]; simp only [decide_eq_true_eq]; omega
      obtain ⟨A, hA⟩ : ∃ A, A = rfA s := ⟨_, rfl⟩
      obtain ⟨B, hB⟩ : ∃ B, B = rfB s := ⟨_, rfl⟩
      obtain ⟨D, hD⟩ : ∃ D, D = rfD s := ⟨_, rfl⟩
      have eD : s.extract 4 (4 + b3) = D := by rw [hD, rfD, ← HE.out.2.2.2]
      have hDs : D.size ≤ 64 := by rw [← eD, ByteArray.size_extract]; omega
      rw [← hA] at eA
      rw [← hB] at eB
      have eA2 := eA.symm
      have eB2 := eB.symm
      have k1 := fun w => frameR_any N A B D w (by omega)
      obtain ⟨F, hF⟩ : ∃ F, F = frS N A B D := ⟨_, rfl⟩
      rw [← hF] at k1
      have K1 := Lib.hid k1
      have hsh2 : RfShape s := ⟨hz, by rw [← HE.out.2.2.1]; exact h2, by rw [← HE.out.2.2.2]; exact h3, by rw [← HE.out.2.2.2]; exact h4⟩
      have hrf : RfOk s ↔ F = s := by rw [RfOk, eN, ← hA, ← hB, ← hD, ← hF]; exact ⟨fun h => h.2, fun h => ⟨hsh2, h⟩⟩
      have hV : rfV s = if F = s then .tuple #[.int .i64 (N : Nat), .bool A, .bool B, .string D, .int .i64 0] else .tuple #[.int .i64 0, .bool false, .bool false, .string ⟨#[]⟩, .int .i64 11] := by
        rw [rfV, eN, ← hA, ← hB, ← hD]
        by_cases h : F = s
        · rw [if_pos h, if_pos (hrf.2 h)]
        · rw [if_neg h, if_neg (fun h' => h (hrf.1 h'))]
      rw [hV]
      clear hN eN eA eB hA hB hD k1 hF hsh2 hrf hV
      by_cases hfs : F = s
      · rw [if_pos hfs]
        rw [hfs] at K1
        clear hfs
        go_enter Try.func12, Try.ntmps12
        go_wp2
        go_quiet (fail)
        have hb1 : Below w.heap.size w (w.drewN nq) := below_drewN hb0 nq
        go_wp2_with (go_at_call 14; refine (K1.out _).mono ?_; rintro e w' ⟨rfl, hb⟩; have hb2 := below_next hb1 hb)
        exact bodyPost_ret (v := .tuple #[.int .i64 (N : Nat), .bool A, .bool B, .string D, .int .i64 0]) (by simp [results, Try.results12, go_sem]) rfl ⟨rfl, hb2⟩
      · rw [if_neg hfs]
        have hfl : (F.toList == s.toList) = false := beq_eq_false_iff_ne.2 fun h => hfs ((toList_iff _ _).1 h)
        go_enter Try.func12, Try.ntmps12
        go_wp2
        go_quiet (fail)
        have hb1 : Below w.heap.size w (w.drewN nq) := below_drewN hb0 nq
        go_wp2_with (go_at_call 14; refine (K1.out _).mono ?_; rintro e w' ⟨rfl, hb⟩; have hb2 := below_next hb1 hb)
        exact bodyPost_ret (v := .tuple #[.int .i64 0, .bool false, .bool false, .string ⟨#[]⟩, .int .i64 11]) (by simp [results, Try.results12, go_sem]) rfl ⟨rfl, hb2⟩
    · have hV : rfV s = .tuple #[.int .i64 0, .bool false, .bool false, .string ⟨#[]⟩, .int .i64 11] := if_neg (fun h => hsh h.1)
      rw [hV]
      have hsh2 : ¬ (byB s 2 ≤ 3 ∧ 1 ≤ byB s 3 ∧ byB s 3 ≤ 56) := fun h => hsh ⟨hz, h⟩
      clear hV hsh
      obtain ⟨b2, e2⟩ : ∃ b, b = byB s 2 := ⟨_, rfl⟩
      obtain ⟨b3, e3⟩ : ∃ b, b = byB s 3 := ⟨_, rfl⟩
      rw [← e2] at q2 hsh2
      rw [← e3] at q3 l3 hsh2
      clear e2 e3
      go_enter Try.func12, Try.ntmps12
      go_wp2
      all_goals exact bodyPost_ret (v := .tuple #[.int .i64 0, .bool false, .bool false, .string ⟨#[]⟩, .int .i64 11]) (by simp [results, Try.results12, go_sem]) rfl ⟨rfl, hb0⟩
  · have hV : rfV s = .tuple #[.int .i64 0, .bool false, .bool false, .string ⟨#[]⟩, .int .i64 11] := if_neg (fun h => hz h.1.1)
    rw [hV]
    clear hV
    go_enter Try.func12, Try.ntmps12
    go_wp2
    exact bodyPost_ret (v := .tuple #[.int .i64 0, .bool false, .bool false, .string ⟨#[]⟩, .int .i64 11]) (by simp [results, Try.results12, go_sem]) rfl ⟨rfl, hb0⟩
end Go.Proofs.Ytklpamhhbigjfaa
