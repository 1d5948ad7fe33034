/- ChangeIds, ChangeUnits, ChangeParses: the walks of the laws. -/
import Derived.Test.YtklpamhhbigjfaaDoorAwake47
namespace Go.Proofs.YtklpamhhbigjfaaDoor
open Go.RowKit
set_option linter.unusedSimpArgs false
set_option linter.unusedVariables false

theorem rem_nat (u : Int) (h : 0 ≤ u) : u.tmod 65536 = u % 65536 := Int.tmod_eq_emod_of_nonneg h

set_option maxHeartbeats 1000000 in
set_option maxRecDepth 100000 in
theorem ids_any (u k : Int) (w : World) (h1 : -9223372036854775808 ≤ u) (h2 : u ≤ 9223372036854775807) (h3 : -9223372036854775808 ≤ k) (h4 : k ≤ 9223372036854775807) :
    Calls Tryd.prog 5 #[.int .i64 u, .int .i64 k] w fun e w' => e = .returned (.bool true) ∧ Below w.heap.size w w' := by
  have hb0 : Below w.heap.size w w := Below.refl _ _
  have k1 := fun w => id_any u k w
  by_cases h : IdOk u k
  · have e1 : idV u k = 16 * u + k := if_pos h
    have e2 : idE u k = 0 := if_pos h
    rw [e1, e2] at k1
    unfold IdOk at h
    obtain ⟨i1, i2, i3, i4⟩ := h
    have k2 := fun w => creator_any (16 * u + k) w
    have e3 : creV (16 * u + k) = u := by
      unfold creV
      rw [if_pos (by omega)]
      omega
    rw [e3] at k2
    have k3 := fun w => creator_any u w
    have T1 := Lib.hid k1
    have T2 := Lib.hid k2
    clear k1 k2 e1 e2 e3
    by_cases hc : 16 ≤ u
    · have e4 : creV u = u / 16 := by unfold creV; rw [if_pos (by omega)]
      rw [e4] at k3
      have T3 := Lib.hid k3
      clear k3 e4
      go_enter Tryd.func5, Tryd.ntmps5
      go_wp2_with (first | (go_at_call 19; refine (T1.out _).mono ?_; rintro e w' ⟨rfl, rfl⟩)  | (go_at_call 20; (first | with_reducible refine (T2.out _).mono ?_ | refine (T3.out _).mono ?_); rintro e w' ⟨rfl, rfl⟩)  | (go_at_call 10; refine (awake47_any _).mono ?_; rintro e w' ⟨rfl, hb⟩))
      go_ret
      exact ⟨ret_bool (by simp), hb⟩
    · have e4 : creV u = 0 := by unfold creV; rw [if_neg (by omega)]
      rw [e4] at k3
      have T3 := Lib.hid k3
      clear k3 e4
      go_enter Tryd.func5, Tryd.ntmps5
      go_wp2_with (first | (go_at_call 19; refine (T1.out _).mono ?_; rintro e w' ⟨rfl, rfl⟩)  | (go_at_call 20; (first | with_reducible refine (T2.out _).mono ?_ | refine (T3.out _).mono ?_); rintro e w' ⟨rfl, rfl⟩)  | (go_at_call 10; refine (awake47_any _).mono ?_; rintro e w' ⟨rfl, hb⟩))
      go_ret
      exact ⟨ret_bool (by simp), hb⟩
  · have e1 : idV u k = 0 := if_neg h
    have e2 : idE u k = 2 := if_neg h
    rw [e1, e2] at k1
    have T1 := Lib.hid k1
    clear k1 e1 e2
    unfold IdOk at h
    go_enter Tryd.func5, Tryd.ntmps5
    go_wp2_with (first | (go_at_call 19; refine (T1.out _).mono ?_; rintro e w' ⟨rfl, rfl⟩)  | (go_at_call 10; refine (awake47_any _).mono ?_; rintro e w' ⟨rfl, hb⟩))
    all_goals (go_ret; exact ⟨ret_bool (by simp), hb⟩)

set_option maxHeartbeats 1000000 in
set_option maxRecDepth 100000 in
theorem units_any (s e c : Int) (w : World) (_ : -9223372036854775808 ≤ s) (_ : s ≤ 9223372036854775807) (_ : -9223372036854775808 ≤ e) (_ : e ≤ 9223372036854775807) (_ : -9223372036854775808 ≤ c) (_ : c ≤ 9223372036854775807) :
    Calls Tryd.prog 7 #[.int .i64 s, .int .i64 e, .int .i64 c] w fun en w' => en = .returned (.bool true) ∧ Below w.heap.size w w' := by
  have hb0 : Below w.heap.size w w := Below.refl _ _
  have k1 := fun w => unit_any s e c w
  have k2 := fun w => unitR_any s e c w
  by_cases h : UnitOk s e c
  · have e1 : unitV s e c = (e * 4 + s - 1) * 65536 + c := if_pos h
    have e2 : unitE s e c = 0 := if_pos h
    rw [e1, e2] at k1 k2
    unfold UnitOk at h
    obtain ⟨i1, i2, i3, i4, i5, i6⟩ := h
    obtain ⟨N, hN⟩ : ∃ N, N = (e * 4 + s - 1) * 65536 + c := ⟨_, rfl⟩
    rw [← hN] at k1 k2
    have k3 := fun w => parts47_any N w (by omega)
    have p1 : N / 65536 % 4 + 1 = s := by omega
    have p2 : N / 65536 / 4 = e := by omega
    have p3 : N % 65536 = c := by omega
    have pok : ParOk N := ⟨by omega, by omega, by omega, by omega⟩
    rw [if_pos pok, p1, p2, p3] at k3
    have k4 := fun w => unit_any 1 (e + 1) 1 w
    have T1 := Lib.hid k1
    have T2 := Lib.hid k2
    have T3 := Lib.hid k3
    have HN := Lib.hid hN
    clear k1 k2 k3 e1 e2 p1 p2 p3 pok hN
    by_cases h5 : UnitOk 1 (e + 1) 1
    · have e1 : unitV 1 (e + 1) 1 = ((e + 1) * 4 + 1 - 1) * 65536 + 1 := if_pos h5
      have e2 : unitE 1 (e + 1) 1 = 0 := if_pos h5
      obtain ⟨M, hM⟩ : ∃ M, M = ((e + 1) * 4 + 1 - 1) * 65536 + 1 := ⟨_, rfl⟩
      rw [e1, e2, ← hM] at k4
      have T4 := Lib.hid k4
      have hlt : ¬ M ≤ N := by have := HN.out; omega
      clear k4 e1 e2 h5 hM
      go_enter Tryd.func7, Tryd.ntmps7
      go_wp2_with (first | (go_at_call 24; (first | with_reducible refine (T1.out _).mono ?_ | refine (T4.out _).mono ?_); rintro e w' ⟨rfl, rfl⟩)  | (go_at_call 25; refine (T2.out _).mono ?_; rintro e w' ⟨rfl, rfl⟩) | (go_at_call 26; refine (T3.out _).mono ?_; rintro e w' ⟨rfl, rfl⟩)  | (go_at_call 10; refine (awake47_any _).mono ?_; rintro e w' ⟨rfl, hb⟩))
      go_ret
      exact ⟨ret_bool (by simp), hb⟩
    · have e1 : unitV 1 (e + 1) 1 = 0 := if_neg h5
      have e2 : unitE 1 (e + 1) 1 = 2 := if_neg h5
      rw [e1, e2] at k4
      have T4 := Lib.hid k4
      clear k4 e1 e2 h5
      go_enter Tryd.func7, Tryd.ntmps7
      go_wp2_with (first | (go_at_call 24; (first | with_reducible refine (T1.out _).mono ?_ | refine (T4.out _).mono ?_); rintro e w' ⟨rfl, rfl⟩)  | (go_at_call 25; refine (T2.out _).mono ?_; rintro e w' ⟨rfl, rfl⟩) | (go_at_call 26; refine (T3.out _).mono ?_; rintro e w' ⟨rfl, rfl⟩)  | (go_at_call 10; refine (awake47_any _).mono ?_; rintro e w' ⟨rfl, hb⟩))
      go_ret
      exact ⟨ret_bool (by simp), hb⟩
  · have e1 : unitV s e c = 0 := if_neg h
    have e2 : unitE s e c = 2 := if_neg h
    rw [e1, e2] at k1 k2
    have T1 := Lib.hid k1
    have T2 := Lib.hid k2
    clear k1 k2 e1 e2 h
    go_enter Tryd.func7, Tryd.ntmps7
    go_wp2_with (first | (go_at_call 24; refine (T1.out _).mono ?_; rintro e w' ⟨rfl, rfl⟩) | (go_at_call 25; refine (T2.out _).mono ?_; rintro e w' ⟨rfl, rfl⟩)  | (go_at_call 10; refine (awake47_any _).mono ?_; rintro e w' ⟨rfl, hb⟩))
    go_ret
    exact ⟨ret_bool (by simp), hb⟩

set_option maxHeartbeats 1000000 in
set_option maxRecDepth 100000 in
theorem parses_any (u : Int) (w : World) (_ : -9223372036854775808 ≤ u) (h2 : u ≤ 9223372036854775807) :
    Calls Tryd.prog 8 #[.int .i64 u] w fun en w' => en = .returned (.bool true) ∧ Below w.heap.size w w' := by
  have hb0 : Below w.heap.size w w := Below.refl _ _
  have k1 := fun w => parts47_any u w h2
  by_cases h : ParOk u
  · rw [if_pos h] at k1
    obtain ⟨p1, p2, p3, p4⟩ := h
    obtain ⟨a, ha⟩ : ∃ a, a = u / 65536 % 4 + 1 := ⟨_, rfl⟩
    obtain ⟨b, hb⟩ : ∃ b, b = u / 65536 / 4 := ⟨_, rfl⟩
    obtain ⟨c, hc⟩ : ∃ c, c = u % 65536 := ⟨_, rfl⟩
    rw [← ha, ← hb, ← hc] at k1
    have k2 := fun w => unit_any a b c w
    have ok : UnitOk a b c := ⟨by omega, by omega, by omega, by omega, by omega, by omega⟩
    have e1 : unitV a b c = u := by
      rw [unitV, if_pos ok]
      omega
    have e2 : unitE a b c = 0 := if_pos ok
    rw [e1, e2] at k2
    have T1 := Lib.hid k1
    have T2 := Lib.hid k2
    clear k1 k2 e1 e2 ok ha hb hc
    go_enter Tryd.func8, Tryd.ntmps8
    go_wp2_with (first | (go_at_call 24; refine (T2.out _).mono ?_; rintro e w' ⟨rfl, rfl⟩) | (go_at_call 26; refine (T1.out _).mono ?_; rintro e w' ⟨rfl, rfl⟩)  | (go_at_call 10; refine (awake47_any _).mono ?_; rintro e w' ⟨rfl, hb⟩))
    go_ret
    exact ⟨ret_bool (by simp), hb⟩
  · rw [if_neg h] at k1
    have T1 := Lib.hid k1
    clear k1
    by_cases c1 : u < 262145
    · clear h
      go_enter Tryd.func8, Tryd.ntmps8
      go_wp2_with (first | (go_at_call 26; refine (T1.out _).mono ?_; rintro e w' ⟨rfl, rfl⟩) | (go_at_call 10; refine (awake47_any _).mono ?_; rintro e w' ⟨rfl, hb⟩))
      go_ret
      exact ⟨ret_bool (by simp), hb⟩
    · by_cases c2 : u > 17179869183
      · clear h
        go_enter Tryd.func8, Tryd.ntmps8
        go_wp2_with (first | (go_at_call 26; refine (T1.out _).mono ?_; rintro e w' ⟨rfl, rfl⟩) | (go_at_call 10; refine (awake47_any _).mono ?_; rintro e w' ⟨rfl, hb⟩))
        go_ret
        exact ⟨ret_bool (by simp), hb⟩
      · have hz : u % 65536 = 0 := by
          by_cases hz : u % 65536 = 0
          · exact hz
          · exact absurd ⟨by omega, hz, by omega, by omega⟩ h
        have hz2 : (u % 65536 == 0) = true := by simpa using hz
        clear h hz
        go_enter Tryd.func8, Tryd.ntmps8
        go_wp2_with (first | (go_at_call 26; refine (T1.out _).mono ?_; rintro e w' ⟨rfl, rfl⟩) | (go_at_call 10; refine (awake47_any _).mono ?_; rintro e w' ⟨rfl, hb⟩))
        go_ret
        exact ⟨ret_bool (by simp), hb⟩
end Go.Proofs.YtklpamhhbigjfaaDoor
