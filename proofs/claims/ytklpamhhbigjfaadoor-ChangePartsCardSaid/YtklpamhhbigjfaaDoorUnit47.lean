/- The package change: Unit, Parts, Id, Creator; the reference Unit. -/
import Derived.Test.YtklpamhhbigjfaaDoorKit5
namespace Go.Proofs.YtklpamhhbigjfaaDoor
open Go.RowKit
set_option linter.unusedSimpArgs false
set_option linter.unusedVariables false

def UnitOk (s e c : Int) : Prop := 1 ≤ s ∧ s ≤ 4 ∧ 1 ≤ e ∧ e ≤ 65535 ∧ 1 ≤ c ∧ c ≤ 65535
instance (s e c : Int) : Decidable (UnitOk s e c) := by unfold UnitOk; infer_instance
def unitV (s e c : Int) : Int := if UnitOk s e c then (e * 4 + s - 1) * 65536 + c else 0
def unitE (s e c : Int) : Int := if UnitOk s e c then 0 else 2
theorem ret_ie {a b c d : Int} (h : a = b) (k : c = d) : Ending.returned (.tuple #[.int .i64 a, .int .i64 c]) = .returned (.tuple #[.int .i64 b, .int .i64 d]) := by rw [h, k]

theorem unit_any (s e c : Int) (w : World) : Calls Tryd.prog 24 #[.int .i64 s, .int .i64 e, .int .i64 c] w fun en w' => en = .returned (.tuple #[.int .i64 (unitV s e c), .int .i64 (unitE s e c)]) ∧ w = w' := by
  by_cases h : UnitOk s e c
  · have e1 : unitV s e c = (e * 4 + s - 1) * 65536 + c := if_pos h
    have e2 : unitE s e c = 0 := if_pos h
    rw [e1, e2]
    clear e1 e2
    unfold UnitOk at h
    go_enter Tryd.func24, Tryd.ntmps24
    go_wp2
    go_ret2
    exact ⟨rfl, rfl⟩
  · have e1 : unitV s e c = 0 := if_neg h
    have e2 : unitE s e c = 2 := if_neg h
    rw [e1, e2]
    clear e1 e2
    unfold UnitOk at h
    go_enter Tryd.func24, Tryd.ntmps24
    go_wp2
    all_goals (go_ret2; exact ⟨rfl, rfl⟩)
theorem unitR_any (s e c : Int) (w : World) : Calls Tryd.prog 25 #[.int .i64 s, .int .i64 e, .int .i64 c] w fun en w' => en = .returned (.tuple #[.int .i64 (unitV s e c), .int .i64 (unitE s e c)]) ∧ w = w' := by
  by_cases h : UnitOk s e c
  · have e1 : unitV s e c = (e * 4 + s - 1) * 65536 + c := if_pos h
    have e2 : unitE s e c = 0 := if_pos h
    rw [e1, e2]
    clear e1 e2
    unfold UnitOk at h
    go_enter Tryd.func25, Tryd.ntmps25
    go_wp2
    go_ret2
    exact ⟨rfl, rfl⟩
  · have e1 : unitV s e c = 0 := if_neg h
    have e2 : unitE s e c = 2 := if_neg h
    rw [e1, e2]
    clear e1 e2
    unfold UnitOk at h
    go_enter Tryd.func25, Tryd.ntmps25
    go_wp2
    all_goals (go_ret2; exact ⟨rfl, rfl⟩)

def IdOk (u k : Int) : Prop := 1 ≤ u ∧ u ≤ 68719476735 ∧ 0 ≤ k ∧ k ≤ 15
instance (u k : Int) : Decidable (IdOk u k) := by unfold IdOk; infer_instance
def idV (u k : Int) : Int := if IdOk u k then 16 * u + k else 0
def idE (u k : Int) : Int := if IdOk u k then 0 else 2
theorem id_any (u k : Int) (w : World) : Calls Tryd.prog 19 #[.int .i64 u, .int .i64 k] w fun en w' => en = .returned (.tuple #[.int .i64 (idV u k), .int .i64 (idE u k)]) ∧ w = w' := by
  by_cases h : IdOk u k
  · have e1 : idV u k = 16 * u + k := if_pos h
    have e2 : idE u k = 0 := if_pos h
    rw [e1, e2]
    clear e1 e2
    unfold IdOk at h
    go_enter Tryd.func19, Tryd.ntmps19
    go_wp2
    go_ret2
    exact ⟨rfl, rfl⟩
  · have e1 : idV u k = 0 := if_neg h
    have e2 : idE u k = 2 := if_neg h
    rw [e1, e2]
    clear e1 e2
    unfold IdOk at h
    go_enter Tryd.func19, Tryd.ntmps19
    go_wp2
    all_goals (go_ret2; exact ⟨rfl, rfl⟩)
def creV (i : Int) : Int := if 16 ≤ i ∧ i ≤ 1099511627776 then i / 16 else 0
theorem creator_any (i : Int) (w : World) : Calls Tryd.prog 20 #[.int .i64 i] w fun en w' => en = .returned (.int .i64 (creV i)) ∧ w = w' := by
  by_cases h : 16 ≤ i ∧ i ≤ 1099511627776
  · have e1 : creV i = i / 16 := if_pos h
    rw [e1]
    clear e1
    obtain ⟨h1, h2⟩ := h
    go_enter Tryd.func20, Tryd.ntmps20
    go_wp2
    go_ret
    exact ⟨rfl, rfl⟩
  · have e1 : creV i = 0 := if_neg h
    rw [e1]
    clear e1
    go_enter Tryd.func20, Tryd.ntmps20
    go_wp2
    all_goals (go_ret; exact ⟨rfl, rfl⟩)

def ParOk (u : Int) : Prop := 1 ≤ u ∧ u % 65536 ≠ 0 ∧ 1 ≤ u / 65536 / 4 ∧ u / 65536 / 4 ≤ 65535
instance (u : Int) : Decidable (ParOk u) := by unfold ParOk; infer_instance
set_option maxHeartbeats 400000 in
theorem parts47_any (u : Int) (w : World) (hu : u ≤ 9223372036854775807) :
    Calls Tryd.prog 26 #[.int .i64 u] w fun en w' => en = .returned (if ParOk u then .tuple #[.int .i64 (u / 65536 % 4 + 1), .int .i64 (u / 65536 / 4), .int .i64 (u % 65536), .bool true] else .tuple #[.int .i64 0, .int .i64 0, .int .i64 0, .bool false]) ∧ w = w' := by
  by_cases h : ParOk u
  · rw [if_pos h]
    obtain ⟨h1, h2, h3, h4⟩ := h
    have h2b : (u % 65536 == 0) = false := by simpa using h2
    go_enter Tryd.func26, Tryd.ntmps26
    go_wp2
    exact bodyPost_ret (v := .tuple #[.int .i64 (u / 65536 % 4 + 1), .int .i64 (u / 65536 / 4), .int .i64 (u % 65536), .bool true]) (by simp [results, Tryd.results26, go_sem]) rfl ⟨rfl, rfl⟩
  · rw [if_neg h]
    by_cases h1 : 1 ≤ u
    · by_cases h2 : u % 65536 = 0
      · have h2b : (u % 65536 == 0) = true := by simpa using h2
        clear h h2
        go_enter Tryd.func26, Tryd.ntmps26
        go_wp2
        exact bodyPost_ret (v := .tuple #[.int .i64 0, .int .i64 0, .int .i64 0, .bool false]) (by simp [results, Tryd.results26, go_sem]) rfl ⟨rfl, rfl⟩
      · have h2b : (u % 65536 == 0) = false := by simpa using h2
        have h3 : ¬ (1 ≤ u / 65536 / 4 ∧ u / 65536 / 4 ≤ 65535) := fun h' => h ⟨h1, h2, h'⟩
        clear h h2
        go_enter Tryd.func26, Tryd.ntmps26
        go_wp2
        all_goals exact bodyPost_ret (v := .tuple #[.int .i64 0, .int .i64 0, .int .i64 0, .bool false]) (by simp [results, Tryd.results26, go_sem]) rfl ⟨rfl, rfl⟩
    · clear h
      go_enter Tryd.func26, Tryd.ntmps26
      go_wp2
      exact bodyPost_ret (v := .tuple #[.int .i64 0, .int .i64 0, .int .i64 0, .bool false]) (by simp [results, Tryd.results26, go_sem]) rfl ⟨rfl, rfl⟩
end Go.Proofs.YtklpamhhbigjfaaDoor
