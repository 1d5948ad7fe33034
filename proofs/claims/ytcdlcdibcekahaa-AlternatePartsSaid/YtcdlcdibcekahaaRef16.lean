/- dasdref16.Valid returns the chapter's definition. -/
import Derived.Test.YtcdlcdibcekahaaKey
import Derived.Deep.DeepCutAuto
namespace Go.Proofs.Ytcdlcdibcekahaa
open Go.RowKit
set_option linter.unusedSimpArgs false
set_option linter.unusedVariables false
set_option maxHeartbeats 400000 in
theorem between16 (a b c : Int) (w : World) :
    Calls Try.prog 56 #[.int .i64 a, .int .i64 b, .int .i64 c] w fun e w' => e = .returned (.bool (decide (b ≤ a ∧ a ≤ c))) ∧ w = w' := by
  go_enter Try.func56, Try.ntmps56
  go_wp2
  all_goals (go_ret; exact ⟨by simp [*]; try omega, rfl⟩)

def DS.bad16 (d : DS) : Bool := !(decide (1 ≤ d.org ∧ d.org ≤ 3) && decide d.IvOk)
theorem DS.bad16_true (d : DS) : d.bad16 = true ↔ ¬ (1 ≤ d.org ∧ d.org ≤ 3) ∨ ¬ (d.intv = 128 ∨ d.intv = 256 ∨ d.intv = 512) := by
  unfold DS.bad16
  simp only [Bool.not_eq_true', Bool.and_eq_false_iff, decide_eq_false_iff_not]
  rfl
theorem DS.bad16_false (d : DS) : d.bad16 = false ↔ (1 ≤ d.org ∧ d.org ≤ 3) ∧ (d.intv = 128 ∨ d.intv = 256 ∨ d.intv = 512) := by
  rw [← Bool.not_eq_true, DS.bad16_true]
  omega

set_option maxHeartbeats 2000000 in
set_option maxRecDepth 100000 in
theorem ref16_any (d : DS) (w : World) :
    Calls Try.prog 19 #[d.v] w fun e w' => e = .returned (.bool d.kvalid) ∧ Below w.heap.size w w' := by
  have hst := St.start w
  go_enter Try.func19, Try.ntmps19
  go_upto_region 1 with (first | ((with_reducible refine at_dst (N := 1) rfl ?_); refine wpList_box hst 23 d.cells rfl ?hr ?_; (case hr => first | (go_simp; done) | (go_simp; rfl)); clear hst; intro g1 w1 hst; obtain ⟨hc1, hf1, hl1⟩ := hst.c0))
  go_cut [30] (fun s wc => s = .bool d.bad16 ∧ w1 = wc)
  case first =>
    go_wp2
    all_goals
      go_meet
      case rel =>
        refine ⟨?_, rfl⟩
        go_light
        congr 1
        rw [Bool.eq_iff_iff]
        simp only [DS.bad16_true, bne_iff_ne, beq_iff_eq, Bool.not_eq_true', beq_eq_false_iff_ne, ne_eq, Bool.and_eq_true, Bool.or_eq_true, Bool.false_eq_true, false_iff, true_iff, bne_eq_false_iff_eq, decide_eq_true_eq] at *
        omega
  case rest =>
    obtain ⟨rfl, rfl⟩ := hcut
    cases hb : d.bad16 with
    | true =>
      have Hb := Lib.hid ((DS.bad16_true d).1 hb)
      go_wp2
      all_goals have Hb' := Hb.out
      all_goals (go_ret; go_light; refine ⟨ret_bool ?_, ?_⟩; (focus (rw [Bool.eq_iff_iff]; simp only [DS.kvalid_iff, DS.KV, DS.IvOk, bne_iff_ne, beq_iff_eq, Bool.not_eq_true', beq_eq_false_iff_ne, ne_eq, Bool.and_eq_true, Bool.or_eq_true, Bool.and_eq_false_iff, Bool.or_eq_false_iff, decide_eq_true_eq, decide_eq_false_iff_not, Bool.not_eq_false', Bool.not_eq_true, bne_eq_false_iff_eq, Bool.false_eq_true, false_iff, true_iff, iff_false, List.all_cons, List.all_nil, Bool.and_true] at *; first | omega | (clear hst; simp_all; done) | (clear hst; simp_all; omega) | (trace_state; fail "omega"))); (focus (have hbase := hst.base; have hsz := hst.base.size; go_grown)))
    | false =>
      have Hb0 := (DS.bad16_false d).1 hb
      have hlo : 128 ≤ d.intv := by omega
      have hhi : d.intv ≤ 512 := by omega
      have Hb := Lib.hid Hb0
      clear Hb0
      go_wp2_with (first | (go_at_call 56; refine (between16 _ _ _ _).mono ?_; rintro e w' ⟨rfl, rfl⟩))
      all_goals have Hb' := Hb.out
      all_goals (go_ret; go_light; refine ⟨ret_bool ?_, ?_⟩; (focus (rw [Bool.eq_iff_iff]; simp only [DS.kvalid_iff, DS.KV, DS.IvOk, bne_iff_ne, beq_iff_eq, Bool.not_eq_true', beq_eq_false_iff_ne, ne_eq, Bool.and_eq_true, Bool.or_eq_true, Bool.and_eq_false_iff, Bool.or_eq_false_iff, decide_eq_true_eq, decide_eq_false_iff_not, Bool.not_eq_false', Bool.not_eq_true, bne_eq_false_iff_eq, Bool.false_eq_true, false_iff, true_iff, iff_false, List.all_cons, List.all_nil, Bool.and_true] at *; first | omega | (clear hst; simp_all; done) | (clear hst; simp_all; omega) | (trace_state; fail "omega"))); (focus (have hbase := hst.base; have hsz := hst.base.size; go_grown)))
end Go.Proofs.Ytcdlcdibcekahaa
