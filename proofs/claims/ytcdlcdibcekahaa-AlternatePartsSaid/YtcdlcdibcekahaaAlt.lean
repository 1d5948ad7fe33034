/- The package alternate: contracts of its functions without loops. -/
import Derived.Test.YtcdlcdibcekahaaSpec26
namespace Go.Proofs.Ytcdlcdibcekahaa
open Go.RowKit
set_option linter.unusedSimpArgs false
set_option linter.unusedVariables false

theorem isId_any (a : Int) (w : World) :
    Calls Try.prog 48 #[.int .i64 a] w fun e w' => e = .returned (.bool (isIdB a)) ∧ w = w' := by
  go_enter Try.func48, Try.ntmps48
  go_wp2
  all_goals (go_ret; exact ⟨by simp [isIdB, *]; try omega, rfl⟩)

set_option maxHeartbeats 400000 in
theorem isBase_any (d : DS) (w : World) :
    Calls Try.prog 47 #[d.v] w fun e w' => e = .returned (.bool d.isBase) ∧ Below w.heap.size w w' := by
  have hst := St.start w
  go_enter Try.func47, Try.ntmps47
  go_wp2_with (first | ((with_reducible refine at_dst (N := 1) rfl ?_); refine wpList_box hst 23 d.cells rfl ?hr ?_; (case hr => first | (go_simp; done) | (go_simp; rfl)); clear hst; intro g1 w1 hst; obtain ⟨hc1, hf1, hl1⟩ := hst.c0) | ((with_reducible refine at_dst (N := 3) rfl ?_); refine wpList_load_own hst ⟨g1, d.cells, 23⟩ (by simp) rfl (.tmp 1) rfl rfl _ rfl Try.underlying23 (by kernel_rfl) ?_) | (go_at_call 50; refine (kvalid_any d _).mono ?_; rintro e w' ⟨rfl, hb⟩; replace hst := hst.below hb; clear hb; clear hc1 hf1; obtain ⟨hc1, hf1, hl1⟩ := hst.c0) | (go_at_call 48; refine (isId_any _ _).mono ?_; rintro e w'' ⟨rfl, rfl⟩))
  all_goals (go_ret; go_light; refine ⟨ret_bool ?_, ?_⟩; (focus (rw [Bool.eq_iff_iff]; simp only [DS.isBase_iff, DS.IsBase, isIdB_iff, DS.kvalid_iff, bne_iff_ne, beq_iff_eq, Bool.not_eq_true', beq_eq_false_iff_ne, ne_eq, Bool.and_eq_true, Bool.or_eq_true, Bool.and_eq_false_iff, Bool.or_eq_false_iff, decide_eq_true_eq, decide_eq_false_iff_not, Bool.not_eq_false', Bool.not_eq_true, bne_eq_false_iff_eq, Bool.false_eq_true, false_iff, true_iff, iff_false, List.all_cons, List.all_nil, Bool.and_true] at *; first | omega | (clear hst; simp_all; done) | (clear hst; simp_all; omega) | (trace_state; fail "omega"))); (focus (have hbase := hst.base; have hsz := hst.base.size; go_grown)))

set_option maxHeartbeats 400000 in
theorem keySize_any (d : DS) (w : World) :
    Calls Try.prog 49 #[d.v] w fun e w' => e = .returned (.int .i64 d.keySize) ∧ Below w.heap.size w w' := by
  have hst := St.start w
  go_enter Try.func49, Try.ntmps49
  go_wp2_with (first | ((with_reducible refine at_dst (N := 1) rfl ?_); refine wpList_box hst 23 d.cells rfl ?hr ?_; (case hr => first | (go_simp; done) | (go_simp; rfl)); clear hst; intro g1 w1 hst; obtain ⟨hc1, hf1, hl1⟩ := hst.c0))
  all_goals (go_ret; go_light; refine ⟨ret_int ?_, ?_⟩; (focus (clear hst; simp_all [DS.keySize])); (focus (have hbase := hst.base; have hsz := hst.base.size; go_grown)))

set_option maxHeartbeats 1000000 in
theorem shaped_any (d : DS) (n : Int) (w : World) (hn : 0 ≤ n) (hn2 : n ≤ 200) :
    Calls Try.prog 54 #[d.v, .int .i64 n] w fun e w' => e = .returned (.bool (d.shaped n)) ∧ Below w.heap.size w w' := by
  have hst := St.start w
  go_enter Try.func54, Try.ntmps54
  go_wp2_with (first | ((with_reducible refine at_dst (N := 2) rfl ?_); refine wpList_box hst 23 d.cells rfl ?hr ?_; (case hr => first | (go_simp; done) | (go_simp; rfl)); clear hst; intro g1 w1 hst; obtain ⟨hc1, hf1, hl1⟩ := hst.c0) | (with_reducible refine wpList_load_own hst ⟨g1, d.cells, 23⟩ (by simp) rfl _ rfl rfl _ rfl Try.underlying23 (by kernel_rfl) ?_) | (go_at_call 50; refine (kvalid_any d _).mono ?_; rintro e w' ⟨rfl, hb⟩; replace hst := hst.below hb; clear hb; clear hc1 hf1; obtain ⟨hc1, hf1, hl1⟩ := hst.c0) | (go_at_call 48; refine (isId_any _ _).mono ?_; rintro e w'' ⟨rfl, rfl⟩))
  all_goals (go_ret; go_light; refine ⟨ret_bool ?_, ?_⟩; (focus (rw [Bool.eq_iff_iff]; simp only [DS.shaped_iff, DS.Shaped, isIdB_iff, DS.kvalid_iff, bne_iff_ne, beq_iff_eq, Bool.not_eq_true', beq_eq_false_iff_ne, ne_eq, Bool.and_eq_true, Bool.or_eq_true, Bool.and_eq_false_iff, Bool.or_eq_false_iff, decide_eq_true_eq, decide_eq_false_iff_not, Bool.not_eq_false', Bool.not_eq_true, bne_eq_false_iff_eq, Bool.false_eq_true, false_iff, true_iff, iff_false, List.all_cons, List.all_nil, Bool.and_true] at *; first | omega | (clear hst; simp_all; done) | (clear hst; simp_all; omega) | (trace_state; fail "omega"))); (focus (have hbase := hst.base; have hsz := hst.base.size; go_grown)))
end Go.Proofs.Ytcdlcdibcekahaa
