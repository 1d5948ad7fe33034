/- The reference of chapter 26: contracts of its functions on descriptions. -/
import Derived.Test.YtcdlcdibcekahaaRef16
import Derived.Test.YtcdlcdibcekahaaSpec26
import Derived.Test.YtcdlcdibcekahaaKit2
namespace Go.Proofs.Ytcdlcdibcekahaa
open Go.RowKit
set_option linter.unusedSimpArgs false
set_option linter.unusedVariables false

set_option maxHeartbeats 400000 in
theorem between26 (a b c : Int) (w : World) :
    Calls Try.prog 52 #[.int .i64 a, .int .i64 b, .int .i64 c] w fun e w' => e = .returned (.bool (decide (b ≤ a ∧ a ≤ c))) ∧ w = w' := by
  go_enter Try.func52, Try.ntmps52
  go_wp2
  all_goals (go_ret; exact ⟨by simp [*]; try omega, rfl⟩)

set_option maxHeartbeats 400000 in
theorem isBase26_any (d : DS) (w : World) :
    Calls Try.prog 51 #[d.v] w fun e w' => e = .returned (.bool d.isBase) ∧ Below w.heap.size w w' := by
  have hst := St.start w
  have hkb : d.KV → 1 ≤ d.org ∧ d.org ≤ 3 := fun h => h.2.1
  have HKB := Lib.hid hkb
  clear hkb
  go_enter Try.func51, Try.ntmps51
  go_wp2_with (first | ((with_reducible refine at_dst (N := 1) rfl ?_); refine wpList_box hst 23 d.cells rfl ?hr ?_; (case hr => first | (go_simp; done) | (go_simp; rfl)); clear hst; intro g1 w1 hst; obtain ⟨hc1, hf1, hl1⟩ := hst.c0) | ((with_reducible refine at_dst (N := 3) rfl ?_); (refine wpList_load_own hst ⟨g1, d.cells, 23⟩ (by simp) rfl _ rfl rfl _ rfl Try.underlying23 (by kernel_rfl) ?_)) | (go_at_call 19; refine (ref16_any d _).mono ?_; rintro e w' ⟨rfl, hb⟩; replace hst := hst.below hb; clear hb; clear hc1 hf1; obtain ⟨hc1, hf1, hl1⟩ := hst.c0) | (go_at_call 52; refine (between26 _ _ _ _).mono ?_; rintro e w'' ⟨rfl, rfl⟩))
  all_goals have hkb := HKB.out
  all_goals (go_ret; go_light; refine ⟨ret_bool ?_, ?_⟩; (focus (rw [Bool.eq_iff_iff]; simp only [DS.isBase_iff, DS.IsBase, DS.kvalid_iff, bne_iff_ne, beq_iff_eq, Bool.not_eq_true', beq_eq_false_iff_ne, ne_eq, Bool.and_eq_true, Bool.or_eq_true, Bool.and_eq_false_iff, Bool.or_eq_false_iff, decide_eq_true_eq, decide_eq_false_iff_not, Bool.not_eq_false', Bool.not_eq_true, bne_eq_false_iff_eq, Bool.false_eq_true, false_iff, true_iff, iff_false, List.all_cons, List.all_nil, Bool.and_true] at *; first | omega | (clear hst; simp_all; done) | (clear hst; simp_all; omega) | (trace_state; fail "omega"))); (focus (have hbase := hst.base; have hsz := hst.base.size; go_grown)))

set_option maxHeartbeats 400000 in
theorem keys26_any (d : DS) (w : World) :
    Calls Try.prog 53 #[d.v] w fun e w' => e = .returned (.int .i64 d.keySize) ∧ Below w.heap.size w w' := by
  have hst := St.start w
  go_enter Try.func53, Try.ntmps53
  go_wp2_with (first | ((with_reducible refine at_dst (N := 1) rfl ?_); refine wpList_box hst 23 d.cells rfl ?hr ?_; (case hr => first | (go_simp; done) | (go_simp; rfl)); clear hst; intro g1 w1 hst; obtain ⟨hc1, hf1, hl1⟩ := hst.c0))
  all_goals (go_ret; go_light; refine ⟨ret_int ?_, ?_⟩; (focus (clear hst; simp_all [DS.keySize])); (focus (have hbase := hst.base; have hsz := hst.base.size; go_grown)))

theorem DS.known_alt (d : DS) : d.Known ↔ d.KV ∧ d.org = 3 ∧ (1 ≤ d.id ∧ d.id ≤ 1099511627776) ∧ (1 ≤ d.base ∧ d.base ≤ 1099511627776) ∧ d.base ≠ d.id ∧ (0 ≤ d.altAt ∧ d.altAt ≤ 200) ∧ (1 ≤ d.altLen ∧ d.altLen ≤ 32) ∧ d.altAt + d.altLen ≤ 200 ∧ d.keyAt = 0 ∧ d.len = d.keyLen ∧ d.altLen < d.keyLen := by
  constructor
  · intro h
    have hb := h.bounds
    obtain ⟨⟨a, b, c, e, f, g, i, j⟩, k⟩ := h
    exact ⟨a, b, c, e, f, by omega, by omega, by omega, i, j, k⟩
  · rintro ⟨a, b, c, e, f, g, i, j, k, l, m⟩
    exact ⟨⟨a, b, c, e, f, by omega, k, l⟩, m⟩

set_option maxHeartbeats 2000000 in
set_option maxRecDepth 100000 in
theorem isAlt26_any (d : DS) (w : World) :
    Calls Try.prog 55 #[d.v] w fun e w' => e = .returned (.bool d.known) ∧ Below w.heap.size w w' := by
  have hst := St.start w
  go_enter Try.func55, Try.ntmps55
  go_wp2_with (first | ((with_reducible refine at_dst (N := 1) rfl ?_); refine wpList_box hst 23 d.cells rfl ?hr ?_; (case hr => first | (go_simp; done) | (go_simp; rfl)); clear hst; intro g1 w1 hst; obtain ⟨hc1, hf1, hl1⟩ := hst.c0) | ((with_reducible refine at_dst (N := 3) rfl ?_); (refine wpList_load_own hst ⟨g1, d.cells, 23⟩ (by simp) rfl _ rfl rfl _ rfl Try.underlying23 (by kernel_rfl) ?_)) | (go_at_call 19; refine (ref16_any d _).mono ?_; rintro e w' ⟨rfl, hb⟩; replace hst := hst.below hb; clear hb; clear hc1 hf1; obtain ⟨hc1, hf1, hl1⟩ := hst.c0) | (go_at_call 52; refine (between26 _ _ _ _).mono ?_; rintro e w'' ⟨rfl, rfl⟩))
  all_goals (go_ret; go_light; refine ⟨ret_bool ?_, ?_⟩; (focus (rw [Bool.eq_iff_iff]; simp only [DS.known_iff, DS.known_alt, DS.kvalid_iff, bne_iff_ne, beq_iff_eq, Bool.not_eq_true', beq_eq_false_iff_ne, ne_eq, Bool.and_eq_true, Bool.or_eq_true, Bool.and_eq_false_iff, Bool.or_eq_false_iff, decide_eq_true_eq, decide_eq_false_iff_not, Bool.not_eq_false', Bool.not_eq_true, bne_eq_false_iff_eq, Bool.false_eq_true, false_iff, true_iff, iff_false, List.all_cons, List.all_nil, Bool.and_true] at *; first | omega | (clear hst; simp_all; done) | (clear hst; simp_all; omega) | (trace_state; fail "omega"))); (focus (have hbase := hst.base; have hsz := hst.base.size; go_grown)))
end Go.Proofs.Ytcdlcdibcekahaa
