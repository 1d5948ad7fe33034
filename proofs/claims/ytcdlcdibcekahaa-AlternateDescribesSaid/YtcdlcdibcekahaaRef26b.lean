/- The reference of chapter 26: Valid. -/
import Derived.Test.YtcdlcdibcekahaaRef26
namespace Go.Proofs.Ytcdlcdibcekahaa
open Go.RowKit
set_option linter.unusedSimpArgs false
set_option linter.unusedVariables false

theorem altOf_ref (b d : DS) : AltOf b d ↔ b.IsBase ∧ d.Known ∧ d.base = b.id ∧ d.altAt + d.altLen ≤ b.len ∧ d.keyLen = d.altLen + b.keySize := by
  constructor
  · intro h
    obtain ⟨h1, h2, h3, h4⟩ := id h
    exact ⟨h1, h.known, h2, by unfold DS.Shaped at h3; omega, h4⟩
  · rintro ⟨h1, h2, h3, h4, h5⟩
    have hb := h2.bounds
    obtain ⟨⟨ka, kb, kc, ke, kf, kg, ki, kj⟩, k⟩ := h2
    exact ⟨h1, h3, ⟨ka, kb, kc, ke, kf, by omega, ki, kj⟩, h5⟩

set_option maxHeartbeats 1000000 in
set_option maxRecDepth 100000 in
theorem valid26_0 (b d : DS) (w : World) (hp : b.isBase = false) :
    Calls Try.prog 18 #[b.v, d.v] w fun e w' => e = .returned (.bool (false)) ∧ Below w.heap.size w w' := by
  have hst := St.start w
  go_enter Try.func18, Try.ntmps18
  go_wp2_with (first | ((with_reducible refine at_dst (N := 2) rfl ?_); refine wpList_box hst 23 b.cells rfl ?hr ?_; (case hr => first | (go_simp; done) | (go_simp; rfl)); clear hst; intro g1 w1 hst; obtain ⟨hc1, hf1, hl1⟩ := hst.c0) | ((with_reducible refine at_dst (N := 3) rfl ?_); refine wpList_box hst 23 d.cells rfl ?hr ?_; (case hr => first | (go_simp; done) | (go_simp; rfl)); clear hst; intro g2 w2 hst; obtain ⟨hc2, hf2, hl2⟩ := hst.c0))
  obtain ⟨hne, hq2, hq1⟩ := hst.facts2; dsimp only at hq1 hq2
  (refine wp_region_st hst (by kernel_rfl) (by kernel_rfl) ?_; (repeat (first | go_big_quiet_skip | (go_big_quiet_want; first | (first | ((refine quiet_load_st ⟨g1, b.cells, 23⟩ (by simp) _ rfl rfl rfl Try.underlying23 (by kernel_rfl) ?_); (simp only [Act.put, List.setIfInBounds_toArray, List.set_cons_zero, List.set_cons_succ]); go_big_quiet_on) | ((refine quiet_load_st ⟨g2, d.cells, 23⟩ (by simp) _ rfl rfl rfl Try.underlying23 (by kernel_rfl) ?_); (simp only [Act.put, List.setIfInBounds_toArray, List.set_cons_zero, List.set_cons_succ]); go_big_quiet_on)) | (go_big_quiet_op; first | go_big_quiet_on | go_big_quiet_call ((first | (go_at_call 51; have h := isBase26_any b; rw [hp] at h; exact calls_st _ (h _)) | (go_at_call 55; have h := isAlt26_any d; rw [hq] at h; exact calls_st _ (h _)) | (go_at_call 53; exact calls_st _ (keys26_any b _)))))))); refine wpQuiet_nil ?_; clear hst; rintro _ ⟨⟨wq, hst⟩, rfl⟩; try dsimp only)
  go_wp2
  go_ret
  exact ⟨ret_bool (by simp), hst.base⟩

set_option maxHeartbeats 1000000 in
set_option maxRecDepth 100000 in
theorem valid26_1 (b d : DS) (w : World) (hp : b.isBase = true) (hq : d.known = false) :
    Calls Try.prog 18 #[b.v, d.v] w fun e w' => e = .returned (.bool (false)) ∧ Below w.heap.size w w' := by
  have hst := St.start w
  go_enter Try.func18, Try.ntmps18
  go_wp2_with (first | ((with_reducible refine at_dst (N := 2) rfl ?_); refine wpList_box hst 23 b.cells rfl ?hr ?_; (case hr => first | (go_simp; done) | (go_simp; rfl)); clear hst; intro g1 w1 hst; obtain ⟨hc1, hf1, hl1⟩ := hst.c0) | ((with_reducible refine at_dst (N := 3) rfl ?_); refine wpList_box hst 23 d.cells rfl ?hr ?_; (case hr => first | (go_simp; done) | (go_simp; rfl)); clear hst; intro g2 w2 hst; obtain ⟨hc2, hf2, hl2⟩ := hst.c0))
  obtain ⟨hne, hq2, hq1⟩ := hst.facts2; dsimp only at hq1 hq2
  (refine wp_region_st hst (by kernel_rfl) (by kernel_rfl) ?_; (repeat (first | go_big_quiet_skip | (go_big_quiet_want; first | (first | ((refine quiet_load_st ⟨g1, b.cells, 23⟩ (by simp) _ rfl rfl rfl Try.underlying23 (by kernel_rfl) ?_); (simp only [Act.put, List.setIfInBounds_toArray, List.set_cons_zero, List.set_cons_succ]); go_big_quiet_on) | ((refine quiet_load_st ⟨g2, d.cells, 23⟩ (by simp) _ rfl rfl rfl Try.underlying23 (by kernel_rfl) ?_); (simp only [Act.put, List.setIfInBounds_toArray, List.set_cons_zero, List.set_cons_succ]); go_big_quiet_on)) | (go_big_quiet_op; first | go_big_quiet_on | go_big_quiet_call ((first | (go_at_call 51; have h := isBase26_any b; rw [hp] at h; exact calls_st _ (h _)) | (go_at_call 55; have h := isAlt26_any d; rw [hq] at h; exact calls_st _ (h _)) | (go_at_call 53; exact calls_st _ (keys26_any b _)))))))); refine wpQuiet_nil ?_; clear hst; rintro _ ⟨⟨wq, hst⟩, rfl⟩; try dsimp only)
  go_wp2
  go_ret
  exact ⟨ret_bool (by simp), hst.base⟩

set_option maxHeartbeats 1000000 in
set_option maxRecDepth 100000 in
theorem valid26_2 (b d : DS) (w : World) (hp : b.isBase = true) (hq : d.known = true) (hr : (d.base == b.id) = false) :
    Calls Try.prog 18 #[b.v, d.v] w fun e w' => e = .returned (.bool (false)) ∧ Below w.heap.size w w' := by
  have hst := St.start w
  go_enter Try.func18, Try.ntmps18
  go_wp2_with (first | ((with_reducible refine at_dst (N := 2) rfl ?_); refine wpList_box hst 23 b.cells rfl ?hr ?_; (case hr => first | (go_simp; done) | (go_simp; rfl)); clear hst; intro g1 w1 hst; obtain ⟨hc1, hf1, hl1⟩ := hst.c0) | ((with_reducible refine at_dst (N := 3) rfl ?_); refine wpList_box hst 23 d.cells rfl ?hr ?_; (case hr => first | (go_simp; done) | (go_simp; rfl)); clear hst; intro g2 w2 hst; obtain ⟨hc2, hf2, hl2⟩ := hst.c0))
  obtain ⟨hne, hq2, hq1⟩ := hst.facts2; dsimp only at hq1 hq2
  (refine wp_region_st hst (by kernel_rfl) (by kernel_rfl) ?_; (repeat (first | go_big_quiet_skip | (go_big_quiet_want; first | (first | ((refine quiet_load_st ⟨g1, b.cells, 23⟩ (by simp) _ rfl rfl rfl Try.underlying23 (by kernel_rfl) ?_); (simp only [Act.put, List.setIfInBounds_toArray, List.set_cons_zero, List.set_cons_succ]); go_big_quiet_on) | ((refine quiet_load_st ⟨g2, d.cells, 23⟩ (by simp) _ rfl rfl rfl Try.underlying23 (by kernel_rfl) ?_); (simp only [Act.put, List.setIfInBounds_toArray, List.set_cons_zero, List.set_cons_succ]); go_big_quiet_on)) | (go_big_quiet_op; first | go_big_quiet_on | go_big_quiet_call ((first | (go_at_call 51; have h := isBase26_any b; rw [hp] at h; exact calls_st _ (h _)) | (go_at_call 55; have h := isAlt26_any d; rw [hq] at h; exact calls_st _ (h _)) | (go_at_call 53; exact calls_st _ (keys26_any b _)))))))); refine wpQuiet_nil ?_; clear hst; rintro _ ⟨⟨wq, hst⟩, rfl⟩; try dsimp only)
  go_wp2
  go_ret
  exact ⟨ret_bool (by simp), hst.base⟩

set_option maxHeartbeats 1000000 in
set_option maxRecDepth 100000 in
theorem valid26_3 (b d : DS) (w : World) (hp : b.isBase = true) (hq : d.known = true) (hr : (d.base == b.id) = true) (hs : decide (d.altAt + d.altLen ≤ b.len) = false) (ha1 : 1 ≤ d.altLen) (ha2 : d.altLen ≤ 32) (ha3 : 0 ≤ d.altAt) (ha4 : d.altAt ≤ 200) :
    Calls Try.prog 18 #[b.v, d.v] w fun e w' => e = .returned (.bool (false)) ∧ Below w.heap.size w w' := by
  have hst := St.start w
  go_enter Try.func18, Try.ntmps18
  go_wp2_with (first | ((with_reducible refine at_dst (N := 2) rfl ?_); refine wpList_box hst 23 b.cells rfl ?hr ?_; (case hr => first | (go_simp; done) | (go_simp; rfl)); clear hst; intro g1 w1 hst; obtain ⟨hc1, hf1, hl1⟩ := hst.c0) | ((with_reducible refine at_dst (N := 3) rfl ?_); refine wpList_box hst 23 d.cells rfl ?hr ?_; (case hr => first | (go_simp; done) | (go_simp; rfl)); clear hst; intro g2 w2 hst; obtain ⟨hc2, hf2, hl2⟩ := hst.c0))
  obtain ⟨hne, hq2, hq1⟩ := hst.facts2; dsimp only at hq1 hq2
  (refine wp_region_st hst (by kernel_rfl) (by kernel_rfl) ?_; (repeat (first | go_big_quiet_skip | (go_big_quiet_want; first | (first | ((refine quiet_load_st ⟨g1, b.cells, 23⟩ (by simp) _ rfl rfl rfl Try.underlying23 (by kernel_rfl) ?_); (simp only [Act.put, List.setIfInBounds_toArray, List.set_cons_zero, List.set_cons_succ]); go_big_quiet_on) | ((refine quiet_load_st ⟨g2, d.cells, 23⟩ (by simp) _ rfl rfl rfl Try.underlying23 (by kernel_rfl) ?_); (simp only [Act.put, List.setIfInBounds_toArray, List.set_cons_zero, List.set_cons_succ]); go_big_quiet_on)) | (go_big_quiet_op; first | go_big_quiet_on | go_big_quiet_call ((first | (go_at_call 51; have h := isBase26_any b; rw [hp] at h; exact calls_st _ (h _)) | (go_at_call 55; have h := isAlt26_any d; rw [hq] at h; exact calls_st _ (h _)) | (go_at_call 53; exact calls_st _ (keys26_any b _)))))))); refine wpQuiet_nil ?_; clear hst; rintro _ ⟨⟨wq, hst⟩, rfl⟩; try dsimp only)
  go_wp2
  go_ret
  exact ⟨ret_bool (by simp), hst.base⟩

set_option maxHeartbeats 1000000 in
set_option maxRecDepth 100000 in
theorem valid26_4 (b d : DS) (w : World) (hp : b.isBase = true) (hq : d.known = true) (hr : (d.base == b.id) = true) (hs : decide (d.altAt + d.altLen ≤ b.len) = true) (ha1 : 1 ≤ d.altLen) (ha2 : d.altLen ≤ 32) (ha3 : 0 ≤ d.altAt) (ha4 : d.altAt ≤ 200) (hk1 : 1 ≤ b.keySize) (hk2 : b.keySize ≤ 32) :
    Calls Try.prog 18 #[b.v, d.v] w fun e w' => e = .returned (.bool (d.keyLen == d.altLen + b.keySize)) ∧ Below w.heap.size w w' := by
  have hst := St.start w
  go_enter Try.func18, Try.ntmps18
  go_wp2_with (first | ((with_reducible refine at_dst (N := 2) rfl ?_); refine wpList_box hst 23 b.cells rfl ?hr ?_; (case hr => first | (go_simp; done) | (go_simp; rfl)); clear hst; intro g1 w1 hst; obtain ⟨hc1, hf1, hl1⟩ := hst.c0) | ((with_reducible refine at_dst (N := 3) rfl ?_); refine wpList_box hst 23 d.cells rfl ?hr ?_; (case hr => first | (go_simp; done) | (go_simp; rfl)); clear hst; intro g2 w2 hst; obtain ⟨hc2, hf2, hl2⟩ := hst.c0))
  obtain ⟨hne, hq2, hq1⟩ := hst.facts2; dsimp only at hq1 hq2
  (refine wp_region_st hst (by kernel_rfl) (by kernel_rfl) ?_; (repeat (first | go_big_quiet_skip | (go_big_quiet_want; first | (first | ((refine quiet_load_st ⟨g1, b.cells, 23⟩ (by simp) _ rfl rfl rfl Try.underlying23 (by kernel_rfl) ?_); (simp only [Act.put, List.setIfInBounds_toArray, List.set_cons_zero, List.set_cons_succ]); go_big_quiet_on) | ((refine quiet_load_st ⟨g2, d.cells, 23⟩ (by simp) _ rfl rfl rfl Try.underlying23 (by kernel_rfl) ?_); (simp only [Act.put, List.setIfInBounds_toArray, List.set_cons_zero, List.set_cons_succ]); go_big_quiet_on)) | (go_big_quiet_op; first | go_big_quiet_on | go_big_quiet_call ((first | (go_at_call 51; have h := isBase26_any b; rw [hp] at h; exact calls_st _ (h _)) | (go_at_call 55; have h := isAlt26_any d; rw [hq] at h; exact calls_st _ (h _)) | (go_at_call 53; exact calls_st _ (keys26_any b _)))))))); refine wpQuiet_nil ?_; clear hst; rintro _ ⟨⟨wq, hst⟩, rfl⟩; try dsimp only)
  go_wp2
  go_ret
  exact ⟨ret_bool (by simp), hst.base⟩

theorem valid26_any (b d : DS) (w : World) :
    Calls Try.prog 18 #[b.v, d.v] w fun e w' => e = .returned (.bool (altOf b d)) ∧ Below w.heap.size w w' := by
  have no : ¬ AltOf b d → altOf b d = false := fun h => decide_eq_false h
  cases hp : b.isBase with
  | false =>
    have e : altOf b d = false := no fun h => by have := (DS.isBase_iff b).2 ((altOf_ref b d).1 h).1; rw [hp] at this; cases this
    rw [e]; exact valid26_0 b d w hp
  | true =>
    cases hq : d.known with
    | false =>
      have e : altOf b d = false := no fun h => by have := (DS.known_iff d).2 ((altOf_ref b d).1 h).2.1; rw [hq] at this; cases this
      rw [e]; exact valid26_1 b d w hp hq
    | true =>
      have hb := ((DS.known_iff d).1 hq).bounds
      cases hr : (d.base == b.id) with
      | false =>
        have e : altOf b d = false := no fun h => by have := ((altOf_ref b d).1 h).2.2.1; simp [this] at hr
        rw [e]; exact valid26_2 b d w hp hq hr
      | true =>
        cases hs : decide (d.altAt + d.altLen ≤ b.len) with
        | false =>
          have e : altOf b d = false := no fun h => by have := ((altOf_ref b d).1 h).2.2.2.1; simp at hs; omega
          rw [e]; exact valid26_3 b d w hp hq hr hs (by omega) (by omega) (by omega) (by omega)
        | true =>
          have hk := DS.keySize_bounds ((DS.isBase_iff b).1 hp).1
          have e : altOf b d = (d.keyLen == d.altLen + b.keySize) := by
            rw [Bool.eq_iff_iff, altOf_iff, altOf_ref, beq_iff_eq]
            exact ⟨fun h => h.2.2.2.2, fun h => ⟨(DS.isBase_iff b).1 hp, (DS.known_iff d).1 hq, by simpa using hr, by simpa using hs, h⟩⟩
          rw [e]; exact valid26_4 b d w hp hq hr hs (by omega) (by omega) (by omega) (by omega) hk.1 hk.2
end Go.Proofs.Ytcdlcdibcekahaa
