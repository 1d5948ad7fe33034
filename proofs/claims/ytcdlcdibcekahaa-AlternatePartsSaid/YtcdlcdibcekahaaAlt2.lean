/- The package alternate: known, Valid, baseSize, Key. -/
import Derived.Test.YtcdlcdibcekahaaAlt
import Derived.Test.YtcdlcdibcekahaaKit2
namespace Go.Proofs.Ytcdlcdibcekahaa
open Go.RowKit
set_option linter.unusedSimpArgs false
set_option linter.unusedVariables false

set_option maxHeartbeats 400000 in
theorem known_any (d : DS) (w : World) :
    Calls Try.prog 57 #[d.v] w fun e w' => e = .returned (.bool d.known) ∧ Below w.heap.size w w' := by
  have hst := St.start w
  go_enter Try.func57, Try.ntmps57
  go_wp2_with (first | ((with_reducible refine at_dst (N := 1) rfl ?_); refine wpList_box hst 23 d.cells rfl ?hr ?_; (case hr => first | (go_simp; done) | (go_simp; rfl)); clear hst; intro g1 w1 hst; obtain ⟨hc1, hf1, hl1⟩ := hst.c0) | (refine wpList_load_own hst ⟨g1, d.cells, 23⟩ (by simp) rfl _ rfl rfl _ rfl Try.underlying23 (by kernel_rfl) ?_) | (go_at_call 54; refine (shaped_any d _ _ (by omega) (by omega)).mono ?_; rintro e w' ⟨rfl, hb⟩; replace hst := hst.below hb; clear hb; clear hc1 hf1; obtain ⟨hc1, hf1, hl1⟩ := hst.c0))
  all_goals (go_ret; go_light; refine ⟨ret_bool ?_, ?_⟩; (focus (rw [Bool.eq_iff_iff]; simp only [DS.known_iff, DS.Known, DS.shaped_iff, bne_iff_ne, beq_iff_eq, Bool.not_eq_true', beq_eq_false_iff_ne, ne_eq, Bool.and_eq_true, Bool.or_eq_true, Bool.and_eq_false_iff, Bool.or_eq_false_iff, decide_eq_true_eq, decide_eq_false_iff_not, Bool.not_eq_false', Bool.not_eq_true, bne_eq_false_iff_eq, Bool.false_eq_true, false_iff, true_iff, iff_false, List.all_cons, List.all_nil, Bool.and_true] at *; first | omega | (clear hst; simp_all; done) | (clear hst; simp_all; omega) | (trace_state; fail "omega"))); (focus (have hbase := hst.base; have hsz := hst.base.size; go_grown)))

set_option maxHeartbeats 400000 in
theorem baseSize_any (d : DS) (w : World) :
    Calls Try.prog 58 #[d.v] w fun e w' => e = .returned (.int .i64 d.baseSize) ∧ Below w.heap.size w w' := by
  have hst := St.start w
  go_enter Try.func58, Try.ntmps58
  go_wp2_with (first | ((with_reducible refine at_dst (N := 1) rfl ?_); refine wpList_box hst 23 d.cells rfl ?hr ?_; (case hr => first | (go_simp; done) | (go_simp; rfl)); clear hst; intro g1 w1 hst; obtain ⟨hc1, hf1, hl1⟩ := hst.c0))
  all_goals (go_ret; go_light; refine ⟨ret_int ?_, ?_⟩; (focus (clear hst; simp_all [DS.baseSize])); (focus (have hbase := hst.base; have hsz := hst.base.size; go_grown)))


set_option maxHeartbeats 1000000 in
set_option maxRecDepth 100000 in
theorem altValid_c (b d : DS) (w : World) (p q r : Bool) (hp : b.isBase = p) (hq : (d.base == b.id) = q) (hr : d.shaped b.len = r) (hl : p = true → 0 ≤ b.len ∧ b.len ≤ 200)
    (hr2 : p = true → r = true → 1 ≤ d.altLen ∧ d.altLen ≤ 200) (hk : p = true → 1 ≤ b.keySize ∧ b.keySize ≤ 32) :
    Calls Try.prog 17 #[b.v, d.v] w fun e w' => e = .returned (.bool (p && q && r && (d.keyLen == d.altLen + b.keySize))) ∧ Below w.heap.size w w' := by
  have hst := St.start w
  cases p with
  | false =>
    go_enter Try.func17, Try.ntmps17
    go_wp2_with (first | ((with_reducible refine at_dst (N := 2) rfl ?_); refine wpList_box hst 23 b.cells rfl ?hr ?_; (case hr => first | (go_simp; done) | (go_simp; rfl)); clear hst; intro g1 w1 hst; obtain ⟨hc1, hf1, hl1⟩ := hst.c0) | ((with_reducible refine at_dst (N := 3) rfl ?_); refine wpList_box hst 23 d.cells rfl ?hr ?_; (case hr => first | (go_simp; done) | (go_simp; rfl)); clear hst; intro g2 w2 hst; obtain ⟨hc2, hf2, hl2⟩ := hst.c0))
    obtain ⟨hne, hq2, hq1⟩ := hst.facts2; dsimp only at hq1 hq2
    (refine wp_region_st hst (by kernel_rfl) (by kernel_rfl) ?_; (repeat (first | go_big_quiet_skip | (go_big_quiet_want; first | (first | ((refine quiet_load_st ⟨g1, b.cells, 23⟩ (by simp) _ rfl rfl rfl Try.underlying23 (by kernel_rfl) ?_); (simp only [Act.put, List.setIfInBounds_toArray, List.set_cons_zero, List.set_cons_succ]); go_big_quiet_on) | ((refine quiet_load_st ⟨g2, d.cells, 23⟩ (by simp) _ rfl rfl rfl Try.underlying23 (by kernel_rfl) ?_); (simp only [Act.put, List.setIfInBounds_toArray, List.set_cons_zero, List.set_cons_succ]); go_big_quiet_on)) | (go_big_quiet_op; first | go_big_quiet_on | go_big_quiet_call ((go_at_call 47; have h := isBase_any b; rw [hp] at h; exact calls_st _ (h _))))))); refine wpQuiet_nil ?_; clear hst; rintro _ ⟨⟨wq, hst⟩, rfl⟩; try dsimp only)
    go_wp2
    go_ret
    exact ⟨rfl, hst.base⟩
  | true =>
    obtain ⟨hlen1, hlen2⟩ := hl rfl
    obtain ⟨hk1, hk2⟩ := hk rfl
    clear hl hk
    cases q with
    | false =>
      go_enter Try.func17, Try.ntmps17
      go_wp2_with (first | ((with_reducible refine at_dst (N := 2) rfl ?_); refine wpList_box hst 23 b.cells rfl ?hr ?_; (case hr => first | (go_simp; done) | (go_simp; rfl)); clear hst; intro g1 w1 hst; obtain ⟨hc1, hf1, hl1⟩ := hst.c0) | ((with_reducible refine at_dst (N := 3) rfl ?_); refine wpList_box hst 23 d.cells rfl ?hr ?_; (case hr => first | (go_simp; done) | (go_simp; rfl)); clear hst; intro g2 w2 hst; obtain ⟨hc2, hf2, hl2⟩ := hst.c0))
      obtain ⟨hne, hq2, hq1⟩ := hst.facts2; dsimp only at hq1 hq2
      (refine wp_region_st hst (by kernel_rfl) (by kernel_rfl) ?_; (repeat (first | go_big_quiet_skip | (go_big_quiet_want; first | (first | ((refine quiet_load_st ⟨g1, b.cells, 23⟩ (by simp) _ rfl rfl rfl Try.underlying23 (by kernel_rfl) ?_); (simp only [Act.put, List.setIfInBounds_toArray, List.set_cons_zero, List.set_cons_succ]); go_big_quiet_on) | ((refine quiet_load_st ⟨g2, d.cells, 23⟩ (by simp) _ rfl rfl rfl Try.underlying23 (by kernel_rfl) ?_); (simp only [Act.put, List.setIfInBounds_toArray, List.set_cons_zero, List.set_cons_succ]); go_big_quiet_on)) | (go_big_quiet_op; first | go_big_quiet_on | go_big_quiet_call ((go_at_call 47; have h := isBase_any b; rw [hp] at h; exact calls_st _ (h _))))))); refine wpQuiet_nil ?_; clear hst; rintro _ ⟨⟨wq, hst⟩, rfl⟩; try dsimp only)
      go_wp2
      go_ret
      exact ⟨rfl, hst.base⟩
    | true =>
      cases r with
      | false =>
        clear hr2
        go_enter Try.func17, Try.ntmps17
        go_wp2_with (first | ((with_reducible refine at_dst (N := 2) rfl ?_); refine wpList_box hst 23 b.cells rfl ?hr ?_; (case hr => first | (go_simp; done) | (go_simp; rfl)); clear hst; intro g1 w1 hst; obtain ⟨hc1, hf1, hl1⟩ := hst.c0) | ((with_reducible refine at_dst (N := 3) rfl ?_); refine wpList_box hst 23 d.cells rfl ?hr ?_; (case hr => first | (go_simp; done) | (go_simp; rfl)); clear hst; intro g2 w2 hst; obtain ⟨hc2, hf2, hl2⟩ := hst.c0))
        obtain ⟨hne, hq2, hq1⟩ := hst.facts2; dsimp only at hq1 hq2
        (refine wp_region_st hst (by kernel_rfl) (by kernel_rfl) ?_; (repeat (first | go_big_quiet_skip | (go_big_quiet_want; first | (first | ((refine quiet_load_st ⟨g1, b.cells, 23⟩ (by simp) _ rfl rfl rfl Try.underlying23 (by kernel_rfl) ?_); (simp only [Act.put, List.setIfInBounds_toArray, List.set_cons_zero, List.set_cons_succ]); go_big_quiet_on) | ((refine quiet_load_st ⟨g2, d.cells, 23⟩ (by simp) _ rfl rfl rfl Try.underlying23 (by kernel_rfl) ?_); (simp only [Act.put, List.setIfInBounds_toArray, List.set_cons_zero, List.set_cons_succ]); go_big_quiet_on)) | (go_big_quiet_op; first | go_big_quiet_on | go_big_quiet_call ((first | (go_at_call 47; have h := isBase_any b; rw [hp] at h; exact calls_st _ (h _)) | (go_at_call 54; have h := shaped_any d b.len; rw [hr] at h; exact calls_st _ (h _ hlen1 hlen2)))))))); refine wpQuiet_nil ?_; clear hst; rintro _ ⟨⟨wq, hst⟩, rfl⟩; try dsimp only)
        go_wp2
        go_ret
        exact ⟨rfl, hst.base⟩
      | true =>
        obtain ⟨ha1, ha2⟩ := hr2 rfl rfl
        clear hr2
        go_enter Try.func17, Try.ntmps17
        go_wp2_with (first | ((with_reducible refine at_dst (N := 2) rfl ?_); refine wpList_box hst 23 b.cells rfl ?hr ?_; (case hr => first | (go_simp; done) | (go_simp; rfl)); clear hst; intro g1 w1 hst; obtain ⟨hc1, hf1, hl1⟩ := hst.c0) | ((with_reducible refine at_dst (N := 3) rfl ?_); refine wpList_box hst 23 d.cells rfl ?hr ?_; (case hr => first | (go_simp; done) | (go_simp; rfl)); clear hst; intro g2 w2 hst; obtain ⟨hc2, hf2, hl2⟩ := hst.c0))
        obtain ⟨hne, hq2, hq1⟩ := hst.facts2; dsimp only at hq1 hq2
        (refine wp_region_st hst (by kernel_rfl) (by kernel_rfl) ?_; (repeat (first | go_big_quiet_skip | (go_big_quiet_want; first | (first | ((refine quiet_load_st ⟨g1, b.cells, 23⟩ (by simp) _ rfl rfl rfl Try.underlying23 (by kernel_rfl) ?_); (simp only [Act.put, List.setIfInBounds_toArray, List.set_cons_zero, List.set_cons_succ]); go_big_quiet_on) | ((refine quiet_load_st ⟨g2, d.cells, 23⟩ (by simp) _ rfl rfl rfl Try.underlying23 (by kernel_rfl) ?_); (simp only [Act.put, List.setIfInBounds_toArray, List.set_cons_zero, List.set_cons_succ]); go_big_quiet_on)) | (go_big_quiet_op; first | go_big_quiet_on | go_big_quiet_call ((first | (go_at_call 47; have h := isBase_any b; rw [hp] at h; exact calls_st _ (h _)) | (go_at_call 54; have h := shaped_any d b.len; rw [hr] at h; exact calls_st _ (h _ hlen1 hlen2)) | (go_at_call 49; exact calls_st _ (keySize_any b _)))))))); refine wpQuiet_nil ?_; clear hst; rintro _ ⟨⟨wq, hst⟩, rfl⟩; try dsimp only)
        go_wp2
        go_ret
        exact ⟨ret_bool (by simp), hst.base⟩

theorem altValid_any (b d : DS) (w : World) :
    Calls Try.prog 17 #[b.v, d.v] w fun e w' => e = .returned (.bool (altOf b d)) ∧ Below w.heap.size w w' := by
  have h := altValid_c b d w _ _ _ rfl rfl rfl (fun h => by have := ((DS.isBase_iff b).1 h).1.bounds; omega)
    (fun h0 h => by have h3 := ((DS.isBase_iff b).1 h0).1.bounds; have := (DS.shaped_iff d b.len).1 h; unfold DS.Shaped at this; omega) (fun h => DS.keySize_bounds ((DS.isBase_iff b).1 h).1)
  have e : (b.isBase && (d.base == b.id) && d.shaped b.len && (d.keyLen == d.altLen + b.keySize)) = altOf b d := by
    rw [Bool.eq_iff_iff, altOf_iff, Bool.and_eq_true, Bool.and_eq_true, Bool.and_eq_true, DS.isBase_iff, DS.shaped_iff, beq_iff_eq, beq_iff_eq, AltOf, and_assoc, and_assoc]
  rw [e] at h
  exact h

set_option maxHeartbeats 1000000 in
theorem key_any (d : DS) (r : ByteArray) (w : World) :
    Calls Try.prog 21 #[d.v, .string r] w fun e w' => e = .returned (.tuple #[.string (keyS d r), .bool (keyB d r)]) ∧ Below w.heap.size w w' := by
  have hst := St.start w
  cases hk : d.known with
  | false =>
    go_enter Try.func21, Try.ntmps21
    go_wp2_with (first | ((with_reducible refine at_dst (N := 2) rfl ?_); refine wpList_box hst 23 d.cells rfl ?hr ?_; (case hr => first | (go_simp; done) | (go_simp; rfl)); clear hst; intro g1 w1 hst; obtain ⟨hc1, hf1, hl1⟩ := hst.c0) | (refine wpList_load_own hst ⟨g1, d.cells, 23⟩ (by simp) rfl _ rfl rfl _ rfl Try.underlying23 (by kernel_rfl) ?_) | (go_at_call 57; refine (known_any d _).mono ?_; rintro e w' ⟨rfl, hb⟩; replace hst := hst.below hb; clear hb; clear hc1 hf1; obtain ⟨hc1, hf1, hl1⟩ := hst.c0))
    all_goals (go_ret2; exact ⟨by simp [keyS, keyB, hk], hst.base⟩)
  | true =>
    obtain ⟨⟨b1, b2⟩, ⟨b3, b4⟩, b5⟩ := ((DS.known_iff d).1 hk).bounds
    by_cases hs : d.altAt + d.altLen ≤ r.size
    · have hB : keyB d r = true := by simp [keyB, hk, hs]
      have HB := Lib.hid hB
      clear hB
      go_enter Try.func21, Try.ntmps21
      go_wp2_with (first | ((with_reducible refine at_dst (N := 2) rfl ?_); refine wpList_box hst 23 d.cells rfl ?hr ?_; (case hr => first | (go_simp; done) | (go_simp; rfl)); clear hst; intro g1 w1 hst; obtain ⟨hc1, hf1, hl1⟩ := hst.c0) | (refine wpList_load_own hst ⟨g1, d.cells, 23⟩ (by simp) rfl _ rfl rfl _ rfl Try.underlying23 (by kernel_rfl) ?_) | (go_at_call 57; refine (known_any d _).mono ?_; rintro e w' ⟨rfl, hb⟩; replace hst := hst.below hb; clear hb; clear hc1 hf1; obtain ⟨hc1, hf1, hl1⟩ := hst.c0))
      obtain ⟨hne, hq1⟩ := hst.facts1; dsimp only at hq1
      have hs1 : d.altAt ≤ r.size := by omega
      (refine wp_region_st hst (by kernel_rfl) (by kernel_rfl) ?_; (repeat (first | go_big_quiet_skip | (go_big_quiet_want; first | fail | (go_big_quiet_op; first | go_big_quiet_on | go_big_quiet_call (fail))))); refine wpQuiet_nil ?_; clear hst; rintro _ ⟨⟨wq, hst⟩, rfl⟩; try dsimp only)
      go_wp2
      go_ret2
      refine ⟨?_, hst.base⟩
      rw [HB.out, keyS, if_pos HB.out, extract_sub _ _ _ (by omega), show (d.altAt + d.altLen).toNat = d.altAt.toNat + d.altLen.toNat by omega]
      rfl
    · have hB : keyB d r = false := by simp [keyB, hs]
      have HB := Lib.hid hB
      clear hB
      go_enter Try.func21, Try.ntmps21
      go_wp2_with (first | ((with_reducible refine at_dst (N := 2) rfl ?_); refine wpList_box hst 23 d.cells rfl ?hr ?_; (case hr => first | (go_simp; done) | (go_simp; rfl)); clear hst; intro g1 w1 hst; obtain ⟨hc1, hf1, hl1⟩ := hst.c0) | (refine wpList_load_own hst ⟨g1, d.cells, 23⟩ (by simp) rfl _ rfl rfl _ rfl Try.underlying23 (by kernel_rfl) ?_) | (go_at_call 57; refine (known_any d _).mono ?_; rintro e w' ⟨rfl, hb⟩; replace hst := hst.below hb; clear hb; clear hc1 hf1; obtain ⟨hc1, hf1, hl1⟩ := hst.c0))
      all_goals (go_ret2; exact ⟨by simp [keyS, HB.out], hst.base⟩)

end Go.Proofs.Ytcdlcdibcekahaa
