/- AlternateDescribes: the walk of the law. -/
import Derived.Test.YtcdlcdibcekahaaAwake26
import Derived.Test.YtcdlcdibcekahaaDesc26
namespace Go.Proofs.Ytcdlcdibcekahaa
open Go.RowKit
set_option linter.unusedSimpArgs false
set_option linter.unusedVariables false

set_option maxHeartbeats 2000000 in
set_option maxRecDepth 100000 in
theorem lawDescribes_walk (b d : DS) (id at_ len : Int) (u : Bool) (w : World) :
    Calls Try.prog 3 #[b.v, d.v, .int .i64 id, .int .i64 at_, .int .i64 len, .bool u] w fun e w' => e = .returned (.bool true) ∧ Below w.heap.size w w' := by
  have hst := St.start w
  obtain ⟨V, hV⟩ : ∃ V, V = descV b id at_ len u := ⟨_, rfl⟩
  obtain ⟨E, hE⟩ : ∃ E, E = descE b id at_ len u := ⟨_, rfl⟩
  have k1 := fun w => desc_any b id at_ len u w
  have k2 := fun w => desc26_any b id at_ len u w
  rw [← hV, ← hE] at k1 k2
  obtain ⟨q, hq⟩ : ∃ q, q = altOf b d := ⟨_, rfl⟩
  have k3 := fun w => altValid_any b d w
  have k4 := fun w => valid26_any b d w
  rw [← hq] at k3 k4
  clear hV hE hq
  have K1 := Lib.hid k1
  have K2 := Lib.hid k2
  have K3 := Lib.hid k3
  have K4 := Lib.hid k4
  clear k1 k2 k3 k4
  go_enter Try.func3, Try.ntmps3
  go_wp2_with (first | ((with_reducible refine at_dst (N := 6) rfl ?_); refine wpList_box hst 23 b.cells rfl ?hr ?_; (case hr => first | (go_simp; done) | (go_simp; rfl)); clear hst; intro g1 w1 hst; obtain ⟨hc1, hf1, hl1⟩ := hst.c0) | ((with_reducible refine at_dst (N := 7) rfl ?_); refine wpList_box hst 23 d.cells rfl ?hr ?_; (case hr => first | (go_simp; done) | (go_simp; rfl)); clear hst; intro g2 w2 hst; obtain ⟨hc2, hf2, hl2⟩ := hst.c0) | (go_at_call 14; refine (awake26_any _).mono ?_; rintro e w' ⟨rfl, hb⟩; replace hst := hst.below hb; clear hb; clear hc1 hf1 hc2 hf2; obtain ⟨hc2, hf2, hl2⟩ := hst.c0; obtain ⟨hc1, hf1, hl1⟩ := hst.c1)  | ((with_reducible refine at_dst (N := 20) rfl ?_); (refine wpList_load_own hst ⟨g1, b.cells, 23⟩ (by simp) rfl _ rfl rfl _ rfl Try.underlying23 (by kernel_rfl) ?_)) | (go_at_call 15; refine (K1.out _).mono ?_; rintro e w' ⟨rfl, hb⟩; replace hst := hst.below hb; clear hb; clear hc1 hf1 hc2 hf2; obtain ⟨hc2, hf2, hl2⟩ := hst.c0; obtain ⟨hc1, hf1, hl1⟩ := hst.c1) | ((with_reducible refine at_dst (N := 13) rfl ?_); refine wpList_box hst 23 zDS.cells rfl ?hr ?_; (case hr => first | (go_simp; done) | (go_simp; rfl)); clear hst; intro g3 w3 hst; obtain ⟨hc3, hf3, hl3⟩ := hst.c0) | ((with_reducible refine at_store (p := 13) rfl ?_); refine wpList_put0 hst rfl _ _ rfl V.cells rfl rfl (by kernel_rfl) rfl (by simp [rangeV, Value.oneCell']) ?_; clear hst; intro wp hst; clear hc1 hf1 hc2 hf2 hc3 hf3; obtain ⟨hc3, hf3, hl3⟩ := hst.c0; obtain ⟨hc2, hf2, hl2⟩ := hst.c1; obtain ⟨hc1, hf1, hl1⟩ := hst.c2)  | ((with_reducible refine at_dst (N := 29) rfl ?_); (refine wpList_load_own hst ⟨g1, b.cells, 23⟩ (by simp) rfl _ rfl rfl _ rfl Try.underlying23 (by kernel_rfl) ?_)) | (go_at_call 16; refine (K2.out _).mono ?_; rintro e w' ⟨rfl, hb⟩; replace hst := hst.below hb; clear hb; clear hc1 hf1 hc2 hf2 hc3 hf3; obtain ⟨hc3, hf3, hl3⟩ := hst.c0; obtain ⟨hc2, hf2, hl2⟩ := hst.c1; obtain ⟨hc1, hf1, hl1⟩ := hst.c2) | ((with_reducible refine at_dst (N := 15) rfl ?_); refine wpList_box hst 23 zDS.cells rfl ?hr ?_; (case hr => first | (go_simp; done) | (go_simp; rfl)); clear hst; intro g4 w4 hst; obtain ⟨hc4, hf4, hl4⟩ := hst.c0) | ((with_reducible refine at_store (p := 15) rfl ?_); refine wpList_put0 hst rfl _ _ rfl V.cells rfl rfl (by kernel_rfl) rfl (by simp [rangeV, Value.oneCell']) ?_; clear hst; intro wp hst; clear hc1 hf1 hc2 hf2 hc3 hf3 hc4 hf4; obtain ⟨hc4, hf4, hl4⟩ := hst.c0; obtain ⟨hc3, hf3, hl3⟩ := hst.c1; obtain ⟨hc2, hf2, hl2⟩ := hst.c2; obtain ⟨hc1, hf1, hl1⟩ := hst.c3))
  obtain ⟨hne, hq4, hq3, hq2, hq1⟩ := hst.facts4; dsimp only at hq1 hq2 hq3 hq4
  (refine wp_region_st hst (by kernel_rfl) (by kernel_rfl) ?_; (repeat (first | go_big_quiet_skip | (go_big_quiet_want; first | (first | ((refine quiet_load_st ⟨g3, V.cells, 23⟩ (by simp) _ rfl rfl rfl Try.underlying23 (by kernel_rfl) ?_); (simp only [Act.put, List.setIfInBounds_toArray, List.set_cons_zero, List.set_cons_succ]); go_big_quiet_on) | ((refine quiet_load_st ⟨g4, V.cells, 23⟩ (by simp) _ rfl rfl rfl Try.underlying23 (by kernel_rfl) ?_); (simp only [Act.put, List.setIfInBounds_toArray, List.set_cons_zero, List.set_cons_succ]); go_big_quiet_on) | ((refine quiet_load_st ⟨g1, b.cells, 23⟩ (by simp) _ rfl rfl rfl Try.underlying23 (by kernel_rfl) ?_); (simp only [Act.put, List.setIfInBounds_toArray, List.set_cons_zero, List.set_cons_succ]); go_big_quiet_on) | ((refine quiet_load_st ⟨g2, d.cells, 23⟩ (by simp) _ rfl rfl rfl Try.underlying23 (by kernel_rfl) ?_); (simp only [Act.put, List.setIfInBounds_toArray, List.set_cons_zero, List.set_cons_succ]); go_big_quiet_on)) | (go_big_quiet_op; first | go_big_quiet_on | go_big_quiet_call ((first | (go_at_call 17; exact calls_st _ (K3.out _)) | (go_at_call 18; exact calls_st _ (K4.out _)))))))); refine wpQuiet_nil ?_; clear hst; rintro _ ⟨⟨wq, hst⟩, rfl⟩; try dsimp only)
  go_wp2
  go_ret
  exact ⟨rfl, hst.base⟩
end Go.Proofs.Ytcdlcdibcekahaa
