/- AlternateFits: the walk of the law. -/
import Derived.Test.YtcdlcdibcekahaaAwake26
import Derived.Test.YtcdlcdibcekahaaDesc2
import Derived.Test.YtcdlcdibcekahaaRef16
namespace Go.Proofs.Ytcdlcdibcekahaa
open Go.RowKit
set_option linter.unusedSimpArgs false
set_option linter.unusedVariables false

set_option maxHeartbeats 2000000 in
set_option maxRecDepth 100000 in
theorem fits_ok (b V : DS) (w : World) (h2 : Int) (p : Bool) (hh2 : V.intv.tdiv 2 = h2) (hw : wrap64 h2 = h2)
    (k1 : ∀ w, Calls Try.prog 15 #[b.v, .int .i64 V.id, .int .i64 V.altAt, .int .i64 V.altLen, .bool V.uniq] w fun e w' => e = .returned (.tuple #[V.v, .int .i64 0]) ∧ Below w.heap.size w w')
    (hv : altOf b V = true) (hk : V.kvalid = true) (hb : V.base = b.id) (hi : b.intv ≤ V.intv) (hi2 : 128 ≤ V.intv ∧ V.intv ≤ 512)
    (hp : (V.intv == b.intv) = p) (hq : p = false → altOf b { V with intv := h2 } = false) :
    Calls Try.prog 4 #[b.v, .int .i64 V.id, .int .i64 V.altAt, .int .i64 V.altLen, .bool V.uniq] w fun e w' => e = .returned (.bool true) ∧ Below w.heap.size w w' := by
  have hst := St.start w
  have K1 := Lib.hid k1
  have k3 := fun w => altValid_any b V w
  rw [hv] at k3
  have K3 := Lib.hid k3
  have k4 := fun w => ref16_any V w
  rw [hk] at k4
  have K4 := Lib.hid k4
  clear k1 k3 k4 hv hk
  have hb1 : (V.base != b.id) = false := by simp [hb]
  have hi1 : (decide (V.intv < b.intv)) = false := by simp; omega
  clear hb hi
  cases p with
  | true =>
    have K5 := Lib.hid (fun w => altValid_any b { V with intv := h2 } w)
    clear hq
    go_enter Try.func4, Try.ntmps4
    go_upto_region 10 with (first | ((with_reducible refine at_dst (N := 5) rfl ?_); refine wpList_box hst 23 b.cells rfl ?hr ?_; (case hr => first | (go_simp; done) | (go_simp; rfl)); clear hst; intro g1 w1 hst; obtain ⟨hc1, hf1, hl1⟩ := hst.c0) | (go_at_call 14; refine (awake26_any _).mono ?_; rintro e w' ⟨rfl, hb⟩; replace hst := hst.below hb; clear hb; clear hc1 hf1; obtain ⟨hc1, hf1, hl1⟩ := hst.c0)  | ((with_reducible refine at_dst (N := 17) rfl ?_); (refine wpList_load_own hst ⟨g1, b.cells, 23⟩ (by simp) rfl _ rfl rfl _ rfl Try.underlying23 (by kernel_rfl) ?_)) | (go_at_call 15; refine (K1.out _).mono ?_; rintro e w' ⟨rfl, hb⟩; replace hst := hst.below hb; clear hb; clear hc1 hf1; obtain ⟨hc1, hf1, hl1⟩ := hst.c0) | ((with_reducible refine at_dst (N := 11) rfl ?_); refine wpList_box hst 23 zDS.cells rfl ?hr ?_; (case hr => first | (go_simp; done) | (go_simp; rfl)); clear hst; intro g2 w2 hst; obtain ⟨hc2, hf2, hl2⟩ := hst.c0) | ((with_reducible refine at_store (p := 11) rfl ?_); refine wpList_put0 hst rfl _ _ rfl V.cells rfl rfl (by kernel_rfl) rfl (by simp [rangeV, Value.oneCell']) ?_; clear hst; intro wp hst; clear hc1 hf1 hc2 hf2; obtain ⟨hc2, hf2, hl2⟩ := hst.c0; obtain ⟨hc1, hf1, hl1⟩ := hst.c1)  | ((with_reducible refine at_dst (N := 38) rfl ?_); (refine wpList_load_own hst ⟨g1, b.cells, 23⟩ (by simp) rfl _ rfl rfl _ rfl Try.underlying23 (by kernel_rfl) ?_)) | ((with_reducible refine at_dst (N := 39) rfl ?_); (refine wpList_load_own hst ⟨g2, V.cells, 23⟩ (by simp) rfl _ rfl rfl _ rfl Try.underlying23 (by kernel_rfl) ?_)) | (go_at_call 17; refine (K3.out _).mono ?_; rintro e w' ⟨rfl, hb⟩; replace hst := hst.below hb; clear hb; clear hc1 hf1 hc2 hf2; obtain ⟨hc2, hf2, hl2⟩ := hst.c0; obtain ⟨hc1, hf1, hl1⟩ := hst.c1)  | ((with_reducible refine at_dst (N := 43) rfl ?_); refine wpList_load_g hst ⟨g2, V.cells, 23⟩ (by simp) rfl _ rfl rfl rfl Try.underlying23 (by kernel_rfl) ?_) | (go_at_call 19; refine (K4.out _).mono ?_; rintro e w' ⟨rfl, hb⟩; replace hst := hst.below hb; clear hb; clear hc1 hf1 hc2 hf2; obtain ⟨hc2, hf2, hl2⟩ := hst.c0; obtain ⟨hc1, hf1, hl1⟩ := hst.c1)  | ((with_reducible refine at_dst (N := 85) rfl ?_); (refine wpList_load_own hst ⟨g2, V.cells, 23⟩ (by simp) rfl _ rfl rfl _ rfl Try.underlying23 (by kernel_rfl) ?_)) | ((with_reducible refine at_dst (N := 13) rfl ?_); refine wpList_box hst 23 zDS.cells rfl ?hr ?_; (case hr => first | (go_simp; done) | (go_simp; rfl)); clear hst; intro g3 w3 hst; obtain ⟨hc3, hf3, hl3⟩ := hst.c0) | ((with_reducible refine at_store (p := 13) rfl ?_); refine wpList_put0 hst rfl _ _ rfl V.cells rfl rfl (by kernel_rfl) rfl (by simp [rangeV, Value.oneCell']) ?_; clear hst; intro wp hst; clear hc1 hf1 hc2 hf2 hc3 hf3; obtain ⟨hc3, hf3, hl3⟩ := hst.c0; obtain ⟨hc2, hf2, hl2⟩ := hst.c1; obtain ⟨hc1, hf1, hl1⟩ := hst.c2))
    have hst' := hst.set0 7 (.int .i64 h2)
    clear hst
    generalize wp.setCell ⟨g3, 7, none⟩ (.int .i64 h2) = wq at hst' ⊢
    have hst := hst'
    clear hst'
    change St _ _ (⟨_, DS.cells { V with intv := h2 }, _⟩ :: _) at hst
    clear hc1 hf1 hc2 hf2 hc3 hf3; obtain ⟨hc3, hf3, hl3⟩ := hst.c0; obtain ⟨hc2, hf2, hl2⟩ := hst.c1; obtain ⟨hc1, hf1, hl1⟩ := hst.c2
    go_wp2_with (first | ((with_reducible refine at_dst (N := 96) rfl ?_); refine wpList_load_g hst ⟨g1, b.cells, 23⟩ (by simp) rfl _ rfl rfl rfl Try.underlying23 (by kernel_rfl) ?_) | ((with_reducible refine at_dst (N := 97) rfl ?_); refine wpList_load_g hst ⟨g3, (DS.cells { V with intv := h2 }), 23⟩ (by simp) rfl _ rfl rfl rfl Try.underlying23 (by kernel_rfl) ?_) | (go_at_call 17; refine (K5.out _).mono ?_; rintro e w' ⟨rfl, hb⟩; replace hst := hst.below hb; clear hb; clear hc1 hf1 hc2 hf2 hc3 hf3; obtain ⟨hc3, hf3, hl3⟩ := hst.c0; obtain ⟨hc2, hf2, hl2⟩ := hst.c1; obtain ⟨hc1, hf1, hl1⟩ := hst.c2))
    go_ret
    exact ⟨ret_bool (by simp), hst.base⟩
  | false =>
    have k5 := fun w => altValid_any b { V with intv := h2 } w
    rw [hq rfl] at k5
    have K5 := Lib.hid k5
    clear k5 hq
    go_enter Try.func4, Try.ntmps4
    go_upto_region 10 with (first | ((with_reducible refine at_dst (N := 5) rfl ?_); refine wpList_box hst 23 b.cells rfl ?hr ?_; (case hr => first | (go_simp; done) | (go_simp; rfl)); clear hst; intro g1 w1 hst; obtain ⟨hc1, hf1, hl1⟩ := hst.c0) | (go_at_call 14; refine (awake26_any _).mono ?_; rintro e w' ⟨rfl, hb⟩; replace hst := hst.below hb; clear hb; clear hc1 hf1; obtain ⟨hc1, hf1, hl1⟩ := hst.c0)  | ((with_reducible refine at_dst (N := 17) rfl ?_); (refine wpList_load_own hst ⟨g1, b.cells, 23⟩ (by simp) rfl _ rfl rfl _ rfl Try.underlying23 (by kernel_rfl) ?_)) | (go_at_call 15; refine (K1.out _).mono ?_; rintro e w' ⟨rfl, hb⟩; replace hst := hst.below hb; clear hb; clear hc1 hf1; obtain ⟨hc1, hf1, hl1⟩ := hst.c0) | ((with_reducible refine at_dst (N := 11) rfl ?_); refine wpList_box hst 23 zDS.cells rfl ?hr ?_; (case hr => first | (go_simp; done) | (go_simp; rfl)); clear hst; intro g2 w2 hst; obtain ⟨hc2, hf2, hl2⟩ := hst.c0) | ((with_reducible refine at_store (p := 11) rfl ?_); refine wpList_put0 hst rfl _ _ rfl V.cells rfl rfl (by kernel_rfl) rfl (by simp [rangeV, Value.oneCell']) ?_; clear hst; intro wp hst; clear hc1 hf1 hc2 hf2; obtain ⟨hc2, hf2, hl2⟩ := hst.c0; obtain ⟨hc1, hf1, hl1⟩ := hst.c1)  | ((with_reducible refine at_dst (N := 38) rfl ?_); (refine wpList_load_own hst ⟨g1, b.cells, 23⟩ (by simp) rfl _ rfl rfl _ rfl Try.underlying23 (by kernel_rfl) ?_)) | ((with_reducible refine at_dst (N := 39) rfl ?_); (refine wpList_load_own hst ⟨g2, V.cells, 23⟩ (by simp) rfl _ rfl rfl _ rfl Try.underlying23 (by kernel_rfl) ?_)) | (go_at_call 17; refine (K3.out _).mono ?_; rintro e w' ⟨rfl, hb⟩; replace hst := hst.below hb; clear hb; clear hc1 hf1 hc2 hf2; obtain ⟨hc2, hf2, hl2⟩ := hst.c0; obtain ⟨hc1, hf1, hl1⟩ := hst.c1)  | ((with_reducible refine at_dst (N := 43) rfl ?_); refine wpList_load_g hst ⟨g2, V.cells, 23⟩ (by simp) rfl _ rfl rfl rfl Try.underlying23 (by kernel_rfl) ?_) | (go_at_call 19; refine (K4.out _).mono ?_; rintro e w' ⟨rfl, hb⟩; replace hst := hst.below hb; clear hb; clear hc1 hf1 hc2 hf2; obtain ⟨hc2, hf2, hl2⟩ := hst.c0; obtain ⟨hc1, hf1, hl1⟩ := hst.c1)  | ((with_reducible refine at_dst (N := 85) rfl ?_); (refine wpList_load_own hst ⟨g2, V.cells, 23⟩ (by simp) rfl _ rfl rfl _ rfl Try.underlying23 (by kernel_rfl) ?_)) | ((with_reducible refine at_dst (N := 13) rfl ?_); refine wpList_box hst 23 zDS.cells rfl ?hr ?_; (case hr => first | (go_simp; done) | (go_simp; rfl)); clear hst; intro g3 w3 hst; obtain ⟨hc3, hf3, hl3⟩ := hst.c0) | ((with_reducible refine at_store (p := 13) rfl ?_); refine wpList_put0 hst rfl _ _ rfl V.cells rfl rfl (by kernel_rfl) rfl (by simp [rangeV, Value.oneCell']) ?_; clear hst; intro wp hst; clear hc1 hf1 hc2 hf2 hc3 hf3; obtain ⟨hc3, hf3, hl3⟩ := hst.c0; obtain ⟨hc2, hf2, hl2⟩ := hst.c1; obtain ⟨hc1, hf1, hl1⟩ := hst.c2))
    have hst' := hst.set0 7 (.int .i64 h2)
    clear hst
    generalize wp.setCell ⟨g3, 7, none⟩ (.int .i64 h2) = wq at hst' ⊢
    have hst := hst'
    clear hst'
    change St _ _ (⟨_, DS.cells { V with intv := h2 }, _⟩ :: _) at hst
    clear hc1 hf1 hc2 hf2 hc3 hf3; obtain ⟨hc3, hf3, hl3⟩ := hst.c0; obtain ⟨hc2, hf2, hl2⟩ := hst.c1; obtain ⟨hc1, hf1, hl1⟩ := hst.c2
    go_wp2_with (first | ((with_reducible refine at_dst (N := 96) rfl ?_); refine wpList_load_g hst ⟨g1, b.cells, 23⟩ (by simp) rfl _ rfl rfl rfl Try.underlying23 (by kernel_rfl) ?_) | ((with_reducible refine at_dst (N := 97) rfl ?_); refine wpList_load_g hst ⟨g3, (DS.cells { V with intv := h2 }), 23⟩ (by simp) rfl _ rfl rfl rfl Try.underlying23 (by kernel_rfl) ?_) | (go_at_call 17; refine (K5.out _).mono ?_; rintro e w' ⟨rfl, hb⟩; replace hst := hst.below hb; clear hb; clear hc1 hf1 hc2 hf2 hc3 hf3; obtain ⟨hc3, hf3, hl3⟩ := hst.c0; obtain ⟨hc2, hf2, hl2⟩ := hst.c1; obtain ⟨hc1, hf1, hl1⟩ := hst.c2))
    go_ret
    exact ⟨ret_bool (by simp), hst.base⟩
end Go.Proofs.Ytcdlcdibcekahaa
