/- The chapter's example holds: awake. -/
import Derived.Test.YtcdlcdibcekahaaEx
import Derived.Test.YtcdlcdibcekahaaSpan
namespace Go.Proofs.Ytcdlcdibcekahaa
open Go.RowKit
set_option linter.unusedSimpArgs false
set_option linter.unusedVariables false

theorem ex_key : keyS exAlt ⟨#[48, 48, 55, 46, 46, 78, 89]⟩ = ⟨#[78, 89]⟩ ∧ keyB exAlt ⟨#[48, 48, 55, 46, 46, 78, 89]⟩ = true := by decide
theorem ex_rec : recS exAlt ⟨#[78, 89]⟩ ⟨#[48, 48, 55]⟩ = ⟨#[78, 89, 48, 48, 55]⟩ ∧ recE exAlt ⟨#[78, 89]⟩ ⟨#[48, 48, 55]⟩ = 0 := by decide
theorem ex_span : spanLo exAlt ⟨#[78, 89]⟩ = ⟨#[78, 89]⟩ ∧ spanHi exAlt ⟨#[78, 89]⟩ = ⟨#[78, 89, 255, 255, 255]⟩ ∧ spanE exAlt ⟨#[78, 89]⟩ = 0 := by decide
theorem ex_valid : altOf exBase exAlt = true := by decide

set_option maxHeartbeats 2000000 in
set_option maxRecDepth 100000 in
theorem awake26_any (w : World) :
    Calls Try.prog 14 #[] w fun e w' => e = .returned (.bool true) ∧ Below w.heap.size w w' := by
  have hst := St.start w
  have k1 := fun w => key_any exAlt ⟨#[48, 48, 55, 46, 46, 78, 89]⟩ w
  rw [ex_key.1, ex_key.2] at k1
  have k2 := fun w => record_any exAlt ⟨#[78, 89]⟩ ⟨#[48, 48, 55]⟩ w (by decide)
  rw [ex_rec.1, ex_rec.2] at k2
  have k3 := fun w => span_any exAlt ⟨#[78, 89]⟩ w (by decide)
  rw [ex_span.1, ex_span.2.1, ex_span.2.2] at k3
  have k4 := fun w => altValid_any exBase exAlt w
  rw [ex_valid] at k4
  have K1 := Lib.hid k1
  have K2 := Lib.hid k2
  have K3 := Lib.hid k3
  have K4 := Lib.hid k4
  clear k1 k2 k3 k4
  go_enter Try.func14, Try.ntmps14
  go_wp2_with (first | ((with_reducible refine at_dst (N := 1) rfl ?_); refine wpList_box hst 23 zDS.cells rfl ?hr ?_; (case hr => first | (go_simp; done) | (go_simp; rfl)); clear hst; intro g1 w1 hst; obtain ⟨hc1, hf1, hl1⟩ := hst.c0) | ((with_reducible refine at_dst (N := 2) rfl ?_); refine wpList_box hst 23 zDS.cells rfl ?hr ?_; (case hr => first | (go_simp; done) | (go_simp; rfl)); clear hst; intro g2 w2 hst; obtain ⟨hc2, hf2, hl2⟩ := hst.c0) | ((with_reducible refine at_store (p := 1) rfl ?_); refine wpList_putB hst rfl _ _ rfl exBase.cells rfl rfl (by kernel_rfl) rfl (by simp [rangeV, Value.oneCell']) ?_; clear hst; intro wp hst; clear hc1 hf1 hc2 hf2; obtain ⟨hc2, hf2, hl2⟩ := hst.c0; obtain ⟨hc1, hf1, hl1⟩ := hst.c1) | ((with_reducible refine at_store (p := 2) rfl ?_); refine wpList_put0 hst rfl _ _ rfl exAlt.cells rfl rfl (by kernel_rfl) rfl (by simp [rangeV, Value.oneCell']) ?_; clear hst; intro wp hst; clear hc1 hf1 hc2 hf2; obtain ⟨hc2, hf2, hl2⟩ := hst.c0; obtain ⟨hc1, hf1, hl1⟩ := hst.c1)  | (go_at_call 46; refine (example_any _).mono ?_; rintro e w' ⟨rfl, hb⟩; replace hst := hst.below hb; clear hb)  | ((with_reducible refine at_dst (N := 14) rfl ?_); (refine wpList_load_own hst ⟨g2, exAlt.cells, 23⟩ (by simp) rfl _ rfl rfl _ rfl Try.underlying23 (by kernel_rfl) ?_)) | ((with_reducible refine at_dst (N := 19) rfl ?_); (refine wpList_load_own hst ⟨g2, exAlt.cells, 23⟩ (by simp) rfl _ rfl rfl _ rfl Try.underlying23 (by kernel_rfl) ?_)) | ((with_reducible refine at_dst (N := 24) rfl ?_); (refine wpList_load_own hst ⟨g2, exAlt.cells, 23⟩ (by simp) rfl _ rfl rfl _ rfl Try.underlying23 (by kernel_rfl) ?_))  | (go_at_call 21; refine (K1.out _).mono ?_; rintro e w' ⟨rfl, hb⟩; replace hst := hst.below hb; clear hb; clear hc1 hf1 hc2 hf2; obtain ⟨hc2, hf2, hl2⟩ := hst.c0; obtain ⟨hc1, hf1, hl1⟩ := hst.c1) | (go_at_call 23; refine (K2.out _).mono ?_; rintro e w' ⟨rfl, hb⟩; replace hst := hst.below hb; clear hb; clear hc1 hf1 hc2 hf2; obtain ⟨hc2, hf2, hl2⟩ := hst.c0; obtain ⟨hc1, hf1, hl1⟩ := hst.c1) | (go_at_call 27; refine (K3.out _).mono ?_; rintro e w' ⟨rfl, hb⟩; replace hst := hst.below hb; clear hb; clear hc1 hf1 hc2 hf2; obtain ⟨hc2, hf2, hl2⟩ := hst.c0; obtain ⟨hc1, hf1, hl1⟩ := hst.c1)  | ((with_reducible refine at_dst (N := 7) rfl ?_); refine wpList_box hst 41 (rangeV ⟨#[]⟩ ⟨#[]⟩ false) rfl ?hr ?_; (case hr => first | (go_simp; done) | (go_simp; rfl)); clear hst; intro g3 w3 hst; obtain ⟨hc3, hf3, hl3⟩ := hst.c0) | ((with_reducible refine at_store (p := 7) rfl ?_); refine wpList_put0 hst rfl _ _ rfl (rangeV ⟨#[78, 89]⟩ ⟨#[78, 89, 255, 255, 255]⟩ false) rfl rfl (by kernel_rfl) rfl (by simp [rangeV, Value.oneCell']) ?_; clear hst; intro wp hst; clear hc1 hf1 hc2 hf2 hc3 hf3; obtain ⟨hc3, hf3, hl3⟩ := hst.c0; obtain ⟨hc2, hf2, hl2⟩ := hst.c1; obtain ⟨hc1, hf1, hl1⟩ := hst.c2)  | ((with_reducible refine at_dst (N := 28) rfl ?_); (refine wpList_load_own hst ⟨g1, exBase.cells, 23⟩ (by simp) rfl _ rfl rfl _ rfl Try.underlying23 (by kernel_rfl) ?_)) | ((with_reducible refine at_dst (N := 29) rfl ?_); (refine wpList_load_own hst ⟨g2, exAlt.cells, 23⟩ (by simp) rfl _ rfl rfl _ rfl Try.underlying23 (by kernel_rfl) ?_)) | (go_at_call 17; refine (K4.out _).mono ?_; rintro e w' ⟨rfl, hb⟩; replace hst := hst.below hb; clear hb; clear hc1 hf1 hc2 hf2 hc3 hf3; obtain ⟨hc3, hf3, hl3⟩ := hst.c0; obtain ⟨hc2, hf2, hl2⟩ := hst.c1; obtain ⟨hc1, hf1, hl1⟩ := hst.c2))
  go_ret
  exact ⟨rfl, hst.base⟩
end Go.Proofs.Ytcdlcdibcekahaa
