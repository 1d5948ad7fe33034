/- AlternateParts: the walk of the law. -/
import Derived.Test.YtcdlcdibcekahaaAwake26
import Derived.Test.YtcdlcdibcekahaaRef26c
import Derived.Test.YtcdlcdibcekahaaSpan26
import Derived.Test.YtcdlcdibcekahaaShort16
namespace Go.Proofs.Ytcdlcdibcekahaa
open Go.RowKit
set_option linter.unusedSimpArgs false
set_option linter.unusedVariables false

set_option maxHeartbeats 2000000 in
set_option maxRecDepth 100000 in
theorem lawParts_walk (d : DS) (r k b : ByteArray) (w : World) (hr : r.size ≤ 140737488351232) (hk : k.size ≤ 140737488351232) (hb : b.size ≤ 140737488351232) :
    Calls Try.prog 5 #[d.v, .string r, .string k, .string b] w fun e w' => e = .returned (.bool true) ∧ Below w.heap.size w w' := by
  have hst := St.start w
  cases hS : allShort [r, k, b] 300 with
  | false =>
    have HS := Lib.hid hS
    clear hS
    go_enter Try.func5, Try.ntmps5
    go_wp2_with (first | ((with_reducible refine at_dst (N := 4) rfl ?_); refine wpList_box hst 23 d.cells rfl ?hr ?_; (case hr => first | (go_simp; done) | (go_simp; rfl)); clear hst; intro g1 w1 hst; obtain ⟨hc1, hf1, hl1⟩ := hst.c0) | (go_at_call 14; refine (awake26_any _).mono ?_; rintro e w' ⟨rfl, hb⟩; replace hst := hst.below hb; clear hb; clear hc1 hf1; obtain ⟨hc1, hf1, hl1⟩ := hst.c0)  | ((with_reducible refine at_dst (N := 32) rfl ?_); refine wpList_boxS hst 9 #[.string r, .string k, .string b] 3 3 rfl ?hr ?_; (case hr => first | (go_simp; done) | (go_simp; rfl)); clear hst; intro g2 w2 hst; obtain ⟨hc2, hf2, hl2⟩ := hst.c0) | (go_at_call 20; refine (short_any g2 3 3 _ [r, k, b] 3 300 rfl (by omega) (by omega) (cells3s (hc2 0) (hc2 1) (hc2 2))).mono ?_; rw [HS.out]; rintro e w' ⟨rfl, rfl⟩))
    go_ret
    exact ⟨rfl, hst.base⟩
  | true =>
    have HS := Lib.hid hS
    clear hS
    obtain ⟨K, hK⟩ : ∃ K, K = keyS d r := ⟨_, rfl⟩
    obtain ⟨KB, hKB⟩ : ∃ K, K = keyB d r := ⟨_, rfl⟩
    obtain ⟨R, hR⟩ : ∃ K, K = recS d k b := ⟨_, rfl⟩
    obtain ⟨RE, hRE⟩ : ∃ K, K = recE d k b := ⟨_, rfl⟩
    obtain ⟨X, hX⟩ : ∃ K, K = parK d r := ⟨_, rfl⟩
    obtain ⟨Y, hY⟩ : ∃ K, K = parB d r := ⟨_, rfl⟩
    obtain ⟨XE, hXE⟩ : ∃ K, K = parE d r := ⟨_, rfl⟩
    obtain ⟨lo, hlo⟩ : ∃ K, K = spanLo d k := ⟨_, rfl⟩
    obtain ⟨hi, hhi⟩ : ∃ K, K = spanHi d k := ⟨_, rfl⟩
    obtain ⟨SE, hSE⟩ : ∃ K, K = spanE d k := ⟨_, rfl⟩
    have k1 := fun w => key_any d r w
    have k2 := fun w => key26_any d r w
    have k3 := fun w => record_any d k b w (by omega)
    have k4 := fun w => record26_any d k b w (by omega)
    have k5 := fun w => parts_any d r w
    have k6 := fun w => parts26_any d r w
    have k7 := fun w => span_any d k w (by omega)
    have k8 := fun w => span26_any d k w (by omega)
    rw [← hK, ← hKB] at k1 k2
    rw [← hR, ← hRE] at k3 k4
    rw [← hX, ← hY, ← hXE] at k5 k6
    rw [← hlo, ← hhi, ← hSE] at k7 k8
    clear hK hKB hR hRE hX hY hXE hlo hhi hSE
    have K1 := Lib.hid k1
    have K2 := Lib.hid k2
    have K3 := Lib.hid k3
    have K4 := Lib.hid k4
    have K5 := Lib.hid k5
    have K6 := Lib.hid k6
    have K7 := Lib.hid k7
    have K8 := Lib.hid k8
    clear k1 k2 k3 k4 k5 k6 k7 k8
    go_enter Try.func5, Try.ntmps5
    go_wp2_with (first | ((with_reducible refine at_dst (N := 4) rfl ?_); refine wpList_box hst 23 d.cells rfl ?hr ?_; (case hr => first | (go_simp; done) | (go_simp; rfl)); clear hst; intro g1 w1 hst; obtain ⟨hc1, hf1, hl1⟩ := hst.c0) | (go_at_call 14; refine (awake26_any _).mono ?_; rintro e w' ⟨rfl, hb⟩; replace hst := hst.below hb; clear hb; clear hc1 hf1; obtain ⟨hc1, hf1, hl1⟩ := hst.c0)  | ((with_reducible refine at_dst (N := 32) rfl ?_); refine wpList_boxS hst 9 #[.string r, .string k, .string b] 3 3 rfl ?hr ?_; (case hr => first | (go_simp; done) | (go_simp; rfl)); clear hst; intro g2 w2 hst; obtain ⟨hc2, hf2, hl2⟩ := hst.c0) | (go_at_call 20; refine (short_any g2 3 3 _ [r, k, b] 3 300 rfl (by omega) (by omega) (cells3s (hc2 0) (hc2 1) (hc2 2))).mono ?_; rw [HS.out]; rintro e w' ⟨rfl, rfl⟩)  | ((with_reducible refine at_dst (N := 36) rfl ?_); (refine wpList_load_own hst ⟨g1, d.cells, 23⟩ (by simp) rfl _ rfl rfl _ rfl Try.underlying23 (by kernel_rfl) ?_)) | (go_at_call 21; refine (K1.out _).mono ?_; rintro e w' ⟨rfl, hb⟩; replace hst := hst.below hb; clear hb; clear hc1 hf1 hc2 hf2; obtain ⟨hc2, hf2, hl2⟩ := hst.c0; obtain ⟨hc1, hf1, hl1⟩ := hst.c1) | ((with_reducible refine at_dst (N := 42) rfl ?_); (refine wpList_load_own hst ⟨g1, d.cells, 23⟩ (by simp) rfl _ rfl rfl _ rfl Try.underlying23 (by kernel_rfl) ?_)) | (go_at_call 22; refine (K2.out _).mono ?_; rintro e w' ⟨rfl, hb⟩; replace hst := hst.below hb; clear hb; clear hc1 hf1 hc2 hf2; obtain ⟨hc2, hf2, hl2⟩ := hst.c0; obtain ⟨hc1, hf1, hl1⟩ := hst.c1)  | ((with_reducible refine at_dst (N := 48) rfl ?_); (refine wpList_load_own hst ⟨g1, d.cells, 23⟩ (by simp) rfl _ rfl rfl _ rfl Try.underlying23 (by kernel_rfl) ?_)) | (go_at_call 23; refine (K3.out _).mono ?_; rintro e w' ⟨rfl, hb⟩; replace hst := hst.below hb; clear hb; clear hc1 hf1 hc2 hf2; obtain ⟨hc2, hf2, hl2⟩ := hst.c0; obtain ⟨hc1, hf1, hl1⟩ := hst.c1) | ((with_reducible refine at_dst (N := 55) rfl ?_); (refine wpList_load_own hst ⟨g1, d.cells, 23⟩ (by simp) rfl _ rfl rfl _ rfl Try.underlying23 (by kernel_rfl) ?_)) | (go_at_call 24; refine (K4.out _).mono ?_; rintro e w' ⟨rfl, hb⟩; replace hst := hst.below hb; clear hb; clear hc1 hf1 hc2 hf2; obtain ⟨hc2, hf2, hl2⟩ := hst.c0; obtain ⟨hc1, hf1, hl1⟩ := hst.c1)  | ((with_reducible refine at_dst (N := 62) rfl ?_); (refine wpList_load_own hst ⟨g1, d.cells, 23⟩ (by simp) rfl _ rfl rfl _ rfl Try.underlying23 (by kernel_rfl) ?_)) | (go_at_call 25; refine (K5.out _).mono ?_; rintro e w' ⟨rfl, hb⟩; replace hst := hst.below hb; clear hb; clear hc1 hf1 hc2 hf2; obtain ⟨hc2, hf2, hl2⟩ := hst.c0; obtain ⟨hc1, hf1, hl1⟩ := hst.c1) | ((with_reducible refine at_dst (N := 69) rfl ?_); (refine wpList_load_own hst ⟨g1, d.cells, 23⟩ (by simp) rfl _ rfl rfl _ rfl Try.underlying23 (by kernel_rfl) ?_)) | (go_at_call 26; refine (K6.out _).mono ?_; rintro e w' ⟨rfl, hb⟩; replace hst := hst.below hb; clear hb; clear hc1 hf1 hc2 hf2; obtain ⟨hc2, hf2, hl2⟩ := hst.c0; obtain ⟨hc1, hf1, hl1⟩ := hst.c1)  | ((with_reducible refine at_dst (N := 76) rfl ?_); (refine wpList_load_own hst ⟨g1, d.cells, 23⟩ (by simp) rfl _ rfl rfl _ rfl Try.underlying23 (by kernel_rfl) ?_)) | (go_at_call 27; refine (K7.out _).mono ?_; rintro e w' ⟨rfl, hb⟩; replace hst := hst.below hb; clear hb; clear hc1 hf1 hc2 hf2; obtain ⟨hc2, hf2, hl2⟩ := hst.c0; obtain ⟨hc1, hf1, hl1⟩ := hst.c1) | ((with_reducible refine at_dst (N := 23) rfl ?_); refine wpList_box hst 41 (rangeV ⟨#[]⟩ ⟨#[]⟩ false) rfl ?hr ?_; (case hr => first | (go_simp; done) | (go_simp; rfl)); clear hst; intro g3 w3 hst; obtain ⟨hc3, hf3, hl3⟩ := hst.c0) | ((with_reducible refine at_store (p := 23) rfl ?_); refine wpList_put0 hst rfl _ _ rfl (rangeV lo hi false) rfl rfl (by kernel_rfl) rfl (by simp [rangeV, Value.oneCell']) ?_; clear hst; intro wp hst; clear hc1 hf1 hc2 hf2 hc3 hf3; obtain ⟨hc3, hf3, hl3⟩ := hst.c0; obtain ⟨hc2, hf2, hl2⟩ := hst.c1; obtain ⟨hc1, hf1, hl1⟩ := hst.c2)  | ((with_reducible refine at_dst (N := 82) rfl ?_); (refine wpList_load_own hst ⟨g1, d.cells, 23⟩ (by simp) rfl _ rfl rfl _ rfl Try.underlying23 (by kernel_rfl) ?_)) | (go_at_call 28; refine (K8.out _).mono ?_; rintro e w' ⟨rfl, hb⟩; replace hst := hst.below hb; clear hb; clear hc1 hf1 hc2 hf2 hc3 hf3; obtain ⟨hc3, hf3, hl3⟩ := hst.c0; obtain ⟨hc2, hf2, hl2⟩ := hst.c1; obtain ⟨hc1, hf1, hl1⟩ := hst.c2) | ((with_reducible refine at_dst (N := 25) rfl ?_); refine wpList_box hst 41 (rangeV ⟨#[]⟩ ⟨#[]⟩ false) rfl ?hr ?_; (case hr => first | (go_simp; done) | (go_simp; rfl)); clear hst; intro g4 w4 hst; obtain ⟨hc4, hf4, hl4⟩ := hst.c0) | ((with_reducible refine at_store (p := 25) rfl ?_); refine wpList_put0 hst rfl _ _ rfl (rangeV lo hi false) rfl rfl (by kernel_rfl) rfl (by simp [rangeV, Value.oneCell']) ?_; clear hst; intro wp hst; clear hc1 hf1 hc2 hf2 hc3 hf3 hc4 hf4; obtain ⟨hc4, hf4, hl4⟩ := hst.c0; obtain ⟨hc3, hf3, hl3⟩ := hst.c1; obtain ⟨hc2, hf2, hl2⟩ := hst.c2; obtain ⟨hc1, hf1, hl1⟩ := hst.c3)  | ((with_reducible refine at_dst (N := 121) rfl ?_); refine wpList_load_g hst ⟨g3, (rangeV lo hi false), 41⟩ (by simp) rfl _ rfl rfl rfl Try.underlying41 (by kernel_rfl) ?_) | ((with_reducible refine at_dst (N := 122) rfl ?_); refine wpList_load_g hst ⟨g4, (rangeV lo hi false), 41⟩ (by simp) rfl _ rfl rfl rfl Try.underlying41 (by kernel_rfl) ?_))
    go_ret
    exact ⟨ret_bool (by simp), hst.base⟩
end Go.Proofs.Ytcdlcdibcekahaa
