/- AlternateInverts: the walk of the law. -/
import Derived.Test.YtcdlcdibcekahaaAwake26
import Derived.Test.YtcdlcdibcekahaaLess
namespace Go.Proofs.Ytcdlcdibcekahaa
open Go.RowKit
set_option linter.unusedSimpArgs false
set_option linter.unusedVariables false

set_option maxHeartbeats 400000 in
theorem in16_any (lo hi s : ByteArray) (e : Bool) (w : World) :
    Calls Try.prog 29 #[.agg (rangeV lo hi e), .string s] w fun e' w' => e' = .returned (.bool (inR lo.toList hi.toList e s.toList)) ∧ Below w.heap.size w w' := by
  have hst := St.start w
  cases h1 : Op.bytesLess s.toList lo.toList with
  | true =>
    go_enter Try.func29, Try.ntmps29
    go_wp2_with (first | ((with_reducible refine at_dst (N := 2) rfl ?_); refine wpList_box hst 41 (rangeV lo hi e) rfl ?hr ?_; (case hr => first | (go_simp; done) | (go_simp; rfl)); clear hst; intro g1 w1 hst; obtain ⟨hc1, hf1, hl1⟩ := hst.c0))
    go_ret
    exact ⟨ret_bool (by simp [inR, h1]), hst.base⟩
  | false =>
    cases e with
    | true =>
      go_enter Try.func29, Try.ntmps29
      go_wp2_with (first | ((with_reducible refine at_dst (N := 2) rfl ?_); refine wpList_box hst 41 (rangeV lo hi true) rfl ?hr ?_; (case hr => first | (go_simp; done) | (go_simp; rfl)); clear hst; intro g1 w1 hst; obtain ⟨hc1, hf1, hl1⟩ := hst.c0))
      go_ret
      exact ⟨ret_bool (by simp [inR, h1]), hst.base⟩
    | false =>
      go_enter Try.func29, Try.ntmps29
      go_wp2_with (first | ((with_reducible refine at_dst (N := 2) rfl ?_); refine wpList_box hst 41 (rangeV lo hi false) rfl ?hr ?_; (case hr => first | (go_simp; done) | (go_simp; rfl)); clear hst; intro g1 w1 hst; obtain ⟨hc1, hf1, hl1⟩ := hst.c0))
      go_ret
      exact ⟨ret_bool (by simp [inR, h1]), hst.base⟩

theorem ext_left (k b : ByteArray) : (k ++ b).extract 0 k.size = k := by
  apply ByteArray.ext
  rw [ByteArray.data_extract, ByteArray.data_append]
  show (k.data ++ b.data).extract 0 k.data.size = k.data
  generalize k.data = x
  generalize b.data = y
  apply Array.toList_inj.1
  simp
theorem ext_right (k b : ByteArray) : (k ++ b).extract k.size (k ++ b).size = b := by
  apply ByteArray.ext
  rw [ByteArray.data_extract, ByteArray.data_append, ByteArray.size_append]
  show (k.data ++ b.data).extract k.data.size (k.data.size + b.data.size) = b.data
  generalize k.data = x
  generalize b.data = y
  apply Array.toList_inj.1
  simp

theorem rec_facts {d : DS} {k b : ByteArray} (h : recE d k b = 0) : d.known = true ∧ (k.size : Int) = d.altLen ∧ (b.size : Int) = d.keyLen - d.altLen := by
  unfold recE at h
  split at h
  · cases h
  · rename_i h1
    split at h
    · cases h
    · rename_i h2
      exact ⟨by simpa using h1, by omega, by omega⟩

theorem inverts_plain {d : DS} {k b : ByteArray} (h : recE d k b = 0) : parE d (k ++ b) = 0 ∧ parK d (k ++ b) = k ∧ parB d (k ++ b) = b ∧ spanE d k = 0 ∧ spanLo d k = k ∧ inR (spanLo d k).toList (spanHi d k).toList false (k ++ b).toList = true ∧ ((k ++ b).size : Int) = d.keyLen := by
  obtain ⟨h1, h2, h3⟩ := rec_facts h
  have hs : ((k ++ b).size : Int) = d.keyLen := by rw [ByteArray.size_append]; omega
  have e1 : parE d (k ++ b) = 0 := by unfold parE; rw [if_neg (by simp [h1]), if_neg (by simpa using hs)]
  have e2 : spanE d k = 0 := by simp [spanE, h1, h2]
  refine ⟨e1, ?_, ?_, e2, ?_, ?_, hs⟩
  · rw [parK, if_pos e1, show d.altLen.toNat = k.size by omega, ext_left]
  · rw [parB, if_pos e1, show d.altLen.toNat = k.size by omega, ext_right]
  · rw [spanLo, if_pos e2]
  · rw [spanLo, spanHi, if_pos e2, if_pos e2]
    simp only [ByteArray.toList_eq, ByteArray.data_append, Array.toList_append]
    have := inR_span k.data.toList b.data.toList
    rw [show b.data.toList.length = (d.keyLen - d.altLen).toNat by simp only [Array.length_toList]; have : (b.data.size : Int) = d.keyLen - d.altLen := h3; omega] at this
    exact this

set_option maxHeartbeats 2000000 in
set_option maxRecDepth 100000 in
theorem lawInverts_walk (d : DS) (k b : ByteArray) (w : World) (hk : k.size ≤ 140737488351232) (hb : b.size ≤ 140737488351232) :
    Calls Try.prog 6 #[d.v, .string k, .string b] w fun e w' => e = .returned (.bool true) ∧ Below w.heap.size w w' := by
  have hst := St.start w
  by_cases hk1 : k.size ≤ 100
  · by_cases hb1 : b.size ≤ 100
    · by_cases hE : recE d k b = 0
      · obtain ⟨f1, f2, f3, f4, f5, f6, f7⟩ := inverts_plain hE
        have k1 := fun w => record_any d k b w (by omega)
        have hS : recS d k b = k ++ b := by rw [recS, if_pos hE]
        rw [hS, hE] at k1
        obtain ⟨s, hs⟩ : ∃ s, s = k ++ b := ⟨_, rfl⟩
        have k2 := fun w => parts_any d (k ++ b) w
        rw [f1, f2, f3] at k2
        have k3 := fun w => span_any d k w (by omega)
        rw [f4] at k3
        obtain ⟨lo, hlo⟩ : ∃ lo, lo = spanLo d k := ⟨_, rfl⟩
        obtain ⟨hi, hhi⟩ : ∃ hi, hi = spanHi d k := ⟨_, rfl⟩
        have k4 := fun w => in16_any lo hi (k ++ b) false w
        rw [hlo, hhi, f6] at k4
        rw [← hs, ← hlo, ← hhi] at k4
        rw [← hlo, ← hhi] at k3
        rw [← hs] at k1 k2 f7
        have f7b : ((s.size : Int) == d.keyLen) = true := by simpa using f7
        have K1 := Lib.hid k1
        have K2 := Lib.hid k2
        have K3 := Lib.hid k3
        have K4 := Lib.hid k4
        clear k1 k2 k3 k4 f1 f2 f3 f4 f5 f6 f7 hS hs hlo hhi hE
        go_enter Try.func6, Try.ntmps6
        go_wp2_with (first | ((with_reducible refine at_dst (N := 3) rfl ?_); refine wpList_box hst 23 d.cells rfl ?hr ?_; (case hr => first | (go_simp; done) | (go_simp; rfl)); clear hst; intro g1 w1 hst; obtain ⟨hc1, hf1, hl1⟩ := hst.c0) | (go_at_call 14; refine (awake26_any _).mono ?_; rintro e w' ⟨rfl, hb⟩; replace hst := hst.below hb; clear hb; clear hc1 hf1; obtain ⟨hc1, hf1, hl1⟩ := hst.c0)  | ((with_reducible refine at_dst (N := 24) rfl ?_); (refine wpList_load_own hst ⟨g1, d.cells, 23⟩ (by simp) rfl _ rfl rfl _ rfl Try.underlying23 (by kernel_rfl) ?_)) | (go_at_call 23; refine (K1.out _).mono ?_; rintro e w' ⟨rfl, hb⟩; replace hst := hst.below hb; clear hb; clear hc1 hf1; obtain ⟨hc1, hf1, hl1⟩ := hst.c0) | ((with_reducible refine at_dst (N := 35) rfl ?_); (refine wpList_load_own hst ⟨g1, d.cells, 23⟩ (by simp) rfl _ rfl rfl _ rfl Try.underlying23 (by kernel_rfl) ?_)) | (go_at_call 25; refine (K2.out _).mono ?_; rintro e w' ⟨rfl, hb⟩; replace hst := hst.below hb; clear hb; clear hc1 hf1; obtain ⟨hc1, hf1, hl1⟩ := hst.c0)  | ((with_reducible refine at_dst (N := 42) rfl ?_); (refine wpList_load_own hst ⟨g1, d.cells, 23⟩ (by simp) rfl _ rfl rfl _ rfl Try.underlying23 (by kernel_rfl) ?_)) | (go_at_call 27; refine (K3.out _).mono ?_; rintro e w' ⟨rfl, hb⟩; replace hst := hst.below hb; clear hb; clear hc1 hf1; obtain ⟨hc1, hf1, hl1⟩ := hst.c0) | ((with_reducible refine at_dst (N := 11) rfl ?_); refine wpList_box hst 41 (rangeV ⟨#[]⟩ ⟨#[]⟩ false) rfl ?hr ?_; (case hr => first | (go_simp; done) | (go_simp; rfl)); clear hst; intro g2 w2 hst; obtain ⟨hc2, hf2, hl2⟩ := hst.c0) | ((with_reducible refine at_store (p := 11) rfl ?_); refine wpList_put0 hst rfl _ _ rfl (rangeV lo hi false) rfl rfl (by kernel_rfl) rfl (by simp [rangeV, Value.oneCell']) ?_; clear hst; intro wp hst; clear hc1 hf1 hc2 hf2; obtain ⟨hc2, hf2, hl2⟩ := hst.c0; obtain ⟨hc1, hf1, hl1⟩ := hst.c1)  | ((with_reducible refine at_dst (N := 64) rfl ?_); refine wpList_load_g hst ⟨g2, (rangeV lo hi false), 41⟩ (by simp) rfl _ rfl rfl rfl Try.underlying41 (by kernel_rfl) ?_) | (go_at_call 29; refine (K4.out _).mono ?_; rintro e w' ⟨rfl, hb⟩; replace hst := hst.below hb; clear hb; clear hc1 hf1 hc2 hf2; obtain ⟨hc2, hf2, hl2⟩ := hst.c0; obtain ⟨hc1, hf1, hl1⟩ := hst.c1))
        go_ret
        exact ⟨rfl, hst.base⟩
      · have hS : recS d k b = ⟨#[]⟩ := by rw [recS, if_neg hE]
        obtain ⟨E, hEe⟩ : ∃ E, E = recE d k b := ⟨_, rfl⟩
        have k1 := fun w => record_any d k b w (by omega)
        rw [hS, ← hEe] at k1
        have hE2 : (E != 0) = true := by rw [hEe]; simpa using hE
        have K1 := Lib.hid k1
        clear k1 hS hEe hE
        go_enter Try.func6, Try.ntmps6
        go_wp2_with (first | ((with_reducible refine at_dst (N := 3) rfl ?_); refine wpList_box hst 23 d.cells rfl ?hr ?_; (case hr => first | (go_simp; done) | (go_simp; rfl)); clear hst; intro g1 w1 hst; obtain ⟨hc1, hf1, hl1⟩ := hst.c0) | (go_at_call 14; refine (awake26_any _).mono ?_; rintro e w' ⟨rfl, hb⟩; replace hst := hst.below hb; clear hb; clear hc1 hf1; obtain ⟨hc1, hf1, hl1⟩ := hst.c0)  | ((with_reducible refine at_dst (N := 24) rfl ?_); (refine wpList_load_own hst ⟨g1, d.cells, 23⟩ (by simp) rfl _ rfl rfl _ rfl Try.underlying23 (by kernel_rfl) ?_)) | (go_at_call 23; refine (K1.out _).mono ?_; rintro e w' ⟨rfl, hb⟩; replace hst := hst.below hb; clear hb; clear hc1 hf1; obtain ⟨hc1, hf1, hl1⟩ := hst.c0))
        go_ret
        exact ⟨rfl, hst.base⟩
    · go_enter Try.func6, Try.ntmps6
      go_wp2_with (first | ((with_reducible refine at_dst (N := 3) rfl ?_); refine wpList_box hst 23 d.cells rfl ?hr ?_; (case hr => first | (go_simp; done) | (go_simp; rfl)); clear hst; intro g1 w1 hst; obtain ⟨hc1, hf1, hl1⟩ := hst.c0) | (go_at_call 14; refine (awake26_any _).mono ?_; rintro e w' ⟨rfl, hb⟩; replace hst := hst.below hb; clear hb; clear hc1 hf1; obtain ⟨hc1, hf1, hl1⟩ := hst.c0))
      go_ret
      exact ⟨rfl, hst.base⟩
  · go_enter Try.func6, Try.ntmps6
    go_wp2_with (first | ((with_reducible refine at_dst (N := 3) rfl ?_); refine wpList_box hst 23 d.cells rfl ?hr ?_; (case hr => first | (go_simp; done) | (go_simp; rfl)); clear hst; intro g1 w1 hst; obtain ⟨hc1, hf1, hl1⟩ := hst.c0) | (go_at_call 14; refine (awake26_any _).mono ?_; rintro e w' ⟨rfl, hb⟩; replace hst := hst.below hb; clear hb; clear hc1 hf1; obtain ⟨hc1, hf1, hl1⟩ := hst.c0))
    go_ret
    exact ⟨rfl, hst.base⟩
end Go.Proofs.Ytcdlcdibcekahaa
