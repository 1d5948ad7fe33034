/- The reference of chapter 26: Key, Record, Parts. -/
import Derived.Test.YtcdlcdibcekahaaRef26
namespace Go.Proofs.Ytcdlcdibcekahaa
open Go.RowKit
set_option linter.unusedSimpArgs false
set_option linter.unusedVariables false

set_option maxHeartbeats 1000000 in
theorem key26_any (d : DS) (r : ByteArray) (w : World) :
    Calls Try.prog 22 #[d.v, .string r] w fun e w' => e = .returned (.tuple #[.string (keyS d r), .bool (keyB d r)]) ∧ Below w.heap.size w w' := by
  have hst := St.start w
  cases hk : d.known with
  | false =>
    go_enter Try.func22, Try.ntmps22
    go_wp2_with (first | ((with_reducible refine at_dst (N := 2) rfl ?_); refine wpList_box hst 23 d.cells rfl ?hr ?_; (case hr => first | (go_simp; done) | (go_simp; rfl)); clear hst; intro g1 w1 hst; obtain ⟨hc1, hf1, hl1⟩ := hst.c0) | ((with_reducible refine at_dst (N := 6) rfl ?_); (refine wpList_load_own hst ⟨g1, d.cells, 23⟩ (by simp) rfl _ rfl rfl _ rfl Try.underlying23 (by kernel_rfl) ?_)) | (go_at_call 55; refine (isAlt26_any d _).mono ?_; rintro e w' ⟨rfl, hb⟩; replace hst := hst.below hb; clear hb; clear hc1 hf1; obtain ⟨hc1, hf1, hl1⟩ := hst.c0))
    all_goals (go_ret2; exact ⟨by simp [keyS, keyB, hk], hst.base⟩)
  | true =>
    obtain ⟨⟨b1, b2⟩, ⟨b3, b4⟩, b5⟩ := ((DS.known_iff d).1 hk).bounds
    by_cases hs : d.altAt + d.altLen ≤ r.size
    · have hB : keyB d r = true := by simp [keyB, hk, hs]
      have HB := Lib.hid hB
      clear hB
      have hs2 : d.altAt ≤ d.altAt + d.altLen := by omega
      go_enter Try.func22, Try.ntmps22
      go_wp2_with (first | ((with_reducible refine at_dst (N := 2) rfl ?_); refine wpList_box hst 23 d.cells rfl ?hr ?_; (case hr => first | (go_simp; done) | (go_simp; rfl)); clear hst; intro g1 w1 hst; obtain ⟨hc1, hf1, hl1⟩ := hst.c0) | ((with_reducible refine at_dst (N := 6) rfl ?_); (refine wpList_load_own hst ⟨g1, d.cells, 23⟩ (by simp) rfl _ rfl rfl _ rfl Try.underlying23 (by kernel_rfl) ?_)) | (go_at_call 55; refine (isAlt26_any d _).mono ?_; rintro e w' ⟨rfl, hb⟩; replace hst := hst.below hb; clear hb; clear hc1 hf1; obtain ⟨hc1, hf1, hl1⟩ := hst.c0))
      go_ret2
      refine ⟨?_, hst.base⟩
      rw [HB.out, keyS, if_pos HB.out]
      rfl
    · have hB : keyB d r = false := by simp [keyB, hs]
      have HB := Lib.hid hB
      clear hB
      go_enter Try.func22, Try.ntmps22
      go_wp2_with (first | ((with_reducible refine at_dst (N := 2) rfl ?_); refine wpList_box hst 23 d.cells rfl ?hr ?_; (case hr => first | (go_simp; done) | (go_simp; rfl)); clear hst; intro g1 w1 hst; obtain ⟨hc1, hf1, hl1⟩ := hst.c0) | ((with_reducible refine at_dst (N := 6) rfl ?_); (refine wpList_load_own hst ⟨g1, d.cells, 23⟩ (by simp) rfl _ rfl rfl _ rfl Try.underlying23 (by kernel_rfl) ?_)) | (go_at_call 55; refine (isAlt26_any d _).mono ?_; rintro e w' ⟨rfl, hb⟩; replace hst := hst.below hb; clear hb; clear hc1 hf1; obtain ⟨hc1, hf1, hl1⟩ := hst.c0))
      all_goals (go_ret2; exact ⟨by simp [keyS, HB.out], hst.base⟩)

set_option maxHeartbeats 1000000 in
theorem record26_any (d : DS) (k b : ByteArray) (w : World) (hsz : k.size + b.size ≤ 9223372036854775807) :
    Calls Try.prog 24 #[d.v, .string k, .string b] w fun e w' => e = .returned (.tuple #[.string (recS d k b), .int .i64 (recE d k b)]) ∧ Below w.heap.size w w' := by
  have hst := St.start w
  cases hk : d.known with
  | false =>
    go_enter Try.func24, Try.ntmps24
    go_wp2_with (first | ((with_reducible refine at_dst (N := 3) rfl ?_); refine wpList_box hst 23 d.cells rfl ?hr ?_; (case hr => first | (go_simp; done) | (go_simp; rfl)); clear hst; intro g1 w1 hst; obtain ⟨hc1, hf1, hl1⟩ := hst.c0) | ((with_reducible refine at_dst (N := 8) rfl ?_); (refine wpList_load_own hst ⟨g1, d.cells, 23⟩ (by simp) rfl _ rfl rfl _ rfl Try.underlying23 (by kernel_rfl) ?_)) | (go_at_call 55; refine (isAlt26_any d _).mono ?_; rintro e w' ⟨rfl, hb⟩; replace hst := hst.below hb; clear hb; clear hc1 hf1; obtain ⟨hc1, hf1, hl1⟩ := hst.c0))
    all_goals (go_ret2; exact ⟨by simp [recS, recE, hk], hst.base⟩)
  | true =>
    obtain ⟨⟨b1, b2⟩, ⟨b3, b4⟩, b5⟩ := ((DS.known_iff d).1 hk).bounds
    by_cases h1 : (k.size : Int) = d.altLen
    · have h1b : ((k.size : Int) != d.altLen) = false := by simp [h1]
      have H1 := Lib.hid h1
      clear h1
      by_cases h2 : (b.size : Int) = d.keyLen - d.altLen
      · have h2b : ((b.size : Int) != d.keyLen - d.altLen) = false := by simp [h2]
        have e0 : recE d k b = 0 := by simp [recE, hk, H1.out, h2]
        have E0 := Lib.hid e0
        clear h2 e0
        go_enter Try.func24, Try.ntmps24
        go_wp2_with (first | ((with_reducible refine at_dst (N := 3) rfl ?_); refine wpList_box hst 23 d.cells rfl ?hr ?_; (case hr => first | (go_simp; done) | (go_simp; rfl)); clear hst; intro g1 w1 hst; obtain ⟨hc1, hf1, hl1⟩ := hst.c0) | ((with_reducible refine at_dst (N := 8) rfl ?_); (refine wpList_load_own hst ⟨g1, d.cells, 23⟩ (by simp) rfl _ rfl rfl _ rfl Try.underlying23 (by kernel_rfl) ?_)) | (go_at_call 55; refine (isAlt26_any d _).mono ?_; rintro e w' ⟨rfl, hb⟩; replace hst := hst.below hb; clear hb; clear hc1 hf1; obtain ⟨hc1, hf1, hl1⟩ := hst.c0))
        go_ret2
        exact ⟨by simp [recS, E0.out], hst.base⟩
      · have h2b : ((b.size : Int) != d.keyLen - d.altLen) = true := by simp [h2]
        have e0 : recE d k b = 2 := by simp [recE, hk, h2]
        have E0 := Lib.hid e0
        clear h2 e0
        go_enter Try.func24, Try.ntmps24
        go_wp2_with (first | ((with_reducible refine at_dst (N := 3) rfl ?_); refine wpList_box hst 23 d.cells rfl ?hr ?_; (case hr => first | (go_simp; done) | (go_simp; rfl)); clear hst; intro g1 w1 hst; obtain ⟨hc1, hf1, hl1⟩ := hst.c0) | ((with_reducible refine at_dst (N := 8) rfl ?_); (refine wpList_load_own hst ⟨g1, d.cells, 23⟩ (by simp) rfl _ rfl rfl _ rfl Try.underlying23 (by kernel_rfl) ?_)) | (go_at_call 55; refine (isAlt26_any d _).mono ?_; rintro e w' ⟨rfl, hb⟩; replace hst := hst.below hb; clear hb; clear hc1 hf1; obtain ⟨hc1, hf1, hl1⟩ := hst.c0))
        go_ret2
        exact ⟨by simp [recS, E0.out], hst.base⟩
    · have h1b : ((k.size : Int) != d.altLen) = true := by simp [h1]
      have e0 : recE d k b = 2 := by simp [recE, hk, h1]
      have E0 := Lib.hid e0
      clear h1 e0
      go_enter Try.func24, Try.ntmps24
      go_wp2_with (first | ((with_reducible refine at_dst (N := 3) rfl ?_); refine wpList_box hst 23 d.cells rfl ?hr ?_; (case hr => first | (go_simp; done) | (go_simp; rfl)); clear hst; intro g1 w1 hst; obtain ⟨hc1, hf1, hl1⟩ := hst.c0) | ((with_reducible refine at_dst (N := 8) rfl ?_); (refine wpList_load_own hst ⟨g1, d.cells, 23⟩ (by simp) rfl _ rfl rfl _ rfl Try.underlying23 (by kernel_rfl) ?_)) | (go_at_call 55; refine (isAlt26_any d _).mono ?_; rintro e w' ⟨rfl, hb⟩; replace hst := hst.below hb; clear hb; clear hc1 hf1; obtain ⟨hc1, hf1, hl1⟩ := hst.c0))
      go_ret2
      exact ⟨by simp [recS, E0.out], hst.base⟩

set_option maxHeartbeats 1000000 in
theorem parts26_any (d : DS) (r : ByteArray) (w : World) :
    Calls Try.prog 26 #[d.v, .string r] w fun e w' => e = .returned (.tuple #[.string (parK d r), .string (parB d r), .int .i64 (parE d r)]) ∧ Below w.heap.size w w' := by
  have hst := St.start w
  cases hk : d.known with
  | false =>
    go_enter Try.func26, Try.ntmps26
    go_wp2_with (first | ((with_reducible refine at_dst (N := 2) rfl ?_); refine wpList_box hst 23 d.cells rfl ?hr ?_; (case hr => first | (go_simp; done) | (go_simp; rfl)); clear hst; intro g1 w1 hst; obtain ⟨hc1, hf1, hl1⟩ := hst.c0) | ((with_reducible refine at_dst (N := 7) rfl ?_); (refine wpList_load_own hst ⟨g1, d.cells, 23⟩ (by simp) rfl _ rfl rfl _ rfl Try.underlying23 (by kernel_rfl) ?_)) | (go_at_call 55; refine (isAlt26_any d _).mono ?_; rintro e w' ⟨rfl, hb⟩; replace hst := hst.below hb; clear hb; clear hc1 hf1; obtain ⟨hc1, hf1, hl1⟩ := hst.c0))
    all_goals (go_ret3; exact ⟨by simp [parK, parB, parE, hk], hst.base⟩)
  | true =>
    obtain ⟨⟨b1, b2⟩, ⟨b3, b4⟩, b5⟩ := ((DS.known_iff d).1 hk).bounds
    by_cases h1 : (r.size : Int) = d.keyLen
    · have h1b : ((r.size : Int) != d.keyLen) = false := by simp [h1]
      have h3 : d.altLen ≤ r.size := by omega
      have H1 := Lib.hid h1
      clear h1
      go_enter Try.func26, Try.ntmps26
      go_wp2_with (first | ((with_reducible refine at_dst (N := 2) rfl ?_); refine wpList_box hst 23 d.cells rfl ?hr ?_; (case hr => first | (go_simp; done) | (go_simp; rfl)); clear hst; intro g1 w1 hst; obtain ⟨hc1, hf1, hl1⟩ := hst.c0) | ((with_reducible refine at_dst (N := 7) rfl ?_); (refine wpList_load_own hst ⟨g1, d.cells, 23⟩ (by simp) rfl _ rfl rfl _ rfl Try.underlying23 (by kernel_rfl) ?_)) | (go_at_call 55; refine (isAlt26_any d _).mono ?_; rintro e w' ⟨rfl, hb⟩; replace hst := hst.below hb; clear hb; clear hc1 hf1; obtain ⟨hc1, hf1, hl1⟩ := hst.c0))
      obtain ⟨hne, hq1⟩ := hst.facts1; dsimp only at hq1
      (refine wp_region_st hst (by kernel_rfl) (by kernel_rfl) ?_; (repeat (first | go_big_quiet_skip | (go_big_quiet_want; first | fail | (go_big_quiet_op; first | go_big_quiet_on | go_big_quiet_call (fail))))); refine wpQuiet_nil ?_; clear hst; rintro _ ⟨⟨wq, hst⟩, rfl⟩; try dsimp only)
      go_wp2
      go_ret3
      have e0 : parE d r = 0 := by simp [parE, hk, H1.out]
      exact ⟨by simp [parK, parB, e0], hst.base⟩
    · have h1b : ((r.size : Int) != d.keyLen) = true := by simp [h1]
      have H1 := Lib.hid h1
      clear h1
      go_enter Try.func26, Try.ntmps26
      go_wp2_with (first | ((with_reducible refine at_dst (N := 2) rfl ?_); refine wpList_box hst 23 d.cells rfl ?hr ?_; (case hr => first | (go_simp; done) | (go_simp; rfl)); clear hst; intro g1 w1 hst; obtain ⟨hc1, hf1, hl1⟩ := hst.c0) | ((with_reducible refine at_dst (N := 7) rfl ?_); (refine wpList_load_own hst ⟨g1, d.cells, 23⟩ (by simp) rfl _ rfl rfl _ rfl Try.underlying23 (by kernel_rfl) ?_)) | (go_at_call 55; refine (isAlt26_any d _).mono ?_; rintro e w' ⟨rfl, hb⟩; replace hst := hst.below hb; clear hb; clear hc1 hf1; obtain ⟨hc1, hf1, hl1⟩ := hst.c0))
      go_ret3
      have e0 : parE d r = 2 := by simp [parE, hk, H1.out]
      exact ⟨by simp [parK, parB, e0], hst.base⟩
end Go.Proofs.Ytcdlcdibcekahaa
