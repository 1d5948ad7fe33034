/- The package alternate: Record, Parts, Span, Describe. -/
import Derived.Test.YtcdlcdibcekahaaAlt2
namespace Go.Proofs.Ytcdlcdibcekahaa
open Go.RowKit
set_option linter.unusedSimpArgs false
set_option linter.unusedVariables false

set_option maxHeartbeats 1000000 in
theorem record_any (d : DS) (k b : ByteArray) (w : World) (hsz : k.size + b.size ≤ 9223372036854775807) :
    Calls Try.prog 23 #[d.v, .string k, .string b] w fun e w' => e = .returned (.tuple #[.string (recS d k b), .int .i64 (recE d k b)]) ∧ Below w.heap.size w w' := by
  have hst := St.start w
  cases hk : d.known with
  | false =>
    go_enter Try.func23, Try.ntmps23
    go_wp2_with (first | ((with_reducible refine at_dst (N := 3) rfl ?_); refine wpList_box hst 23 d.cells rfl ?hr ?_; (case hr => first | (go_simp; done) | (go_simp; rfl)); clear hst; intro g1 w1 hst; obtain ⟨hc1, hf1, hl1⟩ := hst.c0) | ((with_reducible refine at_dst (N := 9) rfl ?_); (refine wpList_load_own hst ⟨g1, d.cells, 23⟩ (by simp) rfl _ rfl rfl _ rfl Try.underlying23 (by kernel_rfl) ?_)) | (go_at_call 57; refine (known_any d _).mono ?_; rintro e w' ⟨rfl, hb⟩; replace hst := hst.below hb; clear hb; clear hc1 hf1; obtain ⟨hc1, hf1, hl1⟩ := hst.c0))
    all_goals (go_ret2; exact ⟨by simp [recS, recE, hk], hst.base⟩)
  | true =>
    have HK := Lib.hid ((DS.known_iff d).1 hk)
    have hbs := HK.out.baseSize
    obtain ⟨⟨b1, b2⟩, ⟨b3, b4⟩, b5⟩ := HK.out.bounds
    by_cases h1 : (k.size : Int) = d.altLen
    · have h1b : ((k.size : Int) != d.altLen) = false := by simp [h1]
      have H1 := Lib.hid h1
      clear h1
      by_cases h2 : (b.size : Int) = d.baseSize
      · have h2b : ((b.size : Int) != d.baseSize) = false := by simp [h2]
        have H2 := Lib.hid h2
        clear h2
        have HBS := Lib.hid hbs.1
        clear hbs
        go_enter Try.func23, Try.ntmps23
        go_wp2_with (first | ((with_reducible refine at_dst (N := 3) rfl ?_); refine wpList_box hst 23 d.cells rfl ?hr ?_; (case hr => first | (go_simp; done) | (go_simp; rfl)); clear hst; intro g1 w1 hst; obtain ⟨hc1, hf1, hl1⟩ := hst.c0) | ((with_reducible refine at_dst (N := 9) rfl ?_); (refine wpList_load_own hst ⟨g1, d.cells, 23⟩ (by simp) rfl _ rfl rfl _ rfl Try.underlying23 (by kernel_rfl) ?_)) | ((with_reducible refine at_dst (N := 21) rfl ?_); refine wpList_load_g hst ⟨g1, d.cells, 23⟩ (by simp) rfl _ rfl rfl rfl Try.underlying23 (by kernel_rfl) ?_) | (go_at_call 57; refine (known_any d _).mono ?_; rintro e w' ⟨rfl, hb⟩; replace hst := hst.below hb; clear hb; clear hc1 hf1; obtain ⟨hc1, hf1, hl1⟩ := hst.c0) | (go_at_call 58; refine (baseSize_any d _).mono ?_; rintro e w' ⟨rfl, hb⟩; replace hst := hst.below hb; clear hb; clear hc1 hf1; obtain ⟨hc1, hf1, hl1⟩ := hst.c0))
        go_ret2
        have e0 : recE d k b = 0 := by simp [recE, hk, H1.out, H2.out, HBS.out]
        exact ⟨by simp [recS, e0], hst.base⟩
      · have h2b : ((b.size : Int) != d.baseSize) = true := by simp [h2]
        have H2 := Lib.hid h2
        clear h2
        have HBS := Lib.hid hbs.1
        clear hbs
        go_enter Try.func23, Try.ntmps23
        go_wp2_with (first | ((with_reducible refine at_dst (N := 3) rfl ?_); refine wpList_box hst 23 d.cells rfl ?hr ?_; (case hr => first | (go_simp; done) | (go_simp; rfl)); clear hst; intro g1 w1 hst; obtain ⟨hc1, hf1, hl1⟩ := hst.c0) | ((with_reducible refine at_dst (N := 9) rfl ?_); (refine wpList_load_own hst ⟨g1, d.cells, 23⟩ (by simp) rfl _ rfl rfl _ rfl Try.underlying23 (by kernel_rfl) ?_)) | ((with_reducible refine at_dst (N := 21) rfl ?_); refine wpList_load_g hst ⟨g1, d.cells, 23⟩ (by simp) rfl _ rfl rfl rfl Try.underlying23 (by kernel_rfl) ?_) | (go_at_call 57; refine (known_any d _).mono ?_; rintro e w' ⟨rfl, hb⟩; replace hst := hst.below hb; clear hb; clear hc1 hf1; obtain ⟨hc1, hf1, hl1⟩ := hst.c0) | (go_at_call 58; refine (baseSize_any d _).mono ?_; rintro e w' ⟨rfl, hb⟩; replace hst := hst.below hb; clear hb; clear hc1 hf1; obtain ⟨hc1, hf1, hl1⟩ := hst.c0))
        go_ret2
        have e0 : recE d k b = 2 := by have := H2.out; rw [HBS.out] at this; simp [recE, hk, this]
        exact ⟨by simp [recS, e0], hst.base⟩
    · have h1b : ((k.size : Int) != d.altLen) = true := by simp [h1]
      have H1 := Lib.hid h1
      clear h1 hbs
      go_enter Try.func23, Try.ntmps23
      go_wp2_with (first | ((with_reducible refine at_dst (N := 3) rfl ?_); refine wpList_box hst 23 d.cells rfl ?hr ?_; (case hr => first | (go_simp; done) | (go_simp; rfl)); clear hst; intro g1 w1 hst; obtain ⟨hc1, hf1, hl1⟩ := hst.c0) | ((with_reducible refine at_dst (N := 9) rfl ?_); (refine wpList_load_own hst ⟨g1, d.cells, 23⟩ (by simp) rfl _ rfl rfl _ rfl Try.underlying23 (by kernel_rfl) ?_)) | (go_at_call 57; refine (known_any d _).mono ?_; rintro e w' ⟨rfl, hb⟩; replace hst := hst.below hb; clear hb; clear hc1 hf1; obtain ⟨hc1, hf1, hl1⟩ := hst.c0))
      go_ret2
      have e0 : recE d k b = 2 := by simp [recE, hk, H1.out]
      exact ⟨by simp [recS, e0], hst.base⟩

set_option maxHeartbeats 1000000 in
theorem parts_any (d : DS) (r : ByteArray) (w : World) :
    Calls Try.prog 25 #[d.v, .string r] w fun e w' => e = .returned (.tuple #[.string (parK d r), .string (parB d r), .int .i64 (parE d r)]) ∧ Below w.heap.size w w' := by
  have hst := St.start w
  cases hk : d.known with
  | false =>
    go_enter Try.func25, Try.ntmps25
    go_wp2_with (first | ((with_reducible refine at_dst (N := 2) rfl ?_); refine wpList_box hst 23 d.cells rfl ?hr ?_; (case hr => first | (go_simp; done) | (go_simp; rfl)); clear hst; intro g1 w1 hst; obtain ⟨hc1, hf1, hl1⟩ := hst.c0) | (refine wpList_load_own hst ⟨g1, d.cells, 23⟩ (by simp) rfl _ rfl rfl _ rfl Try.underlying23 (by kernel_rfl) ?_) | (go_at_call 57; refine (known_any d _).mono ?_; rintro e w' ⟨rfl, hb⟩; replace hst := hst.below hb; clear hb; clear hc1 hf1; obtain ⟨hc1, hf1, hl1⟩ := hst.c0))
    all_goals (go_ret3; exact ⟨by simp [parK, parB, parE, hk], hst.base⟩)
  | true =>
    have HK := Lib.hid ((DS.known_iff d).1 hk)
    obtain ⟨⟨b1, b2⟩, ⟨b3, b4⟩, b5⟩ := HK.out.bounds
    by_cases h1 : (r.size : Int) = d.keyLen
    · have h1b : ((r.size : Int) != d.keyLen) = false := by simp [h1]
      have h3 : d.altLen ≤ r.size := by omega
      have H1 := Lib.hid h1
      clear h1
      go_enter Try.func25, Try.ntmps25
      go_wp2_with (first | ((with_reducible refine at_dst (N := 2) rfl ?_); refine wpList_box hst 23 d.cells rfl ?hr ?_; (case hr => first | (go_simp; done) | (go_simp; rfl)); clear hst; intro g1 w1 hst; obtain ⟨hc1, hf1, hl1⟩ := hst.c0) | (refine wpList_load_own hst ⟨g1, d.cells, 23⟩ (by simp) rfl _ rfl rfl _ rfl Try.underlying23 (by kernel_rfl) ?_) | (go_at_call 57; refine (known_any d _).mono ?_; rintro e w' ⟨rfl, hb⟩; replace hst := hst.below hb; clear hb; clear hc1 hf1; obtain ⟨hc1, hf1, hl1⟩ := hst.c0))
      obtain ⟨hne, hq1⟩ := hst.facts1; dsimp only at hq1
      (refine wp_region_st hst (by kernel_rfl) (by kernel_rfl) ?_; (repeat (first | go_big_quiet_skip | (go_big_quiet_want; first | fail | (go_big_quiet_op; first | go_big_quiet_on | go_big_quiet_call (fail))))); refine wpQuiet_nil ?_; clear hst; rintro _ ⟨⟨wq, hst⟩, rfl⟩; try dsimp only)
      go_wp2
      go_ret3
      have e0 : parE d r = 0 := by simp [parE, hk, H1.out]
      exact ⟨by simp [parK, parB, e0], hst.base⟩
    · have h1b : ((r.size : Int) != d.keyLen) = true := by simp [h1]
      have H1 := Lib.hid h1
      clear h1
      go_enter Try.func25, Try.ntmps25
      go_wp2_with (first | ((with_reducible refine at_dst (N := 2) rfl ?_); refine wpList_box hst 23 d.cells rfl ?hr ?_; (case hr => first | (go_simp; done) | (go_simp; rfl)); clear hst; intro g1 w1 hst; obtain ⟨hc1, hf1, hl1⟩ := hst.c0) | (refine wpList_load_own hst ⟨g1, d.cells, 23⟩ (by simp) rfl _ rfl rfl _ rfl Try.underlying23 (by kernel_rfl) ?_) | (go_at_call 57; refine (known_any d _).mono ?_; rintro e w' ⟨rfl, hb⟩; replace hst := hst.below hb; clear hb; clear hc1 hf1; obtain ⟨hc1, hf1, hl1⟩ := hst.c0))
      go_ret3
      have e0 : parE d r = 2 := by simp [parE, hk, H1.out]
      exact ⟨by simp [parK, parB, e0], hst.base⟩
end Go.Proofs.Ytcdlcdibcekahaa
