/- AlternateSpans: the walk of the law. -/
import Derived.Test.YtcdlcdibcekahaaLawInverts
namespace Go.Proofs.Ytcdlcdibcekahaa
open Go.RowKit
set_option linter.unusedSimpArgs false
set_option linter.unusedVariables false

theorem cut_two (r : ByteArray) (n : Nat) (h : n ≤ r.size) : (r.extract 0 n).data.toList ++ (r.extract n r.size).data.toList = r.data.toList ∧ (r.extract 0 n).data.toList.length = n ∧ (r.extract n r.size).data.toList.length = r.size - n := by
  have hs : r.size = r.data.toList.length := (show r.data.size = r.data.toList.length from Array.length_toList.symm)
  simp only [ByteArray.data_extract]
  rw [hs] at h ⊢
  generalize hx : r.data = x at *
  refine ⟨?_, ?_, ?_⟩
  · simp only [Array.toList_extract, List.extract_eq_take_drop, List.drop_zero, Nat.sub_zero]
    rw [List.take_of_length_le (l := x.toList.drop n) (by simp), List.take_append_drop]
  · simp at h ⊢; omega
  · simp

theorem spans_plain {d : DS} {r k : ByteArray} (h1 : parE d r = 0) (h2 : spanE d k = 0) : inR (spanLo d k).toList (spanHi d k).toList false r.toList = ((parK d r).toList == k.toList) := by
  have hk : d.known = true ∧ (k.size : Int) = d.altLen := by
    unfold spanE at h2
    split at h2
    · cases h2
    · rename_i a
      split at h2
      · cases h2
      · rename_i b
        exact ⟨by simpa using a, by omega⟩
  have hr : (r.size : Int) = d.keyLen := by
    unfold parE at h1
    split at h1
    · cases h1
    · split at h1
      · cases h1
      · rename_i a
        omega
  obtain ⟨⟨b1, b2⟩, _, _⟩ := ((DS.known_iff d).1 hk.1).bounds
  obtain ⟨c1, c2, c3⟩ := cut_two r d.altLen.toNat (by omega)
  rw [parK, if_pos h1, spanLo, if_pos h2, spanHi, if_pos h2]
  simp only [ByteArray.toList_eq, ByteArray.data_append, Array.toList_append]
  have h := inR_iff (r.extract 0 d.altLen.toNat).data.toList k.data.toList (r.extract d.altLen.toNat r.size).data.toList (by rw [c2, show k.data.toList.length = k.size from Array.length_toList]; omega)
  rw [c1, c3, show r.size - d.altLen.toNat = (d.keyLen - d.altLen).toNat by omega] at h
  exact h

set_option maxHeartbeats 2000000 in
set_option maxRecDepth 100000 in
theorem lawSpans_walk (d : DS) (r k : ByteArray) (w : World) (hr : r.size ≤ 140737488351232) (hk : k.size ≤ 140737488351232) :
    Calls Try.prog 7 #[d.v, .string r, .string k] w fun e w' => e = .returned (.bool true) ∧ Below w.heap.size w w' := by
  have hst := St.start w
  by_cases hk1 : r.size ≤ 100
  · by_cases hb1 : k.size ≤ 100
    · have hplain := fun h1 h2 => spans_plain (d := d) (r := r) (k := k) h1 h2
      have k2 := fun w => parts_any d r w
      have k3 := fun w => span_any d k w (by omega)
      obtain ⟨lo, hlo⟩ : ∃ lo, lo = spanLo d k := ⟨_, rfl⟩
      obtain ⟨hi, hhi⟩ : ∃ hi, hi = spanHi d k := ⟨_, rfl⟩
      obtain ⟨pk, hpk⟩ : ∃ pk, pk = parK d r := ⟨_, rfl⟩
      obtain ⟨pb, hpb⟩ : ∃ pb, pb = parB d r := ⟨_, rfl⟩
      obtain ⟨E, hE⟩ : ∃ E, E = parE d r := ⟨_, rfl⟩
      obtain ⟨F, hF⟩ : ∃ F, F = spanE d k := ⟨_, rfl⟩
      rw [← hlo, ← hhi, ← hF] at k3
      rw [← hpk, ← hpb, ← hE] at k2
      rw [← hlo, ← hhi, ← hpk, ← hE, ← hF] at hplain
      have K2 := Lib.hid k2
      have K3 := Lib.hid k3
      have HP := Lib.hid hplain
      clear k2 k3 hlo hhi hpk hpb hE hF hplain
      by_cases hE : E = 0
      · by_cases hF : F = 0
        · subst hE
          subst hF
          have k4 := fun w => in16_any lo hi r false w
          rw [HP.out rfl rfl] at k4
          have K4 := Lib.hid k4
          clear k4
          go_enter Try.func7, Try.ntmps7
          go_wp2_with (first | ((with_reducible refine at_dst (N := 3) rfl ?_); refine wpList_box hst 23 d.cells rfl ?hr ?_; (case hr => first | (go_simp; done) | (go_simp; rfl)); clear hst; intro g1 w1 hst; obtain ⟨hc1, hf1, hl1⟩ := hst.c0) | (go_at_call 14; refine (awake26_any _).mono ?_; rintro e w' ⟨rfl, hb⟩; replace hst := hst.below hb; clear hb; clear hc1 hf1; obtain ⟨hc1, hf1, hl1⟩ := hst.c0)  | ((with_reducible refine at_dst (N := 23) rfl ?_); (refine wpList_load_own hst ⟨g1, d.cells, 23⟩ (by simp) rfl _ rfl rfl _ rfl Try.underlying23 (by kernel_rfl) ?_)) | (go_at_call 25; refine (K2.out _).mono ?_; rintro e w' ⟨rfl, hb⟩; replace hst := hst.below hb; clear hb; clear hc1 hf1; obtain ⟨hc1, hf1, hl1⟩ := hst.c0)  | ((with_reducible refine at_dst (N := 30) rfl ?_); (refine wpList_load_own hst ⟨g1, d.cells, 23⟩ (by simp) rfl _ rfl rfl _ rfl Try.underlying23 (by kernel_rfl) ?_)) | (go_at_call 27; refine (K3.out _).mono ?_; rintro e w' ⟨rfl, hb⟩; replace hst := hst.below hb; clear hb; clear hc1 hf1; obtain ⟨hc1, hf1, hl1⟩ := hst.c0) | ((with_reducible refine at_dst (N := 10) rfl ?_); refine wpList_box hst 41 (rangeV ⟨#[]⟩ ⟨#[]⟩ false) rfl ?hr ?_; (case hr => first | (go_simp; done) | (go_simp; rfl)); clear hst; intro g2 w2 hst; obtain ⟨hc2, hf2, hl2⟩ := hst.c0) | ((with_reducible refine at_store (p := 10) rfl ?_); refine wpList_put0 hst rfl _ _ rfl (rangeV lo hi false) rfl rfl (by kernel_rfl) rfl (by simp [rangeV, Value.oneCell']) ?_; clear hst; intro wp hst; clear hc1 hf1 hc2 hf2; obtain ⟨hc2, hf2, hl2⟩ := hst.c0; obtain ⟨hc1, hf1, hl1⟩ := hst.c1)  | ((with_reducible refine at_dst (N := 41) rfl ?_); (refine wpList_load_own hst ⟨g2, (rangeV lo hi false), 41⟩ (by simp) rfl _ rfl rfl _ rfl Try.underlying41 (by kernel_rfl) ?_)) | (go_at_call 29; refine (K4.out _).mono ?_; rintro e w' ⟨rfl, hb⟩; replace hst := hst.below hb; clear hb; clear hc1 hf1 hc2 hf2; obtain ⟨hc2, hf2, hl2⟩ := hst.c0; obtain ⟨hc1, hf1, hl1⟩ := hst.c1))
          go_ret
          exact ⟨ret_bool (by simp), hst.base⟩
        · have hF2 : (F != 0) = true := by simpa using hF
          subst hE
          go_enter Try.func7, Try.ntmps7
          go_wp2_with (first | ((with_reducible refine at_dst (N := 3) rfl ?_); refine wpList_box hst 23 d.cells rfl ?hr ?_; (case hr => first | (go_simp; done) | (go_simp; rfl)); clear hst; intro g1 w1 hst; obtain ⟨hc1, hf1, hl1⟩ := hst.c0) | (go_at_call 14; refine (awake26_any _).mono ?_; rintro e w' ⟨rfl, hb⟩; replace hst := hst.below hb; clear hb; clear hc1 hf1; obtain ⟨hc1, hf1, hl1⟩ := hst.c0)  | ((with_reducible refine at_dst (N := 23) rfl ?_); (refine wpList_load_own hst ⟨g1, d.cells, 23⟩ (by simp) rfl _ rfl rfl _ rfl Try.underlying23 (by kernel_rfl) ?_)) | (go_at_call 25; refine (K2.out _).mono ?_; rintro e w' ⟨rfl, hb⟩; replace hst := hst.below hb; clear hb; clear hc1 hf1; obtain ⟨hc1, hf1, hl1⟩ := hst.c0)  | ((with_reducible refine at_dst (N := 30) rfl ?_); (refine wpList_load_own hst ⟨g1, d.cells, 23⟩ (by simp) rfl _ rfl rfl _ rfl Try.underlying23 (by kernel_rfl) ?_)) | (go_at_call 27; refine (K3.out _).mono ?_; rintro e w' ⟨rfl, hb⟩; replace hst := hst.below hb; clear hb; clear hc1 hf1; obtain ⟨hc1, hf1, hl1⟩ := hst.c0) | ((with_reducible refine at_dst (N := 10) rfl ?_); refine wpList_box hst 41 (rangeV ⟨#[]⟩ ⟨#[]⟩ false) rfl ?hr ?_; (case hr => first | (go_simp; done) | (go_simp; rfl)); clear hst; intro g2 w2 hst; obtain ⟨hc2, hf2, hl2⟩ := hst.c0) | ((with_reducible refine at_store (p := 10) rfl ?_); refine wpList_put0 hst rfl _ _ rfl (rangeV lo hi false) rfl rfl (by kernel_rfl) rfl (by simp [rangeV, Value.oneCell']) ?_; clear hst; intro wp hst; clear hc1 hf1 hc2 hf2; obtain ⟨hc2, hf2, hl2⟩ := hst.c0; obtain ⟨hc1, hf1, hl1⟩ := hst.c1))
          go_ret
          exact ⟨rfl, hst.base⟩
      · have hE2 : (E != 0) = true := by simpa using hE
        go_enter Try.func7, Try.ntmps7
        go_wp2_with (first | ((with_reducible refine at_dst (N := 3) rfl ?_); refine wpList_box hst 23 d.cells rfl ?hr ?_; (case hr => first | (go_simp; done) | (go_simp; rfl)); clear hst; intro g1 w1 hst; obtain ⟨hc1, hf1, hl1⟩ := hst.c0) | (go_at_call 14; refine (awake26_any _).mono ?_; rintro e w' ⟨rfl, hb⟩; replace hst := hst.below hb; clear hb; clear hc1 hf1; obtain ⟨hc1, hf1, hl1⟩ := hst.c0)  | ((with_reducible refine at_dst (N := 23) rfl ?_); (refine wpList_load_own hst ⟨g1, d.cells, 23⟩ (by simp) rfl _ rfl rfl _ rfl Try.underlying23 (by kernel_rfl) ?_)) | (go_at_call 25; refine (K2.out _).mono ?_; rintro e w' ⟨rfl, hb⟩; replace hst := hst.below hb; clear hb; clear hc1 hf1; obtain ⟨hc1, hf1, hl1⟩ := hst.c0)  | ((with_reducible refine at_dst (N := 30) rfl ?_); (refine wpList_load_own hst ⟨g1, d.cells, 23⟩ (by simp) rfl _ rfl rfl _ rfl Try.underlying23 (by kernel_rfl) ?_)) | (go_at_call 27; refine (K3.out _).mono ?_; rintro e w' ⟨rfl, hb⟩; replace hst := hst.below hb; clear hb; clear hc1 hf1; obtain ⟨hc1, hf1, hl1⟩ := hst.c0) | ((with_reducible refine at_dst (N := 10) rfl ?_); refine wpList_box hst 41 (rangeV ⟨#[]⟩ ⟨#[]⟩ false) rfl ?hr ?_; (case hr => first | (go_simp; done) | (go_simp; rfl)); clear hst; intro g2 w2 hst; obtain ⟨hc2, hf2, hl2⟩ := hst.c0) | ((with_reducible refine at_store (p := 10) rfl ?_); refine wpList_put0 hst rfl _ _ rfl (rangeV lo hi false) rfl rfl (by kernel_rfl) rfl (by simp [rangeV, Value.oneCell']) ?_; clear hst; intro wp hst; clear hc1 hf1 hc2 hf2; obtain ⟨hc2, hf2, hl2⟩ := hst.c0; obtain ⟨hc1, hf1, hl1⟩ := hst.c1))
        go_ret
        exact ⟨rfl, hst.base⟩
    · go_enter Try.func7, Try.ntmps7
      go_wp2_with (first | ((with_reducible refine at_dst (N := 3) rfl ?_); refine wpList_box hst 23 d.cells rfl ?hr ?_; (case hr => first | (go_simp; done) | (go_simp; rfl)); clear hst; intro g1 w1 hst; obtain ⟨hc1, hf1, hl1⟩ := hst.c0) | (go_at_call 14; refine (awake26_any _).mono ?_; rintro e w' ⟨rfl, hb⟩; replace hst := hst.below hb; clear hb; clear hc1 hf1; obtain ⟨hc1, hf1, hl1⟩ := hst.c0))
      go_ret
      exact ⟨rfl, hst.base⟩
  · go_enter Try.func7, Try.ntmps7
    go_wp2_with (first | ((with_reducible refine at_dst (N := 3) rfl ?_); refine wpList_box hst 23 d.cells rfl ?hr ?_; (case hr => first | (go_simp; done) | (go_simp; rfl)); clear hst; intro g1 w1 hst; obtain ⟨hc1, hf1, hl1⟩ := hst.c0) | (go_at_call 14; refine (awake26_any _).mono ?_; rintro e w' ⟨rfl, hb⟩; replace hst := hst.below hb; clear hb; clear hc1 hf1; obtain ⟨hc1, hf1, hl1⟩ := hst.c0))
    go_ret
    exact ⟨rfl, hst.base⟩
end Go.Proofs.Ytcdlcdibcekahaa
