/- The reference of chapter 26: Describe. -/
import Derived.Test.YtcdlcdibcekahaaRef26b
import Derived.Test.YtcdlcdibcekahaaSpecDesc
namespace Go.Proofs.Ytcdlcdibcekahaa
open Go.RowKit
set_option linter.unusedSimpArgs false
set_option linter.unusedVariables false

def mk26 (b : DS) (id at_ len : Int) (u : Bool) (area iv : Int) : DS :=
  ⟨id, 3, 0, len + b.keySize, 0, 0, len + b.keySize, iv, area, b.freeI, b.freeA, b.id, at_, len, u, b.cls, b.vol, b.own, b.created, b.expires, false⟩

theorem altOf_mk {b : DS} {id at_ len : Int} {u : Bool} (h : DescOk b id at_ len) (iv : Int) : altOf b (mkAlt b id at_ len u iv) = (mkAlt b id at_ len u iv).kvalid := by
  have hb := h.1.1.bounds
  have hk := DS.keySize_bounds h.1.1
  obtain ⟨h1, h2, h3, h4, h5, h6, h7⟩ := (show DescOk b id at_ len from h)
  rw [Bool.eq_iff_iff, altOf_iff, DS.kvalid_iff]
  constructor
  · intro h8
    exact h8.2.2.1.1
  · intro h8
    refine ⟨h1, rfl, ⟨h8, rfl, h2, h1.2.1, ?_, ⟨h5, h4, h6, h7⟩, rfl, rfl⟩, rfl⟩
    show b.id ≠ id
    exact fun e => h3 e.symm

set_option maxHeartbeats 2000000 in
set_option maxRecDepth 100000 in
theorem desc26_ok1 (b : DS) (id at_ len : Int) (u : Bool) (w : World) (hB : b.isBase = true) (hid : 1 ≤ id) (hid2 : id ≤ 1099511627776) (hne : (id == b.id) = false) (ha : 0 ≤ at_) (hl : 1 ≤ len) (hlb : len ≤ b.len) (hab : at_ + len ≤ b.len) (hb2 : b.len ≤ 200)
    (hk1 : 1 ≤ b.keySize) (hk2 : b.keySize ≤ 32) (ho : (b.org != 3) = true) (ho1 : b.org = 1 ↔ b.org ≠ 3) (hok : DescOk b id at_ len) (hi1 : 128 ≤ b.intv) (hi2 : b.intv ≤ 512) (hi3 : Hid (b.intv = 128 ∨ b.intv = 256 ∨ b.intv = 512)) :
    Calls Try.prog 16 #[b.v, .int .i64 id, .int .i64 at_, .int .i64 len, .bool u] w fun e w' => e = .returned (.tuple #[(descV b id at_ len u).v, .int .i64 (descE b id at_ len u)]) ∧ Below w.heap.size w w' := by
  have hst := St.start w
  have HOK := Lib.hid hok
  have HO1 := Lib.hid ho1
  clear hok ho1
  go_enter Try.func16, Try.ntmps16
  go_wp2_with (first | ((with_reducible refine at_dst (N := 5) rfl ?_); refine wpList_box hst 23 b.cells rfl ?hr ?_; (case hr => first | (go_simp; done) | (go_simp; rfl)); clear hst; intro g1 w1 hst; obtain ⟨hc1, hf1, hl1⟩ := hst.c0) | ((with_reducible refine at_dst (N := 10) rfl ?_); refine wpList_box hst 23 zDS.cells rfl ?hr ?_; (case hr => first | (go_simp; done) | (go_simp; rfl)); clear hst; intro g2 w2 hst; obtain ⟨hc2, hf2, hl2⟩ := hst.c0) | ((with_reducible refine at_dst (N := 14) rfl ?_); (refine wpList_load_own hst ⟨g1, b.cells, 23⟩ (by simp) rfl _ rfl rfl _ rfl Try.underlying23 (by kernel_rfl) ?_)) | ((with_reducible refine at_dst (N := 48) rfl ?_); (refine wpList_load_own hst ⟨g1, b.cells, 23⟩ (by simp) rfl _ rfl rfl _ rfl Try.underlying23 (by kernel_rfl) ?_)) | ((with_reducible refine at_dst (N := 13) rfl ?_); refine wpList_box hst 23 zDS.cells rfl ?hr ?_; (case hr => first | (go_simp; done) | (go_simp; rfl)); clear hst; intro g3 w3 hst; obtain ⟨hc3, hf3, hl3⟩ := hst.c0)  | (go_at_call 51; refine (isBase26_any b _).mono ?_; rintro e w' ⟨rfl, hb⟩; replace hst := hst.below hb; clear hb; clear hc1 hf1 hc2 hf2; obtain ⟨hc2, hf2, hl2⟩ := hst.c0; obtain ⟨hc1, hf1, hl1⟩ := hst.c1) | (go_at_call 52; refine (between26 _ _ _ _).mono ?_; rintro e w'' ⟨rfl, rfl⟩) | (go_at_call 53; refine (keys26_any b _).mono ?_; rintro e w' ⟨rfl, hb⟩; replace hst := hst.below hb; clear hb; clear hc1 hf1 hc2 hf2; obtain ⟨hc2, hf2, hl2⟩ := hst.c0; obtain ⟨hc1, hf1, hl1⟩ := hst.c1)  | ((with_reducible refine at_store (p := 13) rfl ?_); refine wpList_put0 hst rfl _ _ rfl (mk26 b id at_ len u b.area b.intv).cells rfl rfl (by kernel_rfl) rfl (by simp [rangeV, Value.oneCell']) ?_; clear hst; intro wp hst; clear hc1 hf1 hc2 hf2 hc3 hf3; obtain ⟨hc3, hf3, hl3⟩ := hst.c0; obtain ⟨hc2, hf2, hl2⟩ := hst.c1; obtain ⟨hc1, hf1, hl1⟩ := hst.c2))
  go_loopg [11] 4 (fun kq _ w' => ∃ iv : Int, 128 ≤ iv ∧ iv ≤ 512 ∧ (kq = 0 → 512 < iv) ∧ (kq = 1 → 512 < iv) ∧ (kq = 2 → 256 < iv) ∧ (kq = 3 → 128 < iv) ∧ Hid (iv = 128 ∨ iv = 256 ∨ iv = 512) ∧ Hid (ivFrom (mkAlt b id at_ len u) kq iv = descIv b id at_ len u) ∧ St w w' [⟨g3, (mkAlt b id at_ len u iv).cells, 23⟩, ⟨g2, zDS.cells, 23⟩, ⟨g1, b.cells, 23⟩])
  case atStart =>
    refine ⟨b.intv, by omega, by omega, by omega, by omega, by omega, by omega, hi3, rfl, ?_⟩
    have e : mkAlt b id at_ len u b.intv = mk26 b id at_ len u 4 b.intv := by unfold mkAlt mk26; rw [if_pos (HO1.out.2 (by simpa using ho))]
    rw [e]
    exact hst.set0 8 (.int .i64 4)
  case round =>
    clear hst
    obtain ⟨iv, v1, v2, v3, v4, v5, v6, v7, HI, hst⟩ := hrel
    obtain ⟨hc3, hf3, hl3⟩ := hst.c0
    obtain ⟨hc2, hf2, hl2⟩ := hst.c1
    obtain ⟨hc1, hf1, hl1⟩ := hst.c2
    have he : (mkAlt b id at_ len u iv).intv = iv := rfl
    cases gk with
    | zero => exact absurd (v3 rfl) (by omega)
    | succ n =>
    have hv := fun w => valid26_any b (mkAlt b id at_ len u iv) w
    rw [altOf_mk HOK.out] at hv
    have HV := Lib.hid hv
    clear hv
    cases hkv : (mkAlt b id at_ len u iv).kvalid with
    | true =>
      have hIv : descIv b id at_ len u = some iv := by rw [← HI.out]; simp [ivFrom, hkv]; omega
      have HIv := Lib.hid hIv
      clear hIv
      go_wp2_with (first | ((with_reducible refine at_dst (N := 82) rfl ?_); (refine wpList_load_own hst ⟨g1, b.cells, 23⟩ (by simp) rfl _ rfl rfl _ rfl Try.underlying23 (by kernel_rfl) ?_)) | ((with_reducible refine at_dst (N := 83) rfl ?_); (refine wpList_load_own hst ⟨g3, (mkAlt b id at_ len u iv).cells, 23⟩ (by simp) rfl _ rfl rfl _ rfl Try.underlying23 (by kernel_rfl) ?_)) | ((with_reducible refine at_dst (N := 94) rfl ?_); (refine wpList_load_own hst ⟨g3, (mkAlt b id at_ len u iv).cells, 23⟩ (by simp) rfl _ rfl rfl _ rfl Try.underlying23 (by kernel_rfl) ?_)) | (go_at_call 18; refine (HV.out _).mono ?_; rintro e w' ⟨rfl, hb⟩; replace hst := hst.below hb; clear hb; clear hc1 hf1 hc2 hf2 hc3 hf3; obtain ⟨hc3, hf3, hl3⟩ := hst.c0; obtain ⟨hc2, hf2, hl2⟩ := hst.c1; obtain ⟨hc1, hf1, hl1⟩ := hst.c2) | ((with_reducible refine at_store (p := 10) rfl ?_); refine wpList_putB hst rfl _ _ rfl (mkAlt b id at_ len u iv).cells rfl rfl (by kernel_rfl) rfl (by simp [rangeV, Value.oneCell']) ?_; clear hst; intro wp hst; clear hc1 hf1 hc2 hf2 hc3 hf3; obtain ⟨hc3, hf3, hl3⟩ := hst.c0; obtain ⟨hc2, hf2, hl2⟩ := hst.c1; obtain ⟨hc1, hf1, hl1⟩ := hst.c2))
      refine bodyPost_ret (results_cell_tmp rfl _ _ g2 _ (mkAlt b id at_ len u iv).cells _ _ rfl (hst.blk _ (List.mem_cons_of_mem _ List.mem_cons_self)) (Try.underlying23) rfl (by kernel_rfl)) rfl ⟨?_, hst.base⟩
      rw [descV, descE, if_pos HOK.out, if_pos HOK.out, HIv.out]
      rfl
    | false =>
      by_cases hiv : 512 ≤ iv
      · have hIv : descIv b id at_ len u = none := by
          rw [← HI.out]
          cases n with
          | zero => simp [ivFrom, hkv]
          | succ m => simp [ivFrom, hkv]; omega
        have HIv := Lib.hid hIv
        clear hIv
        go_wp2_with (first | ((with_reducible refine at_dst (N := 82) rfl ?_); (refine wpList_load_own hst ⟨g1, b.cells, 23⟩ (by simp) rfl _ rfl rfl _ rfl Try.underlying23 (by kernel_rfl) ?_)) | ((with_reducible refine at_dst (N := 83) rfl ?_); (refine wpList_load_own hst ⟨g3, (mkAlt b id at_ len u iv).cells, 23⟩ (by simp) rfl _ rfl rfl _ rfl Try.underlying23 (by kernel_rfl) ?_)) | (go_at_call 18; refine (HV.out _).mono ?_; rintro e w' ⟨rfl, hb⟩; replace hst := hst.below hb; clear hb; clear hc1 hf1 hc2 hf2 hc3 hf3; obtain ⟨hc3, hf3, hl3⟩ := hst.c0; obtain ⟨hc2, hf2, hl2⟩ := hst.c1; obtain ⟨hc1, hf1, hl1⟩ := hst.c2) | ((with_reducible refine at_store (p := 10) rfl ?_); refine wpList_putB hst rfl _ _ rfl zDS.cells rfl rfl (by kernel_rfl) rfl (by simp [rangeV, Value.oneCell']) ?_; clear hst; intro wp hst; clear hc1 hf1 hc2 hf2 hc3 hf3; obtain ⟨hc3, hf3, hl3⟩ := hst.c0; obtain ⟨hc2, hf2, hl2⟩ := hst.c1; obtain ⟨hc1, hf1, hl1⟩ := hst.c2))
        refine bodyPost_ret (results_cell_tmp rfl _ _ g2 _ zDS.cells _ _ rfl (hst.blk _ (List.mem_cons_of_mem _ List.mem_cons_self)) (Try.underlying23) rfl (by kernel_rfl)) rfl ⟨?_, hst.base⟩
        rw [descV, descE, if_pos HOK.out, if_pos HOK.out, HIv.out]
        rfl
      · go_wp2_with (first | ((with_reducible refine at_dst (N := 82) rfl ?_); (refine wpList_load_own hst ⟨g1, b.cells, 23⟩ (by simp) rfl _ rfl rfl _ rfl Try.underlying23 (by kernel_rfl) ?_)) | ((with_reducible refine at_dst (N := 83) rfl ?_); (refine wpList_load_own hst ⟨g3, (mkAlt b id at_ len u iv).cells, 23⟩ (by simp) rfl _ rfl rfl _ rfl Try.underlying23 (by kernel_rfl) ?_)) | (go_at_call 18; refine (HV.out _).mono ?_; rintro e w' ⟨rfl, hb⟩; replace hst := hst.below hb; clear hb; clear hc1 hf1 hc2 hf2 hc3 hf3; obtain ⟨hc3, hf3, hl3⟩ := hst.c0; obtain ⟨hc2, hf2, hl2⟩ := hst.c1; obtain ⟨hc1, hf1, hl1⟩ := hst.c2))
        go_roundg n
        case measure => omega
        case rel => exact ⟨iv * 2, by omega, by have := v7.out; omega, by omega, by omega, by omega, by omega, by show _ ∨ _; have := v7.out; omega, by show _ = _; rw [← HI.out]; simp [ivFrom, hkv]; omega, (show (2 : Int) * iv = iv * 2 from by omega) ▸ hst.set0 7 (.int .i64 (2 * iv))⟩

set_option maxHeartbeats 2000000 in
set_option maxRecDepth 100000 in
theorem desc26_ok3 (b : DS) (id at_ len : Int) (u : Bool) (w : World) (hB : b.isBase = true) (hid : 1 ≤ id) (hid2 : id ≤ 1099511627776) (hne : (id == b.id) = false) (ha : 0 ≤ at_) (hl : 1 ≤ len) (hlb : len ≤ b.len) (hab : at_ + len ≤ b.len) (hb2 : b.len ≤ 200)
    (hk1 : 1 ≤ b.keySize) (hk2 : b.keySize ≤ 32) (ho : (b.org != 3) = false) (ho1 : b.org = 1 ↔ b.org ≠ 3) (hok : DescOk b id at_ len) (hi1 : 128 ≤ b.intv) (hi2 : b.intv ≤ 512) (hi3 : Hid (b.intv = 128 ∨ b.intv = 256 ∨ b.intv = 512)) :
    Calls Try.prog 16 #[b.v, .int .i64 id, .int .i64 at_, .int .i64 len, .bool u] w fun e w' => e = .returned (.tuple #[(descV b id at_ len u).v, .int .i64 (descE b id at_ len u)]) ∧ Below w.heap.size w w' := by
  have hst := St.start w
  have HOK := Lib.hid hok
  have HO1 := Lib.hid ho1
  clear hok ho1
  go_enter Try.func16, Try.ntmps16
  go_wp2_with (first | ((with_reducible refine at_dst (N := 5) rfl ?_); refine wpList_box hst 23 b.cells rfl ?hr ?_; (case hr => first | (go_simp; done) | (go_simp; rfl)); clear hst; intro g1 w1 hst; obtain ⟨hc1, hf1, hl1⟩ := hst.c0) | ((with_reducible refine at_dst (N := 10) rfl ?_); refine wpList_box hst 23 zDS.cells rfl ?hr ?_; (case hr => first | (go_simp; done) | (go_simp; rfl)); clear hst; intro g2 w2 hst; obtain ⟨hc2, hf2, hl2⟩ := hst.c0) | ((with_reducible refine at_dst (N := 14) rfl ?_); (refine wpList_load_own hst ⟨g1, b.cells, 23⟩ (by simp) rfl _ rfl rfl _ rfl Try.underlying23 (by kernel_rfl) ?_)) | ((with_reducible refine at_dst (N := 48) rfl ?_); (refine wpList_load_own hst ⟨g1, b.cells, 23⟩ (by simp) rfl _ rfl rfl _ rfl Try.underlying23 (by kernel_rfl) ?_)) | ((with_reducible refine at_dst (N := 13) rfl ?_); refine wpList_box hst 23 zDS.cells rfl ?hr ?_; (case hr => first | (go_simp; done) | (go_simp; rfl)); clear hst; intro g3 w3 hst; obtain ⟨hc3, hf3, hl3⟩ := hst.c0)  | (go_at_call 51; refine (isBase26_any b _).mono ?_; rintro e w' ⟨rfl, hb⟩; replace hst := hst.below hb; clear hb; clear hc1 hf1 hc2 hf2; obtain ⟨hc2, hf2, hl2⟩ := hst.c0; obtain ⟨hc1, hf1, hl1⟩ := hst.c1) | (go_at_call 52; refine (between26 _ _ _ _).mono ?_; rintro e w'' ⟨rfl, rfl⟩) | (go_at_call 53; refine (keys26_any b _).mono ?_; rintro e w' ⟨rfl, hb⟩; replace hst := hst.below hb; clear hb; clear hc1 hf1 hc2 hf2; obtain ⟨hc2, hf2, hl2⟩ := hst.c0; obtain ⟨hc1, hf1, hl1⟩ := hst.c1)  | ((with_reducible refine at_store (p := 13) rfl ?_); refine wpList_put0 hst rfl _ _ rfl (mk26 b id at_ len u b.area b.intv).cells rfl rfl (by kernel_rfl) rfl (by simp [rangeV, Value.oneCell']) ?_; clear hst; intro wp hst; clear hc1 hf1 hc2 hf2 hc3 hf3; obtain ⟨hc3, hf3, hl3⟩ := hst.c0; obtain ⟨hc2, hf2, hl2⟩ := hst.c1; obtain ⟨hc1, hf1, hl1⟩ := hst.c2))
  go_loopg [11] 4 (fun kq _ w' => ∃ iv : Int, 128 ≤ iv ∧ iv ≤ 512 ∧ (kq = 0 → 512 < iv) ∧ (kq = 1 → 512 < iv) ∧ (kq = 2 → 256 < iv) ∧ (kq = 3 → 128 < iv) ∧ Hid (iv = 128 ∨ iv = 256 ∨ iv = 512) ∧ Hid (ivFrom (mkAlt b id at_ len u) kq iv = descIv b id at_ len u) ∧ St w w' [⟨g3, (mkAlt b id at_ len u iv).cells, 23⟩, ⟨g2, zDS.cells, 23⟩, ⟨g1, b.cells, 23⟩])
  case atStart =>
    refine ⟨b.intv, by omega, by omega, by omega, by omega, by omega, by omega, hi3, rfl, ?_⟩
    have e : mkAlt b id at_ len u b.intv = mk26 b id at_ len u b.area b.intv := by unfold mkAlt mk26; rw [if_neg (fun h => absurd (HO1.out.1 h) (by simpa using ho))]
    rw [e]
    exact hst
  case round =>
    clear hst
    obtain ⟨iv, v1, v2, v3, v4, v5, v6, v7, HI, hst⟩ := hrel
    obtain ⟨hc3, hf3, hl3⟩ := hst.c0
    obtain ⟨hc2, hf2, hl2⟩ := hst.c1
    obtain ⟨hc1, hf1, hl1⟩ := hst.c2
    have he : (mkAlt b id at_ len u iv).intv = iv := rfl
    cases gk with
    | zero => exact absurd (v3 rfl) (by omega)
    | succ n =>
    have hv := fun w => valid26_any b (mkAlt b id at_ len u iv) w
    rw [altOf_mk HOK.out] at hv
    have HV := Lib.hid hv
    clear hv
    cases hkv : (mkAlt b id at_ len u iv).kvalid with
    | true =>
      have hIv : descIv b id at_ len u = some iv := by rw [← HI.out]; simp [ivFrom, hkv]; omega
      have HIv := Lib.hid hIv
      clear hIv
      go_wp2_with (first | ((with_reducible refine at_dst (N := 82) rfl ?_); (refine wpList_load_own hst ⟨g1, b.cells, 23⟩ (by simp) rfl _ rfl rfl _ rfl Try.underlying23 (by kernel_rfl) ?_)) | ((with_reducible refine at_dst (N := 83) rfl ?_); (refine wpList_load_own hst ⟨g3, (mkAlt b id at_ len u iv).cells, 23⟩ (by simp) rfl _ rfl rfl _ rfl Try.underlying23 (by kernel_rfl) ?_)) | ((with_reducible refine at_dst (N := 94) rfl ?_); (refine wpList_load_own hst ⟨g3, (mkAlt b id at_ len u iv).cells, 23⟩ (by simp) rfl _ rfl rfl _ rfl Try.underlying23 (by kernel_rfl) ?_)) | (go_at_call 18; refine (HV.out _).mono ?_; rintro e w' ⟨rfl, hb⟩; replace hst := hst.below hb; clear hb; clear hc1 hf1 hc2 hf2 hc3 hf3; obtain ⟨hc3, hf3, hl3⟩ := hst.c0; obtain ⟨hc2, hf2, hl2⟩ := hst.c1; obtain ⟨hc1, hf1, hl1⟩ := hst.c2) | ((with_reducible refine at_store (p := 10) rfl ?_); refine wpList_putB hst rfl _ _ rfl (mkAlt b id at_ len u iv).cells rfl rfl (by kernel_rfl) rfl (by simp [rangeV, Value.oneCell']) ?_; clear hst; intro wp hst; clear hc1 hf1 hc2 hf2 hc3 hf3; obtain ⟨hc3, hf3, hl3⟩ := hst.c0; obtain ⟨hc2, hf2, hl2⟩ := hst.c1; obtain ⟨hc1, hf1, hl1⟩ := hst.c2))
      refine bodyPost_ret (results_cell_tmp rfl _ _ g2 _ (mkAlt b id at_ len u iv).cells _ _ rfl (hst.blk _ (List.mem_cons_of_mem _ List.mem_cons_self)) (Try.underlying23) rfl (by kernel_rfl)) rfl ⟨?_, hst.base⟩
      rw [descV, descE, if_pos HOK.out, if_pos HOK.out, HIv.out]
      rfl
    | false =>
      by_cases hiv : 512 ≤ iv
      · have hIv : descIv b id at_ len u = none := by
          rw [← HI.out]
          cases n with
          | zero => simp [ivFrom, hkv]
          | succ m => simp [ivFrom, hkv]; omega
        have HIv := Lib.hid hIv
        clear hIv
        go_wp2_with (first | ((with_reducible refine at_dst (N := 82) rfl ?_); (refine wpList_load_own hst ⟨g1, b.cells, 23⟩ (by simp) rfl _ rfl rfl _ rfl Try.underlying23 (by kernel_rfl) ?_)) | ((with_reducible refine at_dst (N := 83) rfl ?_); (refine wpList_load_own hst ⟨g3, (mkAlt b id at_ len u iv).cells, 23⟩ (by simp) rfl _ rfl rfl _ rfl Try.underlying23 (by kernel_rfl) ?_)) | (go_at_call 18; refine (HV.out _).mono ?_; rintro e w' ⟨rfl, hb⟩; replace hst := hst.below hb; clear hb; clear hc1 hf1 hc2 hf2 hc3 hf3; obtain ⟨hc3, hf3, hl3⟩ := hst.c0; obtain ⟨hc2, hf2, hl2⟩ := hst.c1; obtain ⟨hc1, hf1, hl1⟩ := hst.c2) | ((with_reducible refine at_store (p := 10) rfl ?_); refine wpList_putB hst rfl _ _ rfl zDS.cells rfl rfl (by kernel_rfl) rfl (by simp [rangeV, Value.oneCell']) ?_; clear hst; intro wp hst; clear hc1 hf1 hc2 hf2 hc3 hf3; obtain ⟨hc3, hf3, hl3⟩ := hst.c0; obtain ⟨hc2, hf2, hl2⟩ := hst.c1; obtain ⟨hc1, hf1, hl1⟩ := hst.c2))
        refine bodyPost_ret (results_cell_tmp rfl _ _ g2 _ zDS.cells _ _ rfl (hst.blk _ (List.mem_cons_of_mem _ List.mem_cons_self)) (Try.underlying23) rfl (by kernel_rfl)) rfl ⟨?_, hst.base⟩
        rw [descV, descE, if_pos HOK.out, if_pos HOK.out, HIv.out]
        rfl
      · go_wp2_with (first | ((with_reducible refine at_dst (N := 82) rfl ?_); (refine wpList_load_own hst ⟨g1, b.cells, 23⟩ (by simp) rfl _ rfl rfl _ rfl Try.underlying23 (by kernel_rfl) ?_)) | ((with_reducible refine at_dst (N := 83) rfl ?_); (refine wpList_load_own hst ⟨g3, (mkAlt b id at_ len u iv).cells, 23⟩ (by simp) rfl _ rfl rfl _ rfl Try.underlying23 (by kernel_rfl) ?_)) | (go_at_call 18; refine (HV.out _).mono ?_; rintro e w' ⟨rfl, hb⟩; replace hst := hst.below hb; clear hb; clear hc1 hf1 hc2 hf2 hc3 hf3; obtain ⟨hc3, hf3, hl3⟩ := hst.c0; obtain ⟨hc2, hf2, hl2⟩ := hst.c1; obtain ⟨hc1, hf1, hl1⟩ := hst.c2))
        go_roundg n
        case measure => omega
        case rel => exact ⟨iv * 2, by omega, by have := v7.out; omega, by omega, by omega, by omega, by omega, by show _ ∨ _; have := v7.out; omega, by show _ = _; rw [← HI.out]; simp [ivFrom, hkv]; omega, (show (2 : Int) * iv = iv * 2 from by omega) ▸ hst.set0 7 (.int .i64 (2 * iv))⟩

set_option maxHeartbeats 2000000 in
set_option maxRecDepth 100000 in
theorem desc26_no (b : DS) (id at_ len : Int) (u : Bool) (w : World) (p : Bool) (hB : b.isBase = p) (hb : p = true → 1 ≤ b.len ∧ b.len ≤ 200)
    (hno : p = true → ¬ ((1 ≤ id ∧ id ≤ 1099511627776) ∧ id ≠ b.id ∧ 0 ≤ at_ ∧ 1 ≤ len ∧ len ≤ b.len ∧ at_ ≤ b.len - len)) :
    Calls Try.prog 16 #[b.v, .int .i64 id, .int .i64 at_, .int .i64 len, .bool u] w fun e w' => e = .returned (.tuple #[zDS.v, .int .i64 1]) ∧ Below w.heap.size w w' := by
  have hst := St.start w
  cases p with
  | false =>
    clear hb hno
    go_enter Try.func16, Try.ntmps16
    go_wp2_with (first | ((with_reducible refine at_dst (N := 5) rfl ?_); refine wpList_box hst 23 b.cells rfl ?hr ?_; (case hr => first | (go_simp; done) | (go_simp; rfl)); clear hst; intro g1 w1 hst; obtain ⟨hc1, hf1, hl1⟩ := hst.c0) | ((with_reducible refine at_dst (N := 10) rfl ?_); refine wpList_box hst 23 zDS.cells rfl ?hr ?_; (case hr => first | (go_simp; done) | (go_simp; rfl)); clear hst; intro g2 w2 hst; obtain ⟨hc2, hf2, hl2⟩ := hst.c0) | ((with_reducible refine at_dst (N := 14) rfl ?_); (refine wpList_load_own hst ⟨g1, b.cells, 23⟩ (by simp) rfl _ rfl rfl _ rfl Try.underlying23 (by kernel_rfl) ?_))  | (go_at_call 51; refine (isBase26_any b _).mono ?_; rintro e w' ⟨rfl, hb⟩; replace hst := hst.below hb; clear hb; clear hc1 hf1 hc2 hf2; obtain ⟨hc2, hf2, hl2⟩ := hst.c0; obtain ⟨hc1, hf1, hl1⟩ := hst.c1) | (go_at_call 52; refine (between26 _ _ _ _).mono ?_; rintro e w'' ⟨rfl, rfl⟩) | ((with_reducible refine at_store (p := 10) rfl ?_); refine wpList_put0 hst rfl _ _ rfl zDS.cells rfl rfl (by kernel_rfl) rfl (by simp [rangeV, Value.oneCell']) ?_; clear hst; intro wp hst; clear hc1 hf1 hc2 hf2; obtain ⟨hc2, hf2, hl2⟩ := hst.c0; obtain ⟨hc1, hf1, hl1⟩ := hst.c1))
    refine bodyPost_ret (results_cell_tmp rfl _ _ g2 _ zDS.cells _ _ rfl (hst.blk _ List.mem_cons_self) (Try.underlying23) rfl (by kernel_rfl)) rfl ⟨rfl, hst.base⟩
  | true =>
    have hno' := hno rfl
    obtain ⟨hb1, hb2⟩ := hb rfl
    have HNO := Lib.hid hno'
    clear hno' hno hb
    by_cases h1 : 1 ≤ id ∧ id ≤ 1099511627776
    · obtain ⟨hid1, hid2⟩ := h1
      cases h2 : (id == b.id) with
      | true =>
        go_enter Try.func16, Try.ntmps16
        go_wp2_with (first | ((with_reducible refine at_dst (N := 5) rfl ?_); refine wpList_box hst 23 b.cells rfl ?hr ?_; (case hr => first | (go_simp; done) | (go_simp; rfl)); clear hst; intro g1 w1 hst; obtain ⟨hc1, hf1, hl1⟩ := hst.c0) | ((with_reducible refine at_dst (N := 10) rfl ?_); refine wpList_box hst 23 zDS.cells rfl ?hr ?_; (case hr => first | (go_simp; done) | (go_simp; rfl)); clear hst; intro g2 w2 hst; obtain ⟨hc2, hf2, hl2⟩ := hst.c0) | ((with_reducible refine at_dst (N := 14) rfl ?_); (refine wpList_load_own hst ⟨g1, b.cells, 23⟩ (by simp) rfl _ rfl rfl _ rfl Try.underlying23 (by kernel_rfl) ?_))  | (go_at_call 51; refine (isBase26_any b _).mono ?_; rintro e w' ⟨rfl, hb⟩; replace hst := hst.below hb; clear hb; clear hc1 hf1 hc2 hf2; obtain ⟨hc2, hf2, hl2⟩ := hst.c0; obtain ⟨hc1, hf1, hl1⟩ := hst.c1) | (go_at_call 52; refine (between26 _ _ _ _).mono ?_; rintro e w'' ⟨rfl, rfl⟩) | ((with_reducible refine at_store (p := 10) rfl ?_); refine wpList_put0 hst rfl _ _ rfl zDS.cells rfl rfl (by kernel_rfl) rfl (by simp [rangeV, Value.oneCell']) ?_; clear hst; intro wp hst; clear hc1 hf1 hc2 hf2; obtain ⟨hc2, hf2, hl2⟩ := hst.c0; obtain ⟨hc1, hf1, hl1⟩ := hst.c1))
        refine bodyPost_ret (results_cell_tmp rfl _ _ g2 _ zDS.cells _ _ rfl (hst.blk _ List.mem_cons_self) (Try.underlying23) rfl (by kernel_rfl)) rfl ⟨rfl, hst.base⟩
      | false =>
        have hno2 : ¬ (0 ≤ at_ ∧ 1 ≤ len ∧ len ≤ b.len ∧ at_ ≤ b.len - len) := by
          have := HNO.out
          have e2 : id ≠ b.id := by simpa using h2
          intro h
          exact this ⟨⟨hid1, hid2⟩, e2, h⟩
        rcases (show at_ < 0 ∨ 200 < at_ ∨ (0 ≤ at_ ∧ at_ ≤ 200 ∧ len < 1) ∨ (0 ≤ at_ ∧ at_ ≤ 200 ∧ 200 < len) ∨ (0 ≤ at_ ∧ at_ ≤ 200 ∧ 1 ≤ len ∧ len ≤ 200 ∧ b.len < at_ + len) by omega) with ha | ha | ⟨ha1, ha2, ha3⟩ | ⟨ha1, ha2, ha3⟩ | ⟨ha1, ha2, ha3, ha4, ha5⟩
        · clear hno2
          go_enter Try.func16, Try.ntmps16
          go_wp2_with (first | ((with_reducible refine at_dst (N := 5) rfl ?_); refine wpList_box hst 23 b.cells rfl ?hr ?_; (case hr => first | (go_simp; done) | (go_simp; rfl)); clear hst; intro g1 w1 hst; obtain ⟨hc1, hf1, hl1⟩ := hst.c0) | ((with_reducible refine at_dst (N := 10) rfl ?_); refine wpList_box hst 23 zDS.cells rfl ?hr ?_; (case hr => first | (go_simp; done) | (go_simp; rfl)); clear hst; intro g2 w2 hst; obtain ⟨hc2, hf2, hl2⟩ := hst.c0) | ((with_reducible refine at_dst (N := 14) rfl ?_); (refine wpList_load_own hst ⟨g1, b.cells, 23⟩ (by simp) rfl _ rfl rfl _ rfl Try.underlying23 (by kernel_rfl) ?_))  | (go_at_call 51; refine (isBase26_any b _).mono ?_; rintro e w' ⟨rfl, hb⟩; replace hst := hst.below hb; clear hb; clear hc1 hf1 hc2 hf2; obtain ⟨hc2, hf2, hl2⟩ := hst.c0; obtain ⟨hc1, hf1, hl1⟩ := hst.c1) | (go_at_call 52; refine (between26 _ _ _ _).mono ?_; rintro e w'' ⟨rfl, rfl⟩) | ((with_reducible refine at_store (p := 10) rfl ?_); refine wpList_put0 hst rfl _ _ rfl zDS.cells rfl rfl (by kernel_rfl) rfl (by simp [rangeV, Value.oneCell']) ?_; clear hst; intro wp hst; clear hc1 hf1 hc2 hf2; obtain ⟨hc2, hf2, hl2⟩ := hst.c0; obtain ⟨hc1, hf1, hl1⟩ := hst.c1))
          refine bodyPost_ret (results_cell_tmp rfl _ _ g2 _ zDS.cells _ _ rfl (hst.blk _ List.mem_cons_self) (Try.underlying23) rfl (by kernel_rfl)) rfl ⟨rfl, hst.base⟩
        · clear hno2
          go_enter Try.func16, Try.ntmps16
          go_wp2_with (first | ((with_reducible refine at_dst (N := 5) rfl ?_); refine wpList_box hst 23 b.cells rfl ?hr ?_; (case hr => first | (go_simp; done) | (go_simp; rfl)); clear hst; intro g1 w1 hst; obtain ⟨hc1, hf1, hl1⟩ := hst.c0) | ((with_reducible refine at_dst (N := 10) rfl ?_); refine wpList_box hst 23 zDS.cells rfl ?hr ?_; (case hr => first | (go_simp; done) | (go_simp; rfl)); clear hst; intro g2 w2 hst; obtain ⟨hc2, hf2, hl2⟩ := hst.c0) | ((with_reducible refine at_dst (N := 14) rfl ?_); (refine wpList_load_own hst ⟨g1, b.cells, 23⟩ (by simp) rfl _ rfl rfl _ rfl Try.underlying23 (by kernel_rfl) ?_))  | (go_at_call 51; refine (isBase26_any b _).mono ?_; rintro e w' ⟨rfl, hb⟩; replace hst := hst.below hb; clear hb; clear hc1 hf1 hc2 hf2; obtain ⟨hc2, hf2, hl2⟩ := hst.c0; obtain ⟨hc1, hf1, hl1⟩ := hst.c1) | (go_at_call 52; refine (between26 _ _ _ _).mono ?_; rintro e w'' ⟨rfl, rfl⟩) | ((with_reducible refine at_store (p := 10) rfl ?_); refine wpList_put0 hst rfl _ _ rfl zDS.cells rfl rfl (by kernel_rfl) rfl (by simp [rangeV, Value.oneCell']) ?_; clear hst; intro wp hst; clear hc1 hf1 hc2 hf2; obtain ⟨hc2, hf2, hl2⟩ := hst.c0; obtain ⟨hc1, hf1, hl1⟩ := hst.c1))
          refine bodyPost_ret (results_cell_tmp rfl _ _ g2 _ zDS.cells _ _ rfl (hst.blk _ List.mem_cons_self) (Try.underlying23) rfl (by kernel_rfl)) rfl ⟨rfl, hst.base⟩
        · clear hno2
          go_enter Try.func16, Try.ntmps16
          go_wp2_with (first | ((with_reducible refine at_dst (N := 5) rfl ?_); refine wpList_box hst 23 b.cells rfl ?hr ?_; (case hr => first | (go_simp; done) | (go_simp; rfl)); clear hst; intro g1 w1 hst; obtain ⟨hc1, hf1, hl1⟩ := hst.c0) | ((with_reducible refine at_dst (N := 10) rfl ?_); refine wpList_box hst 23 zDS.cells rfl ?hr ?_; (case hr => first | (go_simp; done) | (go_simp; rfl)); clear hst; intro g2 w2 hst; obtain ⟨hc2, hf2, hl2⟩ := hst.c0) | ((with_reducible refine at_dst (N := 14) rfl ?_); (refine wpList_load_own hst ⟨g1, b.cells, 23⟩ (by simp) rfl _ rfl rfl _ rfl Try.underlying23 (by kernel_rfl) ?_))  | (go_at_call 51; refine (isBase26_any b _).mono ?_; rintro e w' ⟨rfl, hb⟩; replace hst := hst.below hb; clear hb; clear hc1 hf1 hc2 hf2; obtain ⟨hc2, hf2, hl2⟩ := hst.c0; obtain ⟨hc1, hf1, hl1⟩ := hst.c1) | (go_at_call 52; refine (between26 _ _ _ _).mono ?_; rintro e w'' ⟨rfl, rfl⟩) | ((with_reducible refine at_store (p := 10) rfl ?_); refine wpList_put0 hst rfl _ _ rfl zDS.cells rfl rfl (by kernel_rfl) rfl (by simp [rangeV, Value.oneCell']) ?_; clear hst; intro wp hst; clear hc1 hf1 hc2 hf2; obtain ⟨hc2, hf2, hl2⟩ := hst.c0; obtain ⟨hc1, hf1, hl1⟩ := hst.c1))
          refine bodyPost_ret (results_cell_tmp rfl _ _ g2 _ zDS.cells _ _ rfl (hst.blk _ List.mem_cons_self) (Try.underlying23) rfl (by kernel_rfl)) rfl ⟨rfl, hst.base⟩
        · clear hno2
          go_enter Try.func16, Try.ntmps16
          go_wp2_with (first | ((with_reducible refine at_dst (N := 5) rfl ?_); refine wpList_box hst 23 b.cells rfl ?hr ?_; (case hr => first | (go_simp; done) | (go_simp; rfl)); clear hst; intro g1 w1 hst; obtain ⟨hc1, hf1, hl1⟩ := hst.c0) | ((with_reducible refine at_dst (N := 10) rfl ?_); refine wpList_box hst 23 zDS.cells rfl ?hr ?_; (case hr => first | (go_simp; done) | (go_simp; rfl)); clear hst; intro g2 w2 hst; obtain ⟨hc2, hf2, hl2⟩ := hst.c0) | ((with_reducible refine at_dst (N := 14) rfl ?_); (refine wpList_load_own hst ⟨g1, b.cells, 23⟩ (by simp) rfl _ rfl rfl _ rfl Try.underlying23 (by kernel_rfl) ?_))  | (go_at_call 51; refine (isBase26_any b _).mono ?_; rintro e w' ⟨rfl, hb⟩; replace hst := hst.below hb; clear hb; clear hc1 hf1 hc2 hf2; obtain ⟨hc2, hf2, hl2⟩ := hst.c0; obtain ⟨hc1, hf1, hl1⟩ := hst.c1) | (go_at_call 52; refine (between26 _ _ _ _).mono ?_; rintro e w'' ⟨rfl, rfl⟩) | ((with_reducible refine at_store (p := 10) rfl ?_); refine wpList_put0 hst rfl _ _ rfl zDS.cells rfl rfl (by kernel_rfl) rfl (by simp [rangeV, Value.oneCell']) ?_; clear hst; intro wp hst; clear hc1 hf1 hc2 hf2; obtain ⟨hc2, hf2, hl2⟩ := hst.c0; obtain ⟨hc1, hf1, hl1⟩ := hst.c1))
          refine bodyPost_ret (results_cell_tmp rfl _ _ g2 _ zDS.cells _ _ rfl (hst.blk _ List.mem_cons_self) (Try.underlying23) rfl (by kernel_rfl)) rfl ⟨rfl, hst.base⟩
        · clear hno2
          go_enter Try.func16, Try.ntmps16
          go_wp2_with (first | ((with_reducible refine at_dst (N := 5) rfl ?_); refine wpList_box hst 23 b.cells rfl ?hr ?_; (case hr => first | (go_simp; done) | (go_simp; rfl)); clear hst; intro g1 w1 hst; obtain ⟨hc1, hf1, hl1⟩ := hst.c0) | ((with_reducible refine at_dst (N := 10) rfl ?_); refine wpList_box hst 23 zDS.cells rfl ?hr ?_; (case hr => first | (go_simp; done) | (go_simp; rfl)); clear hst; intro g2 w2 hst; obtain ⟨hc2, hf2, hl2⟩ := hst.c0) | ((with_reducible refine at_dst (N := 14) rfl ?_); (refine wpList_load_own hst ⟨g1, b.cells, 23⟩ (by simp) rfl _ rfl rfl _ rfl Try.underlying23 (by kernel_rfl) ?_))  | (go_at_call 51; refine (isBase26_any b _).mono ?_; rintro e w' ⟨rfl, hb⟩; replace hst := hst.below hb; clear hb; clear hc1 hf1 hc2 hf2; obtain ⟨hc2, hf2, hl2⟩ := hst.c0; obtain ⟨hc1, hf1, hl1⟩ := hst.c1) | (go_at_call 52; refine (between26 _ _ _ _).mono ?_; rintro e w'' ⟨rfl, rfl⟩) | ((with_reducible refine at_store (p := 10) rfl ?_); refine wpList_put0 hst rfl _ _ rfl zDS.cells rfl rfl (by kernel_rfl) rfl (by simp [rangeV, Value.oneCell']) ?_; clear hst; intro wp hst; clear hc1 hf1 hc2 hf2; obtain ⟨hc2, hf2, hl2⟩ := hst.c0; obtain ⟨hc1, hf1, hl1⟩ := hst.c1))
          refine bodyPost_ret (results_cell_tmp rfl _ _ g2 _ zDS.cells _ _ rfl (hst.blk _ List.mem_cons_self) (Try.underlying23) rfl (by kernel_rfl)) rfl ⟨rfl, hst.base⟩
    · rcases (show id < 1 ∨ 1099511627776 < id by omega) with ha | ha
      · clear h1
        go_enter Try.func16, Try.ntmps16
        go_wp2_with (first | ((with_reducible refine at_dst (N := 5) rfl ?_); refine wpList_box hst 23 b.cells rfl ?hr ?_; (case hr => first | (go_simp; done) | (go_simp; rfl)); clear hst; intro g1 w1 hst; obtain ⟨hc1, hf1, hl1⟩ := hst.c0) | ((with_reducible refine at_dst (N := 10) rfl ?_); refine wpList_box hst 23 zDS.cells rfl ?hr ?_; (case hr => first | (go_simp; done) | (go_simp; rfl)); clear hst; intro g2 w2 hst; obtain ⟨hc2, hf2, hl2⟩ := hst.c0) | ((with_reducible refine at_dst (N := 14) rfl ?_); (refine wpList_load_own hst ⟨g1, b.cells, 23⟩ (by simp) rfl _ rfl rfl _ rfl Try.underlying23 (by kernel_rfl) ?_))  | (go_at_call 51; refine (isBase26_any b _).mono ?_; rintro e w' ⟨rfl, hb⟩; replace hst := hst.below hb; clear hb; clear hc1 hf1 hc2 hf2; obtain ⟨hc2, hf2, hl2⟩ := hst.c0; obtain ⟨hc1, hf1, hl1⟩ := hst.c1) | (go_at_call 52; refine (between26 _ _ _ _).mono ?_; rintro e w'' ⟨rfl, rfl⟩) | ((with_reducible refine at_store (p := 10) rfl ?_); refine wpList_put0 hst rfl _ _ rfl zDS.cells rfl rfl (by kernel_rfl) rfl (by simp [rangeV, Value.oneCell']) ?_; clear hst; intro wp hst; clear hc1 hf1 hc2 hf2; obtain ⟨hc2, hf2, hl2⟩ := hst.c0; obtain ⟨hc1, hf1, hl1⟩ := hst.c1))
        refine bodyPost_ret (results_cell_tmp rfl _ _ g2 _ zDS.cells _ _ rfl (hst.blk _ List.mem_cons_self) (Try.underlying23) rfl (by kernel_rfl)) rfl ⟨rfl, hst.base⟩
      · clear h1
        go_enter Try.func16, Try.ntmps16
        go_wp2_with (first | ((with_reducible refine at_dst (N := 5) rfl ?_); refine wpList_box hst 23 b.cells rfl ?hr ?_; (case hr => first | (go_simp; done) | (go_simp; rfl)); clear hst; intro g1 w1 hst; obtain ⟨hc1, hf1, hl1⟩ := hst.c0) | ((with_reducible refine at_dst (N := 10) rfl ?_); refine wpList_box hst 23 zDS.cells rfl ?hr ?_; (case hr => first | (go_simp; done) | (go_simp; rfl)); clear hst; intro g2 w2 hst; obtain ⟨hc2, hf2, hl2⟩ := hst.c0) | ((with_reducible refine at_dst (N := 14) rfl ?_); (refine wpList_load_own hst ⟨g1, b.cells, 23⟩ (by simp) rfl _ rfl rfl _ rfl Try.underlying23 (by kernel_rfl) ?_))  | (go_at_call 51; refine (isBase26_any b _).mono ?_; rintro e w' ⟨rfl, hb⟩; replace hst := hst.below hb; clear hb; clear hc1 hf1 hc2 hf2; obtain ⟨hc2, hf2, hl2⟩ := hst.c0; obtain ⟨hc1, hf1, hl1⟩ := hst.c1) | (go_at_call 52; refine (between26 _ _ _ _).mono ?_; rintro e w'' ⟨rfl, rfl⟩) | ((with_reducible refine at_store (p := 10) rfl ?_); refine wpList_put0 hst rfl _ _ rfl zDS.cells rfl rfl (by kernel_rfl) rfl (by simp [rangeV, Value.oneCell']) ?_; clear hst; intro wp hst; clear hc1 hf1 hc2 hf2; obtain ⟨hc2, hf2, hl2⟩ := hst.c0; obtain ⟨hc1, hf1, hl1⟩ := hst.c1))
        refine bodyPost_ret (results_cell_tmp rfl _ _ g2 _ zDS.cells _ _ rfl (hst.blk _ List.mem_cons_self) (Try.underlying23) rfl (by kernel_rfl)) rfl ⟨rfl, hst.base⟩

theorem DescOk.facts26 {b : DS} {id at_ len : Int} (h : DescOk b id at_ len) : b.isBase = true ∧ (1 ≤ id ∧ id ≤ 1099511627776) ∧ (id == b.id) = false ∧ b.len ≤ 200 ∧ 1 ≤ b.keySize ∧ b.keySize ≤ 32 ∧ 128 ≤ b.intv ∧ b.intv ≤ 512 ∧ Hid (b.intv = 128 ∨ b.intv = 256 ∨ b.intv = 512) ∧ (b.org = 1 ↔ b.org ≠ 3) := by
  obtain ⟨h1, h2, h3, h4⟩ := h
  have hb := h1.1.bounds
  have hk := DS.keySize_bounds h1.1
  exact ⟨(DS.isBase_iff b).2 h1, h2, by simpa using h3, by omega, hk.1, hk.2, by omega, by omega, h1.1.1, by have := h1.2.2.2; omega⟩

theorem desc26_any (b : DS) (id at_ len : Int) (u : Bool) (w : World) :
    Calls Try.prog 16 #[b.v, .int .i64 id, .int .i64 at_, .int .i64 len, .bool u] w fun e w' => e = .returned (.tuple #[(descV b id at_ len u).v, .int .i64 (descE b id at_ len u)]) ∧ Below w.heap.size w w' := by
  by_cases h : DescOk b id at_ len
  · obtain ⟨f1, f2, f3, f4, f5, f6, f7, f8, f9, f10⟩ := h.facts26
    obtain ⟨h1, h2, h3, h4, h5, h6, h7⟩ := (show DescOk b id at_ len from h)
    cases ho : (b.org != 3) with
    | true => exact desc26_ok1 b id at_ len u w f1 f2.1 f2.2 f3 h4 h5 h6 (by omega) f4 f5 f6 ho f10 h f7 f8 f9
    | false => exact desc26_ok3 b id at_ len u w f1 f2.1 f2.2 f3 h4 h5 h6 (by omega) f4 f5 f6 ho f10 h f7 f8 f9
  · have e1 : descV b id at_ len u = zDS := if_neg h
    have e2 : descE b id at_ len u = 1 := if_neg h
    rw [e1, e2]
    refine desc26_no b id at_ len u w _ rfl (fun hp => ?_) (fun hp hn => h ⟨(DS.isBase_iff b).1 hp, hn⟩)
    have := ((DS.isBase_iff b).1 hp).1.bounds
    omega
end Go.Proofs.Ytcdlcdibcekahaa
