/- The package alternate: Describe. -/
import Derived.Test.YtcdlcdibcekahaaAlt2
import Derived.Test.YtcdlcdibcekahaaSpecDesc
namespace Go.Proofs.Ytcdlcdibcekahaa
open Go.RowKit
set_option linter.unusedSimpArgs false
set_option linter.unusedVariables false

def mk1 (b : DS) (id at_ len : Int) (u : Bool) (area iv : Int) : DS :=
  ⟨id, 3, 0, len + b.keySize, 0, 0, len + b.keySize, iv, area, b.freeI, b.freeA, b.id, at_, len, u, b.cls, b.vol, b.own, b.created, b.expires, false⟩

abbrev ecells (d : DS) : Array Value := d.cells

set_option maxHeartbeats 2000000 in
set_option maxRecDepth 100000 in
theorem desc_ok1 (b : DS) (id at_ len : Int) (u : Bool) (w : World) (hB : b.isBase = true) (hid : isIdB id = true) (hne : (id == b.id) = false) (ha : 0 ≤ at_) (hl : 1 ≤ len) (hlb : len ≤ b.len) (hab : at_ ≤ b.len - len) (hb2 : b.len ≤ 200)
    (hk1 : 1 ≤ b.keySize) (hk2 : b.keySize ≤ 32) (ho : (b.org == 1) = true) (hok : DescOk b id at_ len) (hi1 : 128 ≤ b.intv) (hi2 : b.intv ≤ 512) :
    Calls Try.prog 15 #[b.v, .int .i64 id, .int .i64 at_, .int .i64 len, .bool u] w fun e w' => e = .returned (.tuple #[(descV b id at_ len u).v, .int .i64 (descE b id at_ len u)]) ∧ Below w.heap.size w w' := by
  have hst := St.start w
  have HOK := Lib.hid hok
  clear hok
  go_enter Try.func15, Try.ntmps15
  go_wp2_with (first | ((with_reducible refine at_dst (N := 5) rfl ?_); refine wpList_box hst 23 b.cells rfl ?hr ?_; (case hr => first | (go_simp; done) | (go_simp; rfl)); clear hst; intro g1 w1 hst; obtain ⟨hc1, hf1, hl1⟩ := hst.c0) | ((with_reducible refine at_dst (N := 10) rfl ?_); refine wpList_box hst 23 zDS.cells rfl ?hr ?_; (case hr => first | (go_simp; done) | (go_simp; rfl)); clear hst; intro g2 w2 hst; obtain ⟨hc2, hf2, hl2⟩ := hst.c0) | ((with_reducible refine at_dst (N := 14) rfl ?_); (refine wpList_load_own hst ⟨g1, b.cells, 23⟩ (by simp) rfl _ rfl rfl _ rfl Try.underlying23 (by kernel_rfl) ?_)) | ((with_reducible refine at_dst (N := 52) rfl ?_); (refine wpList_load_own hst ⟨g1, b.cells, 23⟩ (by simp) rfl _ rfl rfl _ rfl Try.underlying23 (by kernel_rfl) ?_)) | ((with_reducible refine at_dst (N := 13) rfl ?_); refine wpList_box hst 23 zDS.cells rfl ?hr ?_; (case hr => first | (go_simp; done) | (go_simp; rfl)); clear hst; intro g3 w3 hst; obtain ⟨hc3, hf3, hl3⟩ := hst.c0)  | (go_at_call 47; refine (isBase_any b _).mono ?_; rintro e w' ⟨rfl, hb⟩; replace hst := hst.below hb; clear hb; clear hc1 hf1 hc2 hf2; obtain ⟨hc2, hf2, hl2⟩ := hst.c0; obtain ⟨hc1, hf1, hl1⟩ := hst.c1) | (go_at_call 48; refine (isId_any _ _).mono ?_; rintro e w'' ⟨rfl, rfl⟩) | (go_at_call 49; refine (keySize_any b _).mono ?_; rintro e w' ⟨rfl, hb⟩; replace hst := hst.below hb; clear hb; clear hc1 hf1 hc2 hf2; obtain ⟨hc2, hf2, hl2⟩ := hst.c0; obtain ⟨hc1, hf1, hl1⟩ := hst.c1)  | ((with_reducible refine at_store (p := 13) rfl ?_); refine wpList_put0 hst rfl _ _ rfl (mk1 b id at_ len u b.area 0).cells rfl rfl (by kernel_rfl) rfl (by simp [rangeV, Value.oneCell']) ?_; clear hst; intro wp hst; clear hc1 hf1 hc2 hf2 hc3 hf3; obtain ⟨hc3, hf3, hl3⟩ := hst.c0; obtain ⟨hc2, hf2, hl2⟩ := hst.c1; obtain ⟨hc1, hf1, hl1⟩ := hst.c2))
  go_loopg [11] 4 (fun kq _ w' => ∃ iv : Int, 128 ≤ iv ∧ iv ≤ 1024 ∧ (kq = 0 → 1024 < iv) ∧ (kq = 1 → 512 < iv) ∧ (kq = 2 → 256 < iv) ∧ (kq = 3 → 128 < iv) ∧ Hid (ivFrom (mkAlt b id at_ len u) kq iv = descIv b id at_ len u) ∧ St w w' [⟨g3, (mkAlt b id at_ len u iv).cells, 23⟩, ⟨g2, zDS.cells, 23⟩, ⟨g1, b.cells, 23⟩])
  case atStart =>
    refine ⟨b.intv, by omega, by omega, by omega, by omega, by omega, by omega, rfl, ?_⟩
    have e : mkAlt b id at_ len u b.intv = mk1 b id at_ len u 4 b.intv := by unfold mkAlt mk1; rw [if_pos (by simpa using ho)]
    rw [e]
    exact (hst.set0 8 (.int .i64 4)).set0 7 (.int .i64 b.intv)
  case round =>
    clear hst
    obtain ⟨iv, v1, v2, v3, v4, v5, v6, HI, hst⟩ := hrel
    obtain ⟨hc3, hf3, hl3⟩ := hst.c0
    obtain ⟨hc2, hf2, hl2⟩ := hst.c1
    obtain ⟨hc1, hf1, hl1⟩ := hst.c2
    have he : (mkAlt b id at_ len u iv).intv = iv := rfl
    cases gk with
    | zero => exact absurd (v3 rfl) (by omega)
    | succ n =>
    by_cases hiv : iv ≤ 512
    · cases hkv : (mkAlt b id at_ len u iv).kvalid with
      | true =>
        have hIv : descIv b id at_ len u = some iv := by rw [← HI.out]; simp [ivFrom, hkv]; omega
        have HIv := Lib.hid hIv
        clear hIv
        go_wp2_with (first | ((with_reducible refine at_dst (N := 94) rfl ?_); (refine wpList_load_own hst ⟨g3, (mkAlt b id at_ len u iv).cells, 23⟩ (by simp) rfl _ rfl rfl _ rfl Try.underlying23 (by kernel_rfl) ?_)) | ((with_reducible refine at_dst (N := 96) rfl ?_); (refine wpList_load_own hst ⟨g3, (mkAlt b id at_ len u iv).cells, 23⟩ (by simp) rfl _ rfl rfl _ rfl Try.underlying23 (by kernel_rfl) ?_)) | (go_at_call 50; refine (kvalid_any (mkAlt b id at_ len u iv) _).mono ?_; rintro e w' ⟨rfl, hb⟩; replace hst := hst.below hb; clear hb; clear hc1 hf1 hc2 hf2 hc3 hf3; obtain ⟨hc3, hf3, hl3⟩ := hst.c0; obtain ⟨hc2, hf2, hl2⟩ := hst.c1; obtain ⟨hc1, hf1, hl1⟩ := hst.c2) | ((with_reducible refine at_store (p := 10) rfl ?_); refine wpList_putB hst rfl _ _ rfl (mkAlt b id at_ len u iv).cells rfl rfl (by kernel_rfl) rfl (by simp [rangeV, Value.oneCell']) ?_; clear hst; intro wp hst; clear hc1 hf1 hc2 hf2 hc3 hf3; obtain ⟨hc3, hf3, hl3⟩ := hst.c0; obtain ⟨hc2, hf2, hl2⟩ := hst.c1; obtain ⟨hc1, hf1, hl1⟩ := hst.c2))
        refine bodyPost_ret (results_cell_tmp rfl _ _ g2 _ (mkAlt b id at_ len u iv).cells _ _ rfl (hst.blk _ (List.mem_cons_of_mem _ List.mem_cons_self)) (Try.underlying23) rfl (by kernel_rfl)) rfl ⟨?_, hst.base⟩
        rw [descV, descE, if_pos HOK.out, if_pos HOK.out, HIv.out]
        rfl
      | false =>
        go_wp2_with (first | ((with_reducible refine at_dst (N := 94) rfl ?_); (refine wpList_load_own hst ⟨g3, (mkAlt b id at_ len u iv).cells, 23⟩ (by simp) rfl _ rfl rfl _ rfl Try.underlying23 (by kernel_rfl) ?_)) | (go_at_call 50; refine (kvalid_any (mkAlt b id at_ len u iv) _).mono ?_; rintro e w' ⟨rfl, hb⟩; replace hst := hst.below hb; clear hb; clear hc1 hf1 hc2 hf2 hc3 hf3; obtain ⟨hc3, hf3, hl3⟩ := hst.c0; obtain ⟨hc2, hf2, hl2⟩ := hst.c1; obtain ⟨hc1, hf1, hl1⟩ := hst.c2))
        go_roundg n
        case measure => omega
        case rel => exact ⟨iv * 2, by omega, by omega, by omega, by omega, by omega, by omega, by show _ = _; rw [← HI.out]; simp [ivFrom, hkv]; omega, hst.set0 7 (.int .i64 (iv * 2))⟩
    · have hIv : descIv b id at_ len u = none := by rw [← HI.out]; simp [ivFrom]; omega
      have HIv := Lib.hid hIv
      clear hIv
      go_wp2_with (first | ((with_reducible refine at_store (p := 10) rfl ?_); refine wpList_putB hst rfl _ _ rfl zDS.cells rfl rfl (by kernel_rfl) rfl (by simp [rangeV, Value.oneCell']) ?_; clear hst; intro wp hst; clear hc1 hf1 hc2 hf2 hc3 hf3; obtain ⟨hc3, hf3, hl3⟩ := hst.c0; obtain ⟨hc2, hf2, hl2⟩ := hst.c1; obtain ⟨hc1, hf1, hl1⟩ := hst.c2))
      refine bodyPost_ret (results_cell_tmp rfl _ _ g2 _ zDS.cells _ _ rfl (hst.blk _ (List.mem_cons_of_mem _ List.mem_cons_self)) (Try.underlying23) rfl (by kernel_rfl)) rfl ⟨?_, hst.base⟩
      rw [descV, descE, if_pos HOK.out, if_pos HOK.out, HIv.out]
      rfl

set_option maxHeartbeats 2000000 in
set_option maxRecDepth 100000 in
theorem desc_ok3 (b : DS) (id at_ len : Int) (u : Bool) (w : World) (hB : b.isBase = true) (hid : isIdB id = true) (hne : (id == b.id) = false) (ha : 0 ≤ at_) (hl : 1 ≤ len) (hlb : len ≤ b.len) (hab : at_ ≤ b.len - len) (hb2 : b.len ≤ 200)
    (hk1 : 1 ≤ b.keySize) (hk2 : b.keySize ≤ 32) (ho : (b.org == 1) = false) (hok : DescOk b id at_ len) (hi1 : 128 ≤ b.intv) (hi2 : b.intv ≤ 512) :
    Calls Try.prog 15 #[b.v, .int .i64 id, .int .i64 at_, .int .i64 len, .bool u] w fun e w' => e = .returned (.tuple #[(descV b id at_ len u).v, .int .i64 (descE b id at_ len u)]) ∧ Below w.heap.size w w' := by
  have hst := St.start w
  have HOK := Lib.hid hok
  clear hok
  go_enter Try.func15, Try.ntmps15
  go_wp2_with (first | ((with_reducible refine at_dst (N := 5) rfl ?_); refine wpList_box hst 23 b.cells rfl ?hr ?_; (case hr => first | (go_simp; done) | (go_simp; rfl)); clear hst; intro g1 w1 hst; obtain ⟨hc1, hf1, hl1⟩ := hst.c0) | ((with_reducible refine at_dst (N := 10) rfl ?_); refine wpList_box hst 23 zDS.cells rfl ?hr ?_; (case hr => first | (go_simp; done) | (go_simp; rfl)); clear hst; intro g2 w2 hst; obtain ⟨hc2, hf2, hl2⟩ := hst.c0) | ((with_reducible refine at_dst (N := 14) rfl ?_); (refine wpList_load_own hst ⟨g1, b.cells, 23⟩ (by simp) rfl _ rfl rfl _ rfl Try.underlying23 (by kernel_rfl) ?_)) | ((with_reducible refine at_dst (N := 52) rfl ?_); (refine wpList_load_own hst ⟨g1, b.cells, 23⟩ (by simp) rfl _ rfl rfl _ rfl Try.underlying23 (by kernel_rfl) ?_)) | ((with_reducible refine at_dst (N := 13) rfl ?_); refine wpList_box hst 23 zDS.cells rfl ?hr ?_; (case hr => first | (go_simp; done) | (go_simp; rfl)); clear hst; intro g3 w3 hst; obtain ⟨hc3, hf3, hl3⟩ := hst.c0)  | (go_at_call 47; refine (isBase_any b _).mono ?_; rintro e w' ⟨rfl, hb⟩; replace hst := hst.below hb; clear hb; clear hc1 hf1 hc2 hf2; obtain ⟨hc2, hf2, hl2⟩ := hst.c0; obtain ⟨hc1, hf1, hl1⟩ := hst.c1) | (go_at_call 48; refine (isId_any _ _).mono ?_; rintro e w'' ⟨rfl, rfl⟩) | (go_at_call 49; refine (keySize_any b _).mono ?_; rintro e w' ⟨rfl, hb⟩; replace hst := hst.below hb; clear hb; clear hc1 hf1 hc2 hf2; obtain ⟨hc2, hf2, hl2⟩ := hst.c0; obtain ⟨hc1, hf1, hl1⟩ := hst.c1)  | ((with_reducible refine at_store (p := 13) rfl ?_); refine wpList_put0 hst rfl _ _ rfl (mk1 b id at_ len u b.area 0).cells rfl rfl (by kernel_rfl) rfl (by simp [rangeV, Value.oneCell']) ?_; clear hst; intro wp hst; clear hc1 hf1 hc2 hf2 hc3 hf3; obtain ⟨hc3, hf3, hl3⟩ := hst.c0; obtain ⟨hc2, hf2, hl2⟩ := hst.c1; obtain ⟨hc1, hf1, hl1⟩ := hst.c2))
  go_loopg [11] 4 (fun kq _ w' => ∃ iv : Int, 128 ≤ iv ∧ iv ≤ 1024 ∧ (kq = 0 → 1024 < iv) ∧ (kq = 1 → 512 < iv) ∧ (kq = 2 → 256 < iv) ∧ (kq = 3 → 128 < iv) ∧ Hid (ivFrom (mkAlt b id at_ len u) kq iv = descIv b id at_ len u) ∧ St w w' [⟨g3, (mkAlt b id at_ len u iv).cells, 23⟩, ⟨g2, zDS.cells, 23⟩, ⟨g1, b.cells, 23⟩])
  case atStart =>
    refine ⟨b.intv, by omega, by omega, by omega, by omega, by omega, by omega, rfl, ?_⟩
    have e : mkAlt b id at_ len u b.intv = mk1 b id at_ len u b.area b.intv := by unfold mkAlt mk1; rw [if_neg (by simpa using ho)]
    rw [e]
    exact hst.set0 7 (.int .i64 b.intv)
  case round =>
    clear hst
    obtain ⟨iv, v1, v2, v3, v4, v5, v6, HI, hst⟩ := hrel
    obtain ⟨hc3, hf3, hl3⟩ := hst.c0
    obtain ⟨hc2, hf2, hl2⟩ := hst.c1
    obtain ⟨hc1, hf1, hl1⟩ := hst.c2
    have he : (mkAlt b id at_ len u iv).intv = iv := rfl
    cases gk with
    | zero => exact absurd (v3 rfl) (by omega)
    | succ n =>
    by_cases hiv : iv ≤ 512
    · cases hkv : (mkAlt b id at_ len u iv).kvalid with
      | true =>
        have hIv : descIv b id at_ len u = some iv := by rw [← HI.out]; simp [ivFrom, hkv]; omega
        have HIv := Lib.hid hIv
        clear hIv
        go_wp2_with (first | ((with_reducible refine at_dst (N := 94) rfl ?_); (refine wpList_load_own hst ⟨g3, (mkAlt b id at_ len u iv).cells, 23⟩ (by simp) rfl _ rfl rfl _ rfl Try.underlying23 (by kernel_rfl) ?_)) | ((with_reducible refine at_dst (N := 96) rfl ?_); (refine wpList_load_own hst ⟨g3, (mkAlt b id at_ len u iv).cells, 23⟩ (by simp) rfl _ rfl rfl _ rfl Try.underlying23 (by kernel_rfl) ?_)) | (go_at_call 50; refine (kvalid_any (mkAlt b id at_ len u iv) _).mono ?_; rintro e w' ⟨rfl, hb⟩; replace hst := hst.below hb; clear hb; clear hc1 hf1 hc2 hf2 hc3 hf3; obtain ⟨hc3, hf3, hl3⟩ := hst.c0; obtain ⟨hc2, hf2, hl2⟩ := hst.c1; obtain ⟨hc1, hf1, hl1⟩ := hst.c2) | ((with_reducible refine at_store (p := 10) rfl ?_); refine wpList_putB hst rfl _ _ rfl (mkAlt b id at_ len u iv).cells rfl rfl (by kernel_rfl) rfl (by simp [rangeV, Value.oneCell']) ?_; clear hst; intro wp hst; clear hc1 hf1 hc2 hf2 hc3 hf3; obtain ⟨hc3, hf3, hl3⟩ := hst.c0; obtain ⟨hc2, hf2, hl2⟩ := hst.c1; obtain ⟨hc1, hf1, hl1⟩ := hst.c2))
        refine bodyPost_ret (results_cell_tmp rfl _ _ g2 _ (mkAlt b id at_ len u iv).cells _ _ rfl (hst.blk _ (List.mem_cons_of_mem _ List.mem_cons_self)) (Try.underlying23) rfl (by kernel_rfl)) rfl ⟨?_, hst.base⟩
        rw [descV, descE, if_pos HOK.out, if_pos HOK.out, HIv.out]
        rfl
      | false =>
        go_wp2_with (first | ((with_reducible refine at_dst (N := 94) rfl ?_); (refine wpList_load_own hst ⟨g3, (mkAlt b id at_ len u iv).cells, 23⟩ (by simp) rfl _ rfl rfl _ rfl Try.underlying23 (by kernel_rfl) ?_)) | (go_at_call 50; refine (kvalid_any (mkAlt b id at_ len u iv) _).mono ?_; rintro e w' ⟨rfl, hb⟩; replace hst := hst.below hb; clear hb; clear hc1 hf1 hc2 hf2 hc3 hf3; obtain ⟨hc3, hf3, hl3⟩ := hst.c0; obtain ⟨hc2, hf2, hl2⟩ := hst.c1; obtain ⟨hc1, hf1, hl1⟩ := hst.c2))
        go_roundg n
        case measure => omega
        case rel => exact ⟨iv * 2, by omega, by omega, by omega, by omega, by omega, by omega, by show _ = _; rw [← HI.out]; simp [ivFrom, hkv]; omega, hst.set0 7 (.int .i64 (iv * 2))⟩
    · have hIv : descIv b id at_ len u = none := by rw [← HI.out]; simp [ivFrom]; omega
      have HIv := Lib.hid hIv
      clear hIv
      go_wp2_with (first | ((with_reducible refine at_store (p := 10) rfl ?_); refine wpList_putB hst rfl _ _ rfl zDS.cells rfl rfl (by kernel_rfl) rfl (by simp [rangeV, Value.oneCell']) ?_; clear hst; intro wp hst; clear hc1 hf1 hc2 hf2 hc3 hf3; obtain ⟨hc3, hf3, hl3⟩ := hst.c0; obtain ⟨hc2, hf2, hl2⟩ := hst.c1; obtain ⟨hc1, hf1, hl1⟩ := hst.c2))
      refine bodyPost_ret (results_cell_tmp rfl _ _ g2 _ zDS.cells _ _ rfl (hst.blk _ (List.mem_cons_of_mem _ List.mem_cons_self)) (Try.underlying23) rfl (by kernel_rfl)) rfl ⟨?_, hst.base⟩
      rw [descV, descE, if_pos HOK.out, if_pos HOK.out, HIv.out]
      rfl
end Go.Proofs.Ytcdlcdibcekahaa
