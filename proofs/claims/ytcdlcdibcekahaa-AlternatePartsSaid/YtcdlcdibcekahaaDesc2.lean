/- The package alternate: Describe, whole. -/
import Derived.Test.YtcdlcdibcekahaaDesc
namespace Go.Proofs.Ytcdlcdibcekahaa
open Go.RowKit
set_option linter.unusedSimpArgs false
set_option linter.unusedVariables false

set_option maxHeartbeats 2000000 in
set_option maxRecDepth 100000 in
theorem desc_no (b : DS) (id at_ len : Int) (u : Bool) (w : World) (p : Bool) (hB : b.isBase = p) (hb : p = true → 1 ≤ b.len ∧ b.len ≤ 200)
    (hno : p = true → ¬ ((1 ≤ id ∧ id ≤ 1099511627776) ∧ id ≠ b.id ∧ 0 ≤ at_ ∧ 1 ≤ len ∧ len ≤ b.len ∧ at_ ≤ b.len - len)) :
    Calls Try.prog 15 #[b.v, .int .i64 id, .int .i64 at_, .int .i64 len, .bool u] w fun e w' => e = .returned (.tuple #[zDS.v, .int .i64 1]) ∧ Below w.heap.size w w' := by
  have hst := St.start w
  cases p with
  | false =>
    clear hb hno
    go_enter Try.func15, Try.ntmps15
    go_wp2_with (first | ((with_reducible refine at_dst (N := 5) rfl ?_); refine wpList_box hst 23 b.cells rfl ?hr ?_; (case hr => first | (go_simp; done) | (go_simp; rfl)); clear hst; intro g1 w1 hst; obtain ⟨hc1, hf1, hl1⟩ := hst.c0) | ((with_reducible refine at_dst (N := 10) rfl ?_); refine wpList_box hst 23 zDS.cells rfl ?hr ?_; (case hr => first | (go_simp; done) | (go_simp; rfl)); clear hst; intro g2 w2 hst; obtain ⟨hc2, hf2, hl2⟩ := hst.c0) | ((with_reducible refine at_dst (N := 14) rfl ?_); (refine wpList_load_own hst ⟨g1, b.cells, 23⟩ (by simp) rfl _ rfl rfl _ rfl Try.underlying23 (by kernel_rfl) ?_))  | (go_at_call 47; refine (isBase_any b _).mono ?_; rintro e w' ⟨rfl, hb⟩; replace hst := hst.below hb; clear hb; clear hc1 hf1 hc2 hf2; obtain ⟨hc2, hf2, hl2⟩ := hst.c0; obtain ⟨hc1, hf1, hl1⟩ := hst.c1) | ((with_reducible refine at_store (p := 10) rfl ?_); refine wpList_put0 hst rfl _ _ rfl zDS.cells rfl rfl (by kernel_rfl) rfl (by simp [rangeV, Value.oneCell']) ?_; clear hst; intro wp hst; clear hc1 hf1 hc2 hf2; obtain ⟨hc2, hf2, hl2⟩ := hst.c0; obtain ⟨hc1, hf1, hl1⟩ := hst.c1))
    refine bodyPost_ret (results_cell_tmp rfl _ _ g2 _ zDS.cells _ _ rfl (hst.blk _ List.mem_cons_self) (Try.underlying23) rfl (by kernel_rfl)) rfl ⟨rfl, hst.base⟩
  | true =>
    have hno' := hno rfl
    obtain ⟨hb1, hb2⟩ := hb rfl
    have HNO := Lib.hid hno'
    clear hno' hno hb
    by_cases h1 : 1 ≤ id ∧ id ≤ 1099511627776
    · have hid : isIdB id = true := (isIdB_iff id).2 h1
      clear h1
      cases h2 : (id == b.id) with
      | true =>
        go_enter Try.func15, Try.ntmps15
        go_wp2_with (first | ((with_reducible refine at_dst (N := 5) rfl ?_); refine wpList_box hst 23 b.cells rfl ?hr ?_; (case hr => first | (go_simp; done) | (go_simp; rfl)); clear hst; intro g1 w1 hst; obtain ⟨hc1, hf1, hl1⟩ := hst.c0) | ((with_reducible refine at_dst (N := 10) rfl ?_); refine wpList_box hst 23 zDS.cells rfl ?hr ?_; (case hr => first | (go_simp; done) | (go_simp; rfl)); clear hst; intro g2 w2 hst; obtain ⟨hc2, hf2, hl2⟩ := hst.c0) | ((with_reducible refine at_dst (N := 14) rfl ?_); (refine wpList_load_own hst ⟨g1, b.cells, 23⟩ (by simp) rfl _ rfl rfl _ rfl Try.underlying23 (by kernel_rfl) ?_))  | (go_at_call 47; refine (isBase_any b _).mono ?_; rintro e w' ⟨rfl, hb⟩; replace hst := hst.below hb; clear hb; clear hc1 hf1 hc2 hf2; obtain ⟨hc2, hf2, hl2⟩ := hst.c0; obtain ⟨hc1, hf1, hl1⟩ := hst.c1) | (go_at_call 48; refine (isId_any _ _).mono ?_; rintro e w'' ⟨rfl, rfl⟩) | ((with_reducible refine at_store (p := 10) rfl ?_); refine wpList_put0 hst rfl _ _ rfl zDS.cells rfl rfl (by kernel_rfl) rfl (by simp [rangeV, Value.oneCell']) ?_; clear hst; intro wp hst; clear hc1 hf1 hc2 hf2; obtain ⟨hc2, hf2, hl2⟩ := hst.c0; obtain ⟨hc1, hf1, hl1⟩ := hst.c1))
        refine bodyPost_ret (results_cell_tmp rfl _ _ g2 _ zDS.cells _ _ rfl (hst.blk _ List.mem_cons_self) (Try.underlying23) rfl (by kernel_rfl)) rfl ⟨rfl, hst.base⟩
      | false =>
        have hno2 : ¬ (0 ≤ at_ ∧ 1 ≤ len ∧ len ≤ b.len ∧ at_ ≤ b.len - len) := by
          have := HNO.out
          have e1 := (isIdB_iff id).1 hid
          have e2 : id ≠ b.id := by simpa using h2
          intro h
          exact this ⟨e1, e2, h⟩
        by_cases ha : 0 ≤ at_ ∧ 1 ≤ len ∧ len ≤ b.len
        · have hb3 : b.len - len < at_ := by omega
          obtain ⟨ha1, ha2, ha3⟩ := ha
          clear hno2
          go_enter Try.func15, Try.ntmps15
          go_wp2_with (first | ((with_reducible refine at_dst (N := 5) rfl ?_); refine wpList_box hst 23 b.cells rfl ?hr ?_; (case hr => first | (go_simp; done) | (go_simp; rfl)); clear hst; intro g1 w1 hst; obtain ⟨hc1, hf1, hl1⟩ := hst.c0) | ((with_reducible refine at_dst (N := 10) rfl ?_); refine wpList_box hst 23 zDS.cells rfl ?hr ?_; (case hr => first | (go_simp; done) | (go_simp; rfl)); clear hst; intro g2 w2 hst; obtain ⟨hc2, hf2, hl2⟩ := hst.c0) | ((with_reducible refine at_dst (N := 14) rfl ?_); (refine wpList_load_own hst ⟨g1, b.cells, 23⟩ (by simp) rfl _ rfl rfl _ rfl Try.underlying23 (by kernel_rfl) ?_))  | (go_at_call 47; refine (isBase_any b _).mono ?_; rintro e w' ⟨rfl, hb⟩; replace hst := hst.below hb; clear hb; clear hc1 hf1 hc2 hf2; obtain ⟨hc2, hf2, hl2⟩ := hst.c0; obtain ⟨hc1, hf1, hl1⟩ := hst.c1) | (go_at_call 48; refine (isId_any _ _).mono ?_; rintro e w'' ⟨rfl, rfl⟩) | ((with_reducible refine at_store (p := 10) rfl ?_); refine wpList_put0 hst rfl _ _ rfl zDS.cells rfl rfl (by kernel_rfl) rfl (by simp [rangeV, Value.oneCell']) ?_; clear hst; intro wp hst; clear hc1 hf1 hc2 hf2; obtain ⟨hc2, hf2, hl2⟩ := hst.c0; obtain ⟨hc1, hf1, hl1⟩ := hst.c1))
          refine bodyPost_ret (results_cell_tmp rfl _ _ g2 _ zDS.cells _ _ rfl (hst.blk _ List.mem_cons_self) (Try.underlying23) rfl (by kernel_rfl)) rfl ⟨rfl, hst.base⟩
        · rcases (show at_ < 0 ∨ (0 ≤ at_ ∧ len < 1) ∨ (0 ≤ at_ ∧ 1 ≤ len ∧ b.len < len) by omega) with ha | ⟨ha1, ha2⟩ | ⟨ha1, ha2, ha3⟩
          all_goals
            clear hno2
            go_enter Try.func15, Try.ntmps15
            go_wp2_with (first | ((with_reducible refine at_dst (N := 5) rfl ?_); refine wpList_box hst 23 b.cells rfl ?hr ?_; (case hr => first | (go_simp; done) | (go_simp; rfl)); clear hst; intro g1 w1 hst; obtain ⟨hc1, hf1, hl1⟩ := hst.c0) | ((with_reducible refine at_dst (N := 10) rfl ?_); refine wpList_box hst 23 zDS.cells rfl ?hr ?_; (case hr => first | (go_simp; done) | (go_simp; rfl)); clear hst; intro g2 w2 hst; obtain ⟨hc2, hf2, hl2⟩ := hst.c0) | ((with_reducible refine at_dst (N := 14) rfl ?_); (refine wpList_load_own hst ⟨g1, b.cells, 23⟩ (by simp) rfl _ rfl rfl _ rfl Try.underlying23 (by kernel_rfl) ?_))  | (go_at_call 47; refine (isBase_any b _).mono ?_; rintro e w' ⟨rfl, hb⟩; replace hst := hst.below hb; clear hb; clear hc1 hf1 hc2 hf2; obtain ⟨hc2, hf2, hl2⟩ := hst.c0; obtain ⟨hc1, hf1, hl1⟩ := hst.c1) | (go_at_call 48; refine (isId_any _ _).mono ?_; rintro e w'' ⟨rfl, rfl⟩) | ((with_reducible refine at_store (p := 10) rfl ?_); refine wpList_put0 hst rfl _ _ rfl zDS.cells rfl rfl (by kernel_rfl) rfl (by simp [rangeV, Value.oneCell']) ?_; clear hst; intro wp hst; clear hc1 hf1 hc2 hf2; obtain ⟨hc2, hf2, hl2⟩ := hst.c0; obtain ⟨hc1, hf1, hl1⟩ := hst.c1))
            refine bodyPost_ret (results_cell_tmp rfl _ _ g2 _ zDS.cells _ _ rfl (hst.blk _ List.mem_cons_self) (Try.underlying23) rfl (by kernel_rfl)) rfl ⟨rfl, hst.base⟩
    · have hid : isIdB id = false := by rw [← Bool.not_eq_true, isIdB_iff]; exact h1
      clear h1
      go_enter Try.func15, Try.ntmps15
      go_wp2_with (first | ((with_reducible refine at_dst (N := 5) rfl ?_); refine wpList_box hst 23 b.cells rfl ?hr ?_; (case hr => first | (go_simp; done) | (go_simp; rfl)); clear hst; intro g1 w1 hst; obtain ⟨hc1, hf1, hl1⟩ := hst.c0) | ((with_reducible refine at_dst (N := 10) rfl ?_); refine wpList_box hst 23 zDS.cells rfl ?hr ?_; (case hr => first | (go_simp; done) | (go_simp; rfl)); clear hst; intro g2 w2 hst; obtain ⟨hc2, hf2, hl2⟩ := hst.c0) | ((with_reducible refine at_dst (N := 14) rfl ?_); (refine wpList_load_own hst ⟨g1, b.cells, 23⟩ (by simp) rfl _ rfl rfl _ rfl Try.underlying23 (by kernel_rfl) ?_))  | (go_at_call 47; refine (isBase_any b _).mono ?_; rintro e w' ⟨rfl, hb⟩; replace hst := hst.below hb; clear hb; clear hc1 hf1 hc2 hf2; obtain ⟨hc2, hf2, hl2⟩ := hst.c0; obtain ⟨hc1, hf1, hl1⟩ := hst.c1) | (go_at_call 48; refine (isId_any _ _).mono ?_; rintro e w'' ⟨rfl, rfl⟩) | ((with_reducible refine at_store (p := 10) rfl ?_); refine wpList_put0 hst rfl _ _ rfl zDS.cells rfl rfl (by kernel_rfl) rfl (by simp [rangeV, Value.oneCell']) ?_; clear hst; intro wp hst; clear hc1 hf1 hc2 hf2; obtain ⟨hc2, hf2, hl2⟩ := hst.c0; obtain ⟨hc1, hf1, hl1⟩ := hst.c1))
      refine bodyPost_ret (results_cell_tmp rfl _ _ g2 _ zDS.cells _ _ rfl (hst.blk _ List.mem_cons_self) (Try.underlying23) rfl (by kernel_rfl)) rfl ⟨rfl, hst.base⟩

theorem DescOk.facts {b : DS} {id at_ len : Int} (h : DescOk b id at_ len) : b.isBase = true ∧ isIdB id = true ∧ (id == b.id) = false ∧ b.len ≤ 200 ∧ 1 ≤ b.keySize ∧ b.keySize ≤ 32 ∧ 128 ≤ b.intv ∧ b.intv ≤ 512 := by
  obtain ⟨h1, h2, h3, h4⟩ := h
  have hb := h1.1.bounds
  have hk := DS.keySize_bounds h1.1
  exact ⟨(DS.isBase_iff b).2 h1, (isIdB_iff id).2 h2, by simpa using h3, by omega, hk.1, hk.2, by omega, by omega⟩

theorem desc_any (b : DS) (id at_ len : Int) (u : Bool) (w : World) :
    Calls Try.prog 15 #[b.v, .int .i64 id, .int .i64 at_, .int .i64 len, .bool u] w fun e w' => e = .returned (.tuple #[(descV b id at_ len u).v, .int .i64 (descE b id at_ len u)]) ∧ Below w.heap.size w w' := by
  by_cases h : DescOk b id at_ len
  · obtain ⟨f1, f2, f3, f4, f5, f6, f7, f8⟩ := h.facts
    obtain ⟨h1, h2, h3, h4, h5, h6, h7⟩ := (show DescOk b id at_ len from h)
    cases ho : (b.org == 1) with
    | true => exact desc_ok1 b id at_ len u w f1 f2 f3 h4 h5 h6 h7 f4 f5 f6 ho h f7 f8
    | false => exact desc_ok3 b id at_ len u w f1 f2 f3 h4 h5 h6 h7 f4 f5 f6 ho h f7 f8
  · have e1 : descV b id at_ len u = zDS := if_neg h
    have e2 : descE b id at_ len u = 1 := if_neg h
    rw [e1, e2]
    refine desc_no b id at_ len u w _ rfl (fun hp => ?_) (fun hp hn => h ⟨(DS.isBase_iff b).1 hp, hn⟩)
    have := ((DS.isBase_iff b).1 hp).1.bounds
    omega
end Go.Proofs.Ytcdlcdibcekahaa
