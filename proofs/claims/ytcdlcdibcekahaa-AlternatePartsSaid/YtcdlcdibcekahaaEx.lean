/- The example of chapter 26. -/
import Derived.Test.YtcdlcdibcekahaaDesc2
import Derived.Test.YtcdlcdibcekahaaKit3
namespace Go.Proofs.Ytcdlcdibcekahaa
open Go.RowKit
set_option linter.unusedSimpArgs false
set_option linter.unusedVariables false

def exBase : DS := ⟨3, 3, 0, 20, 0, 0, 3, 128, 2, 0, 0, 0, 0, 0, false, 0, ⟨#[]⟩, ⟨#[]⟩, 0, 0, false⟩
def exAlt : DS := ⟨4, 3, 0, 5, 0, 0, 5, 128, 2, 0, 0, 3, 5, 2, false, 0, ⟨#[]⟩, ⟨#[]⟩, 0, 0, false⟩
theorem ex_desc : descV exBase 4 5 2 false = exAlt ∧ descE exBase 4 5 2 false = 0 := by
  have h1 : DescOk exBase 4 5 2 := by decide
  have h2 : descIv exBase 4 5 2 false = some 128 := by decide
  constructor
  · rw [descV, if_pos h1, h2]
    rfl
  · rw [descE, if_pos h1, h2]
    rfl

set_option maxHeartbeats 1000000 in
set_option maxRecDepth 100000 in
theorem example_any (w : World) :
    Calls Try.prog 46 #[] w fun e w' => e = .returned (.tuple #[exBase.v, exAlt.v]) ∧ Below w.heap.size w w' := by
  have hst := St.start w
  have hd := fun w => desc_any exBase 4 5 2 false w
  rw [ex_desc.1, ex_desc.2] at hd
  have HD := Lib.hid hd
  clear hd
  go_enter Try.func46, Try.ntmps46
  go_wp2_with (first | ((with_reducible refine at_dst (N := 0) rfl ?_); refine wpList_box hst 23 zDS.cells rfl ?hr ?_; (case hr => first | (go_simp; done) | (go_simp; rfl)); clear hst; intro g1 w1 hst; obtain ⟨hc1, hf1, hl1⟩ := hst.c0) | ((with_reducible refine at_dst (N := 1) rfl ?_); refine wpList_box hst 23 zDS.cells rfl ?hr ?_; (case hr => first | (go_simp; done) | (go_simp; rfl)); clear hst; intro g2 w2 hst; obtain ⟨hc2, hf2, hl2⟩ := hst.c0) | ((with_reducible refine at_dst (N := 2) rfl ?_); refine wpList_box hst 23 zDS.cells rfl ?hr ?_; (case hr => first | (go_simp; done) | (go_simp; rfl)); clear hst; intro g3 w3 hst; obtain ⟨hc3, hf3, hl3⟩ := hst.c0) | ((with_reducible refine at_store (p := 2) rfl ?_); refine wpList_put0 hst rfl _ _ rfl exBase.cells rfl rfl (by kernel_rfl) rfl (by simp [rangeV, Value.oneCell']) ?_; clear hst; intro wp hst; clear hc1 hf1 hc2 hf2 hc3 hf3; obtain ⟨hc3, hf3, hl3⟩ := hst.c0; obtain ⟨hc2, hf2, hl2⟩ := hst.c1; obtain ⟨hc1, hf1, hl1⟩ := hst.c2) | ((with_reducible refine at_dst (N := 7) rfl ?_); (refine wpList_load_own hst ⟨g3, exBase.cells, 23⟩ (by simp) rfl _ rfl rfl _ rfl Try.underlying23 (by kernel_rfl) ?_))  | (go_at_call 15; refine (HD.out _).mono ?_; rintro e w' ⟨rfl, hb⟩; replace hst := hst.below hb; clear hb; clear hc1 hf1 hc2 hf2 hc3 hf3; obtain ⟨hc3, hf3, hl3⟩ := hst.c0; obtain ⟨hc2, hf2, hl2⟩ := hst.c1; obtain ⟨hc1, hf1, hl1⟩ := hst.c2) | ((with_reducible refine at_dst (N := 3) rfl ?_); refine wpList_box hst 23 zDS.cells rfl ?hr ?_; (case hr => first | (go_simp; done) | (go_simp; rfl)); clear hst; intro g4 w4 hst; obtain ⟨hc4, hf4, hl4⟩ := hst.c0) | ((with_reducible refine at_store (p := 3) rfl ?_); refine wpList_put0 hst rfl _ _ rfl exAlt.cells rfl rfl (by kernel_rfl) rfl (by simp [rangeV, Value.oneCell']) ?_; clear hst; intro wp hst; skip))
  refine region_two (d0 := 11) (d1 := 12) rfl hst (by kernel_rfl) rfl rfl rfl rfl (by kernel_rfl) (by kernel_rfl) (by kernel_rfl) (by kernel_rfl) (by kernel_rfl) (by kernel_rfl) (by kernel_rfl) (by kernel_rfl)
    rfl rfl rfl rfl rfl rfl rfl rfl rfl rfl rfl rfl rfl rfl rfl rfl (Try.underlying23) (by kernel_rfl) rfl (Try.underlying23) (by kernel_rfl) (by kernel_rfl) (by kernel_rfl) rfl rfl (by simp [Value.oneCell']) (by simp [Value.oneCell']) (fun _ _ _ _ h => h) (fun _ _ _ _ h => h) ?_
  intro w9 hst9
  go_wp2
  refine bodyPost_ret (results_cell_cell rfl _ _ g1 g2 _ _ exBase.cells exAlt.cells _ _ _ _ rfl (hst9.blk ⟨g1, exBase.cells, 23⟩ (by simp)) rfl (hst9.blk ⟨g2, exAlt.cells, 23⟩ (by simp)) rfl (Try.underlying23) (by kernel_rfl) rfl (Try.underlying23) (by kernel_rfl)) rfl ⟨rfl, hst9.base⟩
end Go.Proofs.Ytcdlcdibcekahaa
