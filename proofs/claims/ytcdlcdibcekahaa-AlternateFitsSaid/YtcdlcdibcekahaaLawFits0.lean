/- AlternateFits: the walk of the law where Describe refuses. -/
import Derived.Test.YtcdlcdibcekahaaAwake26
import Derived.Test.YtcdlcdibcekahaaDesc2
namespace Go.Proofs.Ytcdlcdibcekahaa
open Go.RowKit
set_option linter.unusedSimpArgs false
set_option linter.unusedVariables false

theorem run_buildZ (ev : Operand → Value) (dst : Option Tmp) (ty : TypeId) (pos : String) (after : Array Edge) (guard : Option (Nat × Bool)) (w : World) :
    (execOp ev ⟨dst, .build 23 #[], ty, pos, after, guard⟩).run Try.prog w = .ok (.value (.agg zDS.cells)) w := by kernel_rfl
theorem run_eqlZ (ev : Operand → Value) (x y : Operand) (hx : ev x = .agg zDS.cells) (hy : ev y = .agg zDS.cells) (dst : Option Tmp) (ty tz : TypeId) (pos : String) (after : Array Edge) (guard : Option (Nat × Bool)) (w : World) :
    (execOp ev ⟨dst, .binOp .eql 23 x y tz, ty, pos, after, guard⟩).run Try.prog w = .ok (.value (.bool true)) w := by
  have h : (execOp (fun _ => .agg zDS.cells) ⟨dst, .binOp .eql 23 x y tz, ty, pos, after, guard⟩).run Try.prog w = .ok (.value (.bool true)) w := by kernel_rfl
  rw [← h]
  unfold execOp
  simp only [hx, hy]

set_option maxHeartbeats 1000000 in
set_option maxRecDepth 100000 in
theorem fits_no (b : DS) (Z : DS) (hZ : Z = zDS) (id at_ len E : Int) (u : Bool) (w : World) (hE : E = 1 ∨ E = 8)
    (k1 : ∀ w, Calls Try.prog 15 #[b.v, .int .i64 id, .int .i64 at_, .int .i64 len, .bool u] w fun e w' => e = .returned (.tuple #[Z.v, .int .i64 E]) ∧ Below w.heap.size w w') :
    Calls Try.prog 4 #[b.v, .int .i64 id, .int .i64 at_, .int .i64 len, .bool u] w fun e w' => e = .returned (.bool true) ∧ Below w.heap.size w w' := by
  have HZ := Lib.hid hZ
  clear hZ
  have hst := St.start w
  have K1 := Lib.hid k1
  clear k1
  rcases hE with rfl | rfl <;>
  · go_enter Try.func4, Try.ntmps4
    go_wp2_with (first | ((with_reducible refine at_dst (N := 5) rfl ?_); refine wpList_box hst 23 b.cells rfl ?hr ?_; (case hr => first | (go_simp; done) | (go_simp; rfl)); clear hst; intro g1 w1 hst; obtain ⟨hc1, hf1, hl1⟩ := hst.c0) | (go_at_call 14; refine (awake26_any _).mono ?_; rintro e w' ⟨rfl, hb⟩; replace hst := hst.below hb; clear hb; clear hc1 hf1; obtain ⟨hc1, hf1, hl1⟩ := hst.c0)  | ((with_reducible refine at_dst (N := 17) rfl ?_); (refine wpList_load_own hst ⟨g1, b.cells, 23⟩ (by simp) rfl _ rfl rfl _ rfl Try.underlying23 (by kernel_rfl) ?_)) | (go_at_call 15; refine (K1.out _).mono ?_; rintro e w' ⟨rfl, hb⟩; replace hst := hst.below hb; clear hb; clear hc1 hf1; obtain ⟨hc1, hf1, hl1⟩ := hst.c0) | ((with_reducible refine at_dst (N := 11) rfl ?_); refine wpList_box hst 23 zDS.cells rfl ?hr ?_; (case hr => first | (go_simp; done) | (go_simp; rfl)); clear hst; intro g2 w2 hst; obtain ⟨hc2, hf2, hl2⟩ := hst.c0) | ((with_reducible refine at_store (p := 11) rfl ?_); refine wpList_put0 hst rfl _ _ rfl Z.cells rfl rfl (by kernel_rfl) rfl (by simp [rangeV, Value.oneCell']) ?_; clear hst; intro wp hst; clear hc1 hf1 hc2 hf2; obtain ⟨hc2, hf2, hl2⟩ := hst.c0; obtain ⟨hc1, hf1, hl1⟩ := hst.c1) | ((with_reducible refine at_dst (N := 27) rfl ?_); (refine wpList_load_own hst ⟨g2, Z.cells, 23⟩ (by simp) rfl _ rfl rfl _ rfl Try.underlying23 (by kernel_rfl) ?_))  | ((with_reducible refine at_dst (N := 28) rfl ?_); refine wpList_run (v := .agg Z.cells) rfl (HZ.out ▸ run_buildZ _ _ _ _ _ _ _) ?_)  | ((with_reducible refine at_dst (N := 29) rfl ?_); refine wpList_run (v := .bool true) rfl (run_eqlZ _ _ _ (congrArg (fun z : DS => Value.agg z.cells) HZ.out) (congrArg (fun z : DS => Value.agg z.cells) HZ.out) _ _ _ _ _ _ _) ?_))
    go_ret
    exact ⟨ret_bool (by simp), hst.base⟩
end Go.Proofs.Ytcdlcdibcekahaa
