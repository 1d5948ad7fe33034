/- ChangeValid: the walk of the law. -/
import Derived.Test.YtklpamhhbigjfaaDoorAwake47
import Derived.Test.YtklpamhhbigjfaaDoorTextR47
import Derived.Test.YtklpamhhbigjfaaDoorOpen47
namespace Go.Proofs.YtklpamhhbigjfaaDoor
open Go.RowKit
set_option linter.unusedSimpArgs false
set_option linter.unusedVariables false

set_option maxHeartbeats 2000000 in
set_option maxRecDepth 100000 in
theorem validL_any (c : Chg) (w : World) (hs : c.Sz) (htab : TabOk w) :
    Calls Tryd.prog 3 #[c.v] w fun e w' => e = .returned (.bool true) ∧ Below w.heap.size w w' := by
  have hst := St.start w
  have HT := Lib.hid htab
  have HS := Lib.hid hs
  obtain ⟨s1, s2, s3⟩ := hs
  clear htab
  by_cases hz : c.key.size ≤ 50 ∧ c.rcd.size ≤ 1200 ∧ c.vol.size ≤ 20
  · obtain ⟨z1, z2, z3⟩ := hz
    obtain ⟨V, hV⟩ : ∃ V, V = c.valid := ⟨_, rfl⟩
    obtain ⟨T, hT⟩ : ∃ T, T = txtC c := ⟨_, rfl⟩
    have k1 := fun w => valid47_any c w s3
    have k2 := fun w => validR_any c w s3 s1 s2
    have k3 := fun w => textR_any c w HS.out
    have k4 := fun w h1 h2 => text47_any c w s3 h1 h2
    rw [← hV] at k1 k2
    rw [← hT] at k3 k4
    have hN1 : ∀ u : World, Below w.heap.size w u → c.valid = true → NumOk u c.id := fun u hb hv => by
      obtain ⟨_, ⟨v3, v4⟩, _⟩ := valid_bounds hv
      exact ⟨by omega, by omega, Or.inr (HT.out.below hb)⟩
    have hN2 : ∀ u : World, Below w.heap.size w u → c.valid = true → NumOk u c.rcd.size := fun u hb hv => ⟨by omega, by omega, Or.inr (HT.out.below hb)⟩
    have k5 : ∀ u : World, Below w.heap.size w u → Calls Tryd.prog 13 #[c.v] u fun e w' => e = .returned (.string T) ∧ Below u.heap.size u w' := fun u hb => k4 u (hN1 u hb) (hN2 u hb)
    have K1 := Lib.hid k1
    have K2 := Lib.hid k2
    have K3 := Lib.hid k3
    have K5 := Lib.hid k5
    clear hV hT k1 k2 k3 k4 k5 hN1 hN2 HS
    go_enter Tryd.func3, Tryd.ntmps3
    go_wp2_with (first | ((with_reducible refine at_dst (N := 1) rfl ?_); refine wpList_box hst 23 c.cells rfl ?hr ?_; (case hr => first | (go_simp; done) | (go_simp; rfl)); clear hst; intro g1 w1 hst; obtain ⟨hc1, hf1, hl1⟩ := hst.c0))
    obtain ⟨hne, hq1⟩ := hst.facts1; dsimp only at hq1
    have K6 := Lib.hid (fun u : SW w [⟨g1, c.cells, 23⟩] => K5.out u.val u.property.base)
    (refine wp_region_st hst (by kernel_rfl) (by kernel_rfl) ?_; (repeat (first | go_big_quiet_skip | (go_big_quiet_want; first | (first | ((refine quiet_load_st ⟨g1, c.cells, 23⟩ (by simp) _ rfl rfl rfl Tryd.underlying23 (by kernel_rfl) ?_); (simp only [Act.put, List.setIfInBounds_toArray, List.set_cons_zero, List.set_cons_succ]); go_big_quiet_on)) | (go_big_quiet_op; first | go_big_quiet_on | go_big_quiet_call ((first | (go_at_call 11; exact calls_st _ (K1.out _)) | (go_at_call 12; exact calls_st _ (K2.out _)) | (go_at_call 14; exact calls_st _ (K3.out _)) | (go_at_call 13; exact calls_st _ (K6.out _)) | (go_at_call 10; exact calls_st _ (awake47_any _)))))))); refine wpQuiet_nil ?_; clear hst; rintro _ ⟨⟨wq, hst⟩, rfl⟩; try dsimp only)
    go_wp2
    go_ret
    exact ⟨ret_bool (by simp), hst.base⟩
  · go_enter Tryd.func3, Tryd.ntmps3
    go_wp2_with (first | ((with_reducible refine at_dst (N := 1) rfl ?_); refine wpList_box hst 23 c.cells rfl ?hr ?_; (case hr => first | (go_simp; done) | (go_simp; rfl)); clear hst; intro g1 w1 hst; obtain ⟨hc1, hf1, hl1⟩ := hst.c0) | (go_at_call 10; refine (awake47_any _).mono ?_; rintro e w' ⟨rfl, hb⟩; replace hst := hst.below hb; clear hb; clear hc1 hf1; obtain ⟨hc1, hf1, hl1⟩ := hst.c0))
    all_goals (go_ret; exact ⟨ret_bool (by simp), hst.base⟩)
end Go.Proofs.YtklpamhhbigjfaaDoor
