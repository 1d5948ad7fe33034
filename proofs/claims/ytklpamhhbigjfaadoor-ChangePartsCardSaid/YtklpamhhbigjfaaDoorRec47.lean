/- The package change: sound; the reference: body, Last. -/
import Derived.Test.YtklpamhhbigjfaaDoorSound47
import Derived.Test.YtklpamhhbigjfaaDoorValidR47
namespace Go.Proofs.YtklpamhhbigjfaaDoor
open Go.RowKit
set_option linter.unusedSimpArgs false
set_option linter.unusedVariables false

abbrev recC (num unit : Int) (ao : Option Addr) (n cap : Nat) : Array Value := #[.int .i64 num, .int .i64 unit, .slice ao n cap]
def RecOk (num unit : Int) (n : Nat) : Prop := 1 ≤ unit ∧ unit ≤ 1099511627776 ∧ 1 ≤ n ∧ n ≤ 300 ∧ 1 ≤ num ∧ num ≤ 1099511627776 - n + 1
instance (a b : Int) (n : Nat) : Decidable (RecOk a b n) := by unfold RecOk; infer_instance
def soundB (num unit : Int) (l : List Chg) : Bool := decide (RecOk num unit l.length) && !anyBad l

set_option maxHeartbeats 1000000 in
theorem sound_any (num unit : Int) (l : List Chg) (ao : Option Addr) (cap : Nat) (w : World) (hl : l.length ≤ 140737488355328) (hc : Chgs w ao l) (hs : ∀ c ∈ l, c.Sz) :
    Calls Tryd.prog 45 #[.agg (recC num unit ao l.length cap)] w fun e w' => e = .returned (.bool (soundB num unit l)) ∧ Below w.heap.size w w' := by
  have hst := St.start w
  have k1 := fun w => containsFunc_any l ao cap w hl
  obtain ⟨B, hB⟩ : ∃ B, B = anyBad l := ⟨_, rfl⟩
  obtain ⟨n, hn⟩ : ∃ n, n = l.length := ⟨_, rfl⟩
  rw [← hB, ← hn] at k1
  have e0 : soundB num unit l = (decide (RecOk num unit n) && !B) := by rw [soundB, hB, hn]
  rw [e0, ← hn]
  rw [← hn] at hl
  have K1 := Lib.hid k1
  have HC := Lib.hid hc
  have HS := Lib.hid hs
  clear k1 hc hs hB hn e0
  by_cases hr : RecOk num unit n
  · rw [decide_eq_true hr]
    unfold RecOk at hr
    obtain ⟨r1, r2, r3, r4, r5, r6⟩ := hr
    have hb0 : Below w.heap.size w w := Below.refl _ _
    go_enter Tryd.func45, Tryd.ntmps45
    go_wp2_with (first | ((with_reducible refine at_dst (N := 1) rfl ?_); refine wpList_box hst 29 (recC num unit ao n cap) rfl ?hr ?_; (case hr => first | (go_simp; done) | (go_simp; rfl)); clear hst; intro g1 w1 hst; obtain ⟨hc1, hf1, hl1⟩ := hst.c0)  | (go_at_call 62; refine (K1.out _ (HC.out.below hst.base) HS.out).mono ?_; rintro e w' ⟨rfl, hb⟩; replace hst := hst.below hb; clear hb; clear hc1 hf1; obtain ⟨hc1, hf1, hl1⟩ := hst.c0))
    go_ret
    exact ⟨ret_bool rfl, hst.base⟩
  · rw [decide_eq_false hr]
    unfold RecOk at hr
    go_enter Tryd.func45, Tryd.ntmps45
    go_wp2_with (first | ((with_reducible refine at_dst (N := 1) rfl ?_); refine wpList_box hst 29 (recC num unit ao n cap) rfl ?hr ?_; (case hr => first | (go_simp; done) | (go_simp; rfl)); clear hst; intro g1 w1 hst; obtain ⟨hc1, hf1, hl1⟩ := hst.c0))
    all_goals (go_ret; exact ⟨ret_bool rfl, hst.base⟩)

theorem lastR_any (num unit : Int) (ao : Option Addr) (n cap : Nat) (w : World) (h1 : 0 ≤ num) (h2 : num ≤ 1099511627776) (hn : n ≤ 140737488355328) :
    Calls Tryd.prog 31 #[.agg (recC num unit ao n cap)] w fun e w' => e = .returned (.int .i64 (num + n - 1)) ∧ Below w.heap.size w w' := by
  have hst := St.start w
  go_enter Tryd.func31, Tryd.ntmps31
  go_wp2_with (first | ((with_reducible refine at_dst (N := 1) rfl ?_); refine wpList_box hst 29 (recC num unit ao n cap) rfl ?hr ?_; (case hr => first | (go_simp; done) | (go_simp; rfl)); clear hst; intro g1 w1 hst; obtain ⟨hc1, hf1, hl1⟩ := hst.c0))
  go_ret
  exact ⟨rfl, hst.base⟩
theorem last_any (num unit : Int) (ao : Option Addr) (n cap : Nat) (w : World) (h1 : 0 ≤ num) (h2 : num ≤ 1099511627776) (hn : n ≤ 140737488355328) :
    Calls Tryd.prog 30 #[.agg (recC num unit ao n cap)] w fun e w' => e = .returned (.int .i64 (num + n - 1)) ∧ Below w.heap.size w w' := by
  have hst := St.start w
  go_enter Tryd.func30, Tryd.ntmps30
  go_wp2_with (first | ((with_reducible refine at_dst (N := 1) rfl ?_); refine wpList_box hst 29 (recC num unit ao n cap) rfl ?hr ?_; (case hr => first | (go_simp; done) | (go_simp; rfl)); clear hst; intro g1 w1 hst; obtain ⟨hc1, hf1, hl1⟩ := hst.c0))
  go_ret
  exact ⟨rfl, hst.base⟩
end Go.Proofs.YtklpamhhbigjfaaDoor
