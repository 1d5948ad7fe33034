/- The reference of chapter 47: body. -/
import Derived.Test.YtklpamhhbigjfaaDoorRec47
namespace Go.Proofs.YtklpamhhbigjfaaDoor
open Go.RowKit
set_option linter.unusedSimpArgs false
set_option linter.unusedVariables false

theorem all_ok {l : List Chg} (h : ∀ j (h : j < l.length), (l[j]).valid = true) : anyBad l = false := by
  rw [anyBad, List.any_eq_false]
  intro c hc
  obtain ⟨j, hj, rfl⟩ := List.getElem_of_mem hc
  simp [h j hj]
theorem one_bad {l : List Chg} {k : Nat} (hk : k < l.length) (h : (l[k]).valid = false) : anyBad l = true := by
  rw [anyBad, List.any_eq_true]
  exact ⟨l[k], List.getElem_mem _, by rw [h]; rfl⟩

set_option maxHeartbeats 1000000 in
theorem body_any (num unit : Int) (l : List Chg) (ao : Option Addr) (cap : Nat) (w : World) (hl : l.length ≤ 140737488355328) (hc : Chgs w ao l) (hs : ∀ c ∈ l, c.Sz) :
    Calls Tryd.prog 48 #[.agg (recC num unit ao l.length cap)] w fun e w' => e = .returned (.bool (soundB num unit l)) ∧ Below w.heap.size w w' := by
  have hst := St.start w
  obtain ⟨n, hn⟩ : ∃ n, n = l.length := ⟨_, rfl⟩
  have e0 : soundB num unit l = (decide (RecOk num unit n) && !anyBad l) := by rw [soundB, hn]
  rw [e0, ← hn]
  rw [← hn] at hl
  have HC := Lib.hid hc
  have HS := Lib.hid hs
  have HN := Lib.hid hn
  clear hc hs hn e0
  by_cases hr : RecOk num unit n
  · rw [decide_eq_true hr]
    unfold RecOk at hr
    obtain ⟨r1, r2, r3, r4, r5, r6⟩ := hr
    go_enter Tryd.func48, Tryd.ntmps48
    go_wp2_with (first | ((with_reducible refine at_dst (N := 1) rfl ?_); refine wpList_box hst 29 (recC num unit ao n cap) rfl ?hr ?_; (case hr => first | (go_simp; done) | (go_simp; rfl)); clear hst; intro g1 w1 hst; obtain ⟨hc1, hf1, hl1⟩ := hst.c0) | ((with_reducible refine at_dst (N := 35) rfl ?_); refine wpList_load_g hst ⟨g1, (recC num unit ao n cap), 29⟩ (by simp) rfl _ rfl rfl rfl Tryd.underlying29 (by kernel_rfl) ?_)  | (go_at_call 31; refine (lastR_any num unit ao n cap _ (by omega) (by omega) (by omega)).mono ?_; rintro e w' ⟨rfl, hb⟩; replace hst := hst.below hb; clear hb; clear hc1 hf1; obtain ⟨hc1, hf1, hl1⟩ := hst.c0))
    go_loopw [3] (fun t wr => ∃ k : Nat, k ≤ n ∧ t = .int .i64 k ∧ Hid (∀ j (h : j < l.length), j < k → (l[j]).valid = true) ∧ St w wr [⟨g1, recC num unit ao n cap, 29⟩]) (fun t _ => n - (intOf t).toNat)
    case atStart => exact ⟨0, Nat.zero_le _, rfl, fun j _ hj => absurd hj (by omega), hst⟩
    case round =>
      clear hst hc1 hf1 hl1
      obtain ⟨k, hk, rfl, HZ, hst⟩ := hrel
      obtain ⟨hc1, hf1, hl1⟩ := hst.c0
      by_cases hlt : k < n
      · have hkl : k < l.length := by rw [← HN.out]; exact hlt
        obtain ⟨c, hcc⟩ : ∃ c, c = l[k] := ⟨_, rfl⟩
        obtain ⟨b, off, rfl, hb, hat⟩ : ∃ b off, ao = some ⟨b, off, none⟩ ∧ b < w.heap.size ∧ ChgsAt w b off l := by
          rcases HC.out with h | h
          · rw [h] at hkl; simp at hkl
          · exact h
        obtain ⟨c0, c1, c2, c3, c4⟩ := (hat.below hb hst.base).get hkl hcc
        have hsz : c.Sz := by rw [hcc]; exact HS.out _ (List.getElem_mem _)
        obtain ⟨V, hV⟩ : ∃ V, V = c.valid := ⟨_, rfl⟩
        have k1 := fun w => validR_any c w hsz.2.2 hsz.1 hsz.2.1
        rw [← hV] at k1
        have K1 := Lib.hid k1
        have HCC := Lib.hid hcc
        have HV := Lib.hid hV
        clear k1 hV hcc hat hsz
        cases V with
        | true =>
          go_wp2_with (go_at_call 12; refine (K1.out _).mono ?_; rintro e w' ⟨rfl, hb⟩; replace hst := hst.below hb; clear hb; clear hc1 hf1; obtain ⟨hc1, hf1, hl1⟩ := hst.c0)
          go_roundw
          case measure => simp [intOf]; omega
          case rel =>
            refine ⟨k + 1, by omega, by go_num, fun j h hj => ?_, hst⟩
            by_cases e : j = k
            · subst e; rw [← HCC.out]; exact HV.out.symm
            · exact HZ.out j h (by omega)
        | false =>
          go_wp2_with (go_at_call 12; refine (K1.out _).mono ?_; rintro e w' ⟨rfl, hb⟩; replace hst := hst.below hb; clear hb; clear hc1 hf1; obtain ⟨hc1, hf1, hl1⟩ := hst.c0)
          go_ret
          exact ⟨ret_bool (by rw [one_bad hkl (by rw [← HCC.out]; exact HV.out.symm)]; rfl), hst.base⟩
      · go_wp2
        go_ret
        exact ⟨ret_bool (by rw [all_ok (fun j h => HZ.out j h (by have := HN.out; omega))]; rfl), hst.base⟩
  · rw [decide_eq_false hr]
    unfold RecOk at hr
    go_enter Tryd.func48, Tryd.ntmps48
    go_wp2_with (first | ((with_reducible refine at_dst (N := 1) rfl ?_); refine wpList_box hst 29 (recC num unit ao n cap) rfl ?hr ?_; (case hr => first | (go_simp; done) | (go_simp; rfl)); clear hst; intro g1 w1 hst; obtain ⟨hc1, hf1, hl1⟩ := hst.c0) | ((with_reducible refine at_dst (N := 35) rfl ?_); refine wpList_load_g hst ⟨g1, (recC num unit ao n cap), 29⟩ (by simp) rfl _ rfl rfl rfl Tryd.underlying29 (by kernel_rfl) ?_)  | (go_at_call 31; refine (lastR_any num unit ao n cap _ (by omega) (by omega) (by omega)).mono ?_; rintro e w' ⟨rfl, hb⟩; replace hst := hst.below hb; clear hb; clear hc1 hf1; obtain ⟨hc1, hf1, hl1⟩ := hst.c0))
    all_goals (go_ret; exact ⟨ret_bool rfl, hst.base⟩)
end Go.Proofs.YtklpamhhbigjfaaDoor
