/- Chapter 14: ContainsFunc over places of numbers. -/
import Derived.Test.YtklpamhhbigjfaaFields14
namespace Go.Proofs.Ytklpamhhbigjfaa
open Go.RowKit
set_option linter.unusedSimpArgs false
set_option linter.unusedVariables false

set_option maxHeartbeats 1000000 in
theorem indexN_any (l : List PV) (g : Nat) (cap : Nat) (w : World) (hl : l.length ≤ 1000) (h1 : PtrsAt w g 0 l) (h2 : ValsAt w l) :
    Calls Try.prog 62 #[.slice (some ⟨g, 0, none⟩) l.length cap, .func (.func 38) #[] #[]] w (IdxN l w) := by
  obtain ⟨n, hn⟩ : ∃ n, n = l.length := ⟨_, rfl⟩
  rw [← hn] at hl ⊢
  have HN := Lib.hid hn
  have H1 := Lib.hid h1
  have H2 := Lib.hid h2
  clear hn h1 h2
  go_enter Try.func62, Try.ntmps62
  go_wp2
  go_loopw [8] (fun t wr => ∃ k : Nat, k ≤ n ∧ t = .int .i64 k ∧ Hid (∀ j (h : j < l.length), j < k → nOk (l[j]).2.2 = true) ∧ Hid (wr = w)) (fun t _ => n - (intOf t).toNat)
  case atStart => exact ⟨0, Nat.zero_le _, rfl, fun j _ hj => absurd hj (by omega), rfl⟩
  case round =>
    obtain ⟨k, hk, rfl, HZ, HW⟩ := hrel
    by_cases hlt : k < n
    · have hkl : k < l.length := by rw [← HN.out]; exact hlt
      obtain ⟨b, o, v, hbo⟩ : ∃ b o v, l[k] = (b, o, v) := ⟨_, _, _, rfl⟩
      have hp : wr.cell? ⟨g, k, none⟩ = some (pt b o) := by
        have := H1.out k hkl
        rw [hbo, Nat.zero_add] at this
        rw [HW.out]; exact this
      have hv : wr.cell? ⟨b, o, none⟩ = some (.int .i64 v) := by
        have := H2.out _ (List.getElem_mem hkl)
        rw [hbo] at this
        rw [HW.out]; exact this
      have HBO := Lib.hid hbo
      clear hbo
      obtain ⟨V, hV⟩ : ∃ V, V = nOk v := ⟨_, rfl⟩
      have k1 := fun w h => valid1_any b o v w h
      rw [← hV] at k1
      have K1 := Lib.hid (k1 wr hv)
      have HV := Lib.hid hV
      clear k1 hV
      cases V with
      | true =>
        go_wp2_with (go_at_call 38; refine K1.out.mono ?_; rintro e w' ⟨rfl, hw⟩; subst hw)
        go_roundw
        case measure => simp [intOf]; omega
        case rel =>
          refine ⟨k + 1, by omega, by go_num, fun j h hj => ?_, HW⟩
          by_cases e : j = k
          · subst e; rw [HBO.out]; exact HV.out.symm
          · exact HZ.out j h (by omega)
      | false =>
        go_wp2_with (go_at_call 38; refine K1.out.mono ?_; rintro e w' ⟨rfl, hw⟩; subst hw)
        go_ret
        refine ⟨(k : Int), rfl, ?_, HW.out.symm⟩
        rw [decide_eq_true (by omega)]
        symm
        rw [badN, List.any_eq_true]
        exact ⟨_, List.getElem_mem hkl, by rw [HBO.out, ← HV.out]; rfl⟩
    · go_wp2
      go_ret
      refine ⟨-1, rfl, ?_, HW.out.symm⟩
      rw [decide_eq_false (by omega)]
      symm
      rw [badN, List.any_eq_false]
      intro c hc
      obtain ⟨j, hj, rfl⟩ := List.getElem_of_mem hc
      have := HZ.out j hj (by have := HN.out; omega)
      simp [this]
theorem containsN_any (l : List PV) (g : Nat) (cap : Nat) (w : World) (hl : l.length ≤ 1000) (h1 : PtrsAt w g 0 l) (h2 : ValsAt w l) :
    Calls Try.prog 37 #[.slice (some ⟨g, 0, none⟩) l.length cap, .func (.func 38) #[] #[]] w fun e w' => e = .returned (.bool (badN l)) ∧ w = w' := by
  have K1 := Lib.hid (indexN_any l g cap w hl h1 h2)
  clear h1 h2
  go_enter Try.func37, Try.ntmps37
  go_wp2_with (go_at_call 62; refine K1.out.mono ?_; rintro e w' ⟨r, rfl, hr, hw⟩; have HR := Lib.hid hr; clear hr)
  go_ret
  exact ⟨ret_bool (by rw [← HR.out]), hw⟩
end Go.Proofs.Ytklpamhhbigjfaa
