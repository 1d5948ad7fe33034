/- The reference of chapter 47: Few. -/
import Derived.Test.YtklpamhhbigjfaaDoorRec47
namespace Go.Proofs.YtklpamhhbigjfaaDoor
open Go.RowKit
set_option linter.unusedSimpArgs false
set_option linter.unusedVariables false

def Chg.few (c : Chg) : Prop := c.key.size ≤ 50 ∧ c.rcd.size ≤ 1200 ∧ c.vol.size ≤ 20
instance (c : Chg) : Decidable c.few := by unfold Chg.few; infer_instance
def fewB (l : List Chg) (most : Int) : Bool := decide ((l.length : Int) ≤ most ∧ ∀ c ∈ l, c.few)

set_option maxHeartbeats 2000000 in
theorem few_any (num unit most : Int) (l : List Chg) (ao : Option Addr) (cap : Nat) (w : World) (hl : l.length ≤ 140737488355328) (hc : Chgs w ao l) (hs : ∀ c ∈ l, c.Sz) :
    Calls Tryd.prog 21 #[.agg (recC num unit ao l.length cap), .int .i64 most] w fun e w' => e = .returned (.bool (fewB l most)) ∧ Below w.heap.size w w' := by
  have hst := St.start w
  obtain ⟨n, hn⟩ : ∃ n, n = l.length := ⟨_, rfl⟩
  have e0 : fewB l most = decide ((n : Int) ≤ most ∧ ∀ c ∈ l, c.few) := by rw [fewB, hn]
  obtain ⟨V, hV⟩ : ∃ V, V = fewB l most := ⟨_, rfl⟩
  rw [← hV, ← hn]
  rw [← hn] at hl
  rw [e0] at hV
  have HVV := Lib.hid hV
  clear hV
  have HC := Lib.hid hc
  have HS := Lib.hid hs
  have HN := Lib.hid hn
  clear hc hs hn e0
  by_cases hm : (n : Int) ≤ most
  · go_enter Tryd.func21, Tryd.ntmps21
    go_wp2_with (first | ((with_reducible refine at_dst (N := 2) rfl ?_); refine wpList_box hst 29 (recC num unit ao n cap) rfl ?hr ?_; (case hr => first | (go_simp; done) | (go_simp; rfl)); clear hst; intro g1 w1 hst; obtain ⟨hc1, hf1, hl1⟩ := hst.c0))
    go_loopw [5] (fun t wr => ∃ k : Nat, k ≤ n ∧ t = .int .i64 k ∧ Hid (∀ j (h : j < l.length), j < k → (l[j]).few) ∧ St w wr [⟨g1, recC num unit ao n cap, 29⟩]) (fun t _ => n - (intOf t).toNat)
    case atStart => exact ⟨0, Nat.zero_le _, rfl, fun j _ hj => absurd hj (by omega), hst⟩
    case round =>
      clear hst hc1 hf1 hl1
      obtain ⟨k, hk, rfl, HZ, hst⟩ := hrel
      obtain ⟨hc1, hf1, hl1⟩ := hst.c0
      by_cases hlt : k < n
      · have hkl : k < l.length := by rw [← HN.out]; exact hlt
        obtain ⟨c, hcc⟩ : ∃ c, c = l[k] := ⟨_, rfl⟩
        obtain ⟨b, off, rfl, hb, hat⟩ : ∃ b off, ao = some ⟨b, off, none⟩ ∧ b < w.heap.size ∧ ChgsAt w b off l := by
          rcases HC.out with h | h
          · rw [h] at hkl; simp at hkl
          · exact h
        obtain ⟨c0, c1, c2, c3, c4⟩ := (hat.below hb hst.base).get hkl hcc
        have hsz : c.Sz := by rw [hcc]; exact HS.out _ (List.getElem_mem _)
        obtain ⟨z1, z2, z3⟩ := hsz
        have HCC := Lib.hid hcc
        clear hcc hat
        by_cases hf : c.few
        · have HF := Lib.hid hf
          obtain ⟨f1, f2, f3⟩ := hf
          go_wp2_with (first | (((with_reducible refine at_dst (N := 6) rfl ?_); refine wpList_box hst 23 #[.int .i64 0, .int .i64 0, .string ⟨#[]⟩, .string ⟨#[]⟩, .string ⟨#[]⟩] rfl ?hr ?_; (case hr => first | (go_simp; done) | (go_simp; rfl)); clear hst; intro g6 w6 hst; obtain ⟨hc6, hf6, hl6⟩ := hst.c0); obtain ⟨hc1, hf1, hl1⟩ := hst.c1) | ((with_reducible refine at_store (p := 6) rfl ?_); refine wpList_put0 hst rfl _ _ rfl c.cells rfl rfl (by kernel_rfl) rfl (by simp [rangeV, Value.oneCell']) ?_; clear hst; intro wp hst; clear hc1 hf1 hc6 hf6; obtain ⟨hc6, hf6, hl6⟩ := hst.c0; obtain ⟨hc1, hf1, hl1⟩ := hst.c1))
          go_roundw
          case measure => simp [intOf]; omega
          case rel =>
            refine ⟨k + 1, by omega, by go_num, fun j h hj => ?_, hst.sub (by simp)⟩
            by_cases e : j = k
            · subst e; rw [← HCC.out]; exact HF.out
            · exact HZ.out j h (by omega)
        · have HF := Lib.hid hf
          unfold Chg.few at hf
          go_wp2_with (first | (((with_reducible refine at_dst (N := 6) rfl ?_); refine wpList_box hst 23 #[.int .i64 0, .int .i64 0, .string ⟨#[]⟩, .string ⟨#[]⟩, .string ⟨#[]⟩] rfl ?hr ?_; (case hr => first | (go_simp; done) | (go_simp; rfl)); clear hst; intro g6 w6 hst; obtain ⟨hc6, hf6, hl6⟩ := hst.c0); obtain ⟨hc1, hf1, hl1⟩ := hst.c1) | ((with_reducible refine at_store (p := 6) rfl ?_); refine wpList_put0 hst rfl _ _ rfl c.cells rfl rfl (by kernel_rfl) rfl (by simp [rangeV, Value.oneCell']) ?_; clear hst; intro wp hst; clear hc1 hf1 hc6 hf6; obtain ⟨hc6, hf6, hl6⟩ := hst.c0; obtain ⟨hc1, hf1, hl1⟩ := hst.c1))
          all_goals (go_ret; exact ⟨ret_bool (HVV.out.trans (decide_eq_false (fun h => HF.out (by rw [HCC.out]; exact h.2 _ (List.getElem_mem _))))).symm, hst.base⟩)
      · go_wp2
        go_ret
        refine ⟨ret_bool (HVV.out.trans (decide_eq_true ⟨hm, fun c hc => ?_⟩)).symm, hst.base⟩
        obtain ⟨j, hj, rfl⟩ := List.getElem_of_mem hc
        exact HZ.out j hj (by have := HN.out; omega)
  · go_enter Tryd.func21, Tryd.ntmps21
    go_wp2_with (first | ((with_reducible refine at_dst (N := 2) rfl ?_); refine wpList_box hst 29 (recC num unit ao n cap) rfl ?hr ?_; (case hr => first | (go_simp; done) | (go_simp; rfl)); clear hst; intro g1 w1 hst; obtain ⟨hc1, hf1, hl1⟩ := hst.c0))
    go_ret
    exact ⟨ret_bool (HVV.out.trans (decide_eq_false (fun h => by omega))).symm, hst.base⟩
end Go.Proofs.YtklpamhhbigjfaaDoor
