/- ChangeEncodes: the walk of the law. -/
import Derived.Test.YtklpamhhbigjfaaDoorAwake47
import Derived.Test.YtklpamhhbigjfaaDoorForm47
import Derived.Test.YtklpamhhbigjfaaDoorFew47
import Derived.Test.YtklpamhhbigjfaaDoorOpen47
namespace Go.Proofs.YtklpamhhbigjfaaDoor
open Go.RowKit
set_option linter.unusedSimpArgs false
set_option linter.unusedVariables false

theorem encE_cases (num unit : Int) (l : List Chg) : encE num unit l = 0 ∨ encE num unit l = 1 ∨ encE num unit l = 8 := by
  unfold encE
  split
  · split
    · exact Or.inl rfl
    · exact Or.inr (Or.inr rfl)
  · exact Or.inr (Or.inl rfl)
theorem encE_sound {num unit : Int} {l : List Chg} (h : encE num unit l = 0) : soundB num unit l = true ∧ (encR num unit l).size ≤ 16384 := by
  unfold encE at h
  split at h
  · rename_i hs
    split at h
    · rename_i hz; exact ⟨hs, hz⟩
    · cases h
  · cases h

set_option maxHeartbeats 2000000 in
set_option maxRecDepth 100000 in
theorem encodes_any (num unit : Int) (l : List Chg) (ao : Option Addr) (cap : Nat) (w : World) (hin : RecIn w l ao) :
    Calls Tryd.prog 6 #[.agg (recC num unit ao l.length cap)] w fun e w' => e = .returned (.bool true) ∧ Below w.heap.size w w' := by
  obtain ⟨hl, hc, hsz⟩ := hin
  have hst := St.start w
  obtain ⟨n, hn⟩ : ∃ n, n = l.length := ⟨_, rfl⟩
  have k1 := fun w => few_any num unit 20 l ao cap w hl
  have k2 := fun w => encodeP_any num unit l ao cap w hl
  have k3 := fun w => encodeR_any num unit l ao cap w hl
  have k4 := fun w => validRec_any num unit l ao cap w hl
  obtain ⟨S, hS⟩ : ∃ S, S = encS num unit l := ⟨_, rfl⟩
  rw [← hS] at k2 k3
  rw [← hn] at k1 k2 k3 k4 ⊢
  have HC := Lib.hid hc
  have HSZ := Lib.hid hsz
  clear hc hsz
  cases hfew : fewB l 20 with
  | false =>
    rw [hfew] at k1
    have K1 := Lib.hid k1
    clear k1 k2 k3 k4 hS hn hfew
    go_enter Tryd.func6, Tryd.ntmps6
    go_wp2_with (first | ((with_reducible refine at_dst (N := 1) rfl ?_); refine wpList_box hst 29 (recC num unit ao n cap) rfl ?hr ?_; (case hr => first | (go_simp; done) | (go_simp; rfl)); clear hst; intro g1 w1 hst; obtain ⟨hc1, hf1, hl1⟩ := hst.c0) | ((with_reducible refine at_dst (N := 9) rfl ?_); (refine wpList_load_own hst ⟨g1, (recC num unit ao n cap), 29⟩ (by simp) rfl _ rfl rfl _ rfl Tryd.underlying29 (by kernel_rfl) ?_))  | (go_at_call 21; refine (K1.out _ (HC.out.below hst.base) HSZ.out).mono ?_; rintro e w' ⟨rfl, hb⟩; replace hst := hst.below hb; clear hb; clear hc1 hf1; obtain ⟨hc1, hf1, hl1⟩ := hst.c0)  | (go_at_call 10; refine (awake47_any _).mono ?_; rintro e w' ⟨rfl, hb⟩; replace hst := hst.below hb; clear hb; clear hc1 hf1; obtain ⟨hc1, hf1, hl1⟩ := hst.c0))
    go_ret
    exact ⟨ret_bool (by simp), hst.base⟩
  | true =>
    rw [hfew] at k1
    by_cases he : encE num unit l = 0
    · obtain ⟨hso, hz⟩ := encE_sound he
      have hSR : S = encR num unit l := by rw [hS, encS, if_pos he]
      obtain ⟨d1, d2, d3, d4⟩ := dec_enc hso hz
      have k5 := fun w => decodeW_any S w (by rw [hSR]; omega)
      rw [← hSR] at d1 d2 d3 d4
      have hv : recOk num unit l = true := decide_eq_true he
      rw [he] at k2 k3
      rw [hv] at k4
      have HD := Lib.hid (And.intro d1 (And.intro d2 (And.intro d3 d4)))
      have HN := Lib.hid hn
      have K1 := Lib.hid k1
      have K2 := Lib.hid k2
      have K3 := Lib.hid k3
      have K4 := Lib.hid k4
      have K5 := Lib.hid k5
      have hl2 : n ≤ 140737488355328 := by omega
      clear k1 k2 k3 k4 k5 hS hn hfew he hso hz hSR d1 d2 d3 d4 hv
      go_enter Tryd.func6, Tryd.ntmps6
      go_wp2_with (first | ((with_reducible refine at_dst (N := 1) rfl ?_); refine wpList_box hst 29 (recC num unit ao n cap) rfl ?hr ?_; (case hr => first | (go_simp; done) | (go_simp; rfl)); clear hst; intro g1 w1 hst; obtain ⟨hc1, hf1, hl1⟩ := hst.c0) | ((with_reducible refine at_dst (N := 9) rfl ?_); (refine wpList_load_own hst ⟨g1, (recC num unit ao n cap), 29⟩ (by simp) rfl _ rfl rfl _ rfl Tryd.underlying29 (by kernel_rfl) ?_)) | ((with_reducible refine at_dst (N := 14) rfl ?_); (refine wpList_load_own hst ⟨g1, (recC num unit ao n cap), 29⟩ (by simp) rfl _ rfl rfl _ rfl Tryd.underlying29 (by kernel_rfl) ?_)) | ((with_reducible refine at_dst (N := 19) rfl ?_); (refine wpList_load_own hst ⟨g1, (recC num unit ao n cap), 29⟩ (by simp) rfl _ rfl rfl _ rfl Tryd.underlying29 (by kernel_rfl) ?_)) | ((with_reducible refine at_dst (N := 32) rfl ?_); refine wpList_load_g hst ⟨g1, (recC num unit ao n cap), 29⟩ (by simp) rfl _ rfl rfl rfl Tryd.underlying29 (by kernel_rfl) ?_)  | (go_at_call 21; refine (K1.out _ (HC.out.below hst.base) HSZ.out).mono ?_; rintro e w' ⟨rfl, hb⟩; replace hst := hst.below hb; clear hb; clear hc1 hf1; obtain ⟨hc1, hf1, hl1⟩ := hst.c0)  | (go_at_call 17; refine (K2.out _ (HC.out.below hst.base) HSZ.out).mono ?_; rintro e w' ⟨rfl, hb⟩; replace hst := hst.below hb; clear hb; clear hc1 hf1; obtain ⟨hc1, hf1, hl1⟩ := hst.c0)  | (go_at_call 22; refine (K3.out _ (HC.out.below hst.base) HSZ.out).mono ?_; rintro e w' ⟨rfl, hb⟩; replace hst := hst.below hb; clear hb; clear hc1 hf1; obtain ⟨hc1, hf1, hl1⟩ := hst.c0)  | (go_at_call 23; refine (K4.out _ (HC.out.below hst.base) HSZ.out).mono ?_; rintro e w' ⟨rfl, hb⟩; replace hst := hst.below hb; clear hb; clear hc1 hf1; obtain ⟨hc1, hf1, hl1⟩ := hst.c0)  | (go_at_call 15; refine (K5.out _).mono ?_; rintro e w' ⟨ax, cax, rfl, hb, hx⟩; obtain ⟨d1, d2, d3, d4⟩ := HD.out; rw [d4] at hx; rw [d1, d2, d3, d4, ← HN.out]; clear d1 d2 d3 d4; have hsta := hst.below hb; clear hst hb hc1 hf1 hl1; have hst := St.start w')  | ((with_reducible refine at_dst (N := 7) rfl ?_); refine wpList_box hst 29 zeroR rfl ?hr ?_; (case hr => first | (go_simp; done) | (go_simp; rfl)); clear hst; intro g7 w7 hst; obtain ⟨hc7, hf7, hl7⟩ := hst.c0) | ((with_reducible refine at_store (p := 7) rfl ?_); refine wpList_put0 hst rfl _ _ rfl (recC num unit ax n cax) rfl rfl (by kernel_rfl) rfl (by simp [rangeV, Value.oneCell']) ?_; clear hst; intro wp hst; (replace hx := hx.below hst.base; replace hst := hsta.call hst; simp only [List.cons_append, List.nil_append] at hst; clear hsta hc7 hf7 hl7; obtain ⟨hc7, hf7, hl7⟩ := hst.c0; obtain ⟨hc1, hf1, hl1⟩ := hst.c1; have HXC := Lib.hid hx; clear hx))  | ((with_reducible refine at_dst (N := 49) rfl ?_); refine wpList_load_g hst ⟨g7, (recC num unit ax n cax), 29⟩ (by simp) rfl _ rfl rfl rfl Tryd.underlying29 (by kernel_rfl) ?_) | ((with_reducible refine at_dst (N := 50) rfl ?_); refine wpList_load_g hst ⟨g1, (recC num unit ao n cap), 29⟩ (by simp) rfl _ rfl rfl rfl Tryd.underlying29 (by kernel_rfl) ?_)  | (go_at_call 16; rw [HN.out]; refine (same_any num unit num unit l l ax ao cax cap _ hl hl HXC.out (HC.out.below hst.base)).mono ?_; rw [show decide (num = num ∧ unit = unit ∧ l = l) = true from decide_eq_true ⟨rfl, rfl, rfl⟩]; rintro e w' ⟨rfl, hb⟩; replace hst := hst.below hb; clear hb; clear hc1 hf1 hc7 hf7; obtain ⟨hc7, hf7, hl7⟩ := hst.c0; obtain ⟨hc1, hf1, hl1⟩ := hst.c1)  | (go_at_call 10; refine (awake47_any _).mono ?_; rintro e w' ⟨rfl, hb⟩; replace hst := hst.below hb; clear hb; clear hc1 hf1 hc7 hf7; obtain ⟨hc7, hf7, hl7⟩ := hst.c0; obtain ⟨hc1, hf1, hl1⟩ := hst.c1))
      go_ret
      exact ⟨ret_bool (by simp), hst.base⟩
    · have hv : recOk num unit l = false := decide_eq_false he
      rw [hv] at k4
      have K1 := Lib.hid k1
      have K4 := Lib.hid k4
      have hcs : encE num unit l = 1 ∨ encE num unit l = 8 := by rcases encE_cases num unit l with h | h; exact absurd h he; exact h
      rcases hcs with e | e <;>
      · rw [e] at k2 k3
        have K2 := Lib.hid k2
        have K3 := Lib.hid k3
        clear k1 k2 k3 k4 hS hn hfew he hv e
        go_enter Tryd.func6, Tryd.ntmps6
        go_wp2_with (first | ((with_reducible refine at_dst (N := 1) rfl ?_); refine wpList_box hst 29 (recC num unit ao n cap) rfl ?hr ?_; (case hr => first | (go_simp; done) | (go_simp; rfl)); clear hst; intro g1 w1 hst; obtain ⟨hc1, hf1, hl1⟩ := hst.c0) | ((with_reducible refine at_dst (N := 9) rfl ?_); (refine wpList_load_own hst ⟨g1, (recC num unit ao n cap), 29⟩ (by simp) rfl _ rfl rfl _ rfl Tryd.underlying29 (by kernel_rfl) ?_)) | ((with_reducible refine at_dst (N := 14) rfl ?_); (refine wpList_load_own hst ⟨g1, (recC num unit ao n cap), 29⟩ (by simp) rfl _ rfl rfl _ rfl Tryd.underlying29 (by kernel_rfl) ?_)) | ((with_reducible refine at_dst (N := 19) rfl ?_); (refine wpList_load_own hst ⟨g1, (recC num unit ao n cap), 29⟩ (by simp) rfl _ rfl rfl _ rfl Tryd.underlying29 (by kernel_rfl) ?_)) | ((with_reducible refine at_dst (N := 32) rfl ?_); refine wpList_load_g hst ⟨g1, (recC num unit ao n cap), 29⟩ (by simp) rfl _ rfl rfl rfl Tryd.underlying29 (by kernel_rfl) ?_)  | (go_at_call 21; refine (K1.out _ (HC.out.below hst.base) HSZ.out).mono ?_; rintro e w' ⟨rfl, hb⟩; replace hst := hst.below hb; clear hb; clear hc1 hf1; obtain ⟨hc1, hf1, hl1⟩ := hst.c0)  | (go_at_call 17; refine (K2.out _ (HC.out.below hst.base) HSZ.out).mono ?_; rintro e w' ⟨rfl, hb⟩; replace hst := hst.below hb; clear hb; clear hc1 hf1; obtain ⟨hc1, hf1, hl1⟩ := hst.c0)  | (go_at_call 22; refine (K3.out _ (HC.out.below hst.base) HSZ.out).mono ?_; rintro e w' ⟨rfl, hb⟩; replace hst := hst.below hb; clear hb; clear hc1 hf1; obtain ⟨hc1, hf1, hl1⟩ := hst.c0)  | (go_at_call 23; refine (K4.out _ (HC.out.below hst.base) HSZ.out).mono ?_; rintro e w' ⟨rfl, hb⟩; replace hst := hst.below hb; clear hb; clear hc1 hf1; obtain ⟨hc1, hf1, hl1⟩ := hst.c0)  | (go_at_call 10; refine (awake47_any _).mono ?_; rintro e w' ⟨rfl, hb⟩; replace hst := hst.below hb; clear hb; clear hc1 hf1; obtain ⟨hc1, hf1, hl1⟩ := hst.c0))
        go_ret
        exact ⟨ret_bool (by simp), hst.base⟩
end Go.Proofs.YtklpamhhbigjfaaDoor
