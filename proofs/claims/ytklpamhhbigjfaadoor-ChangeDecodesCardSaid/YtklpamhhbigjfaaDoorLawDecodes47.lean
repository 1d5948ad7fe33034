/- ChangeDecodes: the walk of the law. -/
import Derived.Test.YtklpamhhbigjfaaDoorAwake47
import Derived.Test.YtklpamhhbigjfaaDoorForm47
namespace Go.Proofs.YtklpamhhbigjfaaDoor
open Go.RowKit
set_option linter.unusedSimpArgs false
set_option linter.unusedVariables false

set_option maxHeartbeats 2000000 in
set_option maxRecDepth 100000 in
theorem decodes_any (s : ByteArray) (w : World) (hs : s.size ≤ 140737488351232) :
    Calls Tryd.prog 4 #[.string s] w fun e w' => e = .returned (.bool true) ∧ Below w.heap.size w w' := by
  have hst := St.start w
  have k2 := fun w => decodeW_any s w (by omega)
  have K2 := Lib.hid k2
  clear k2
  by_cases hz : s.size ≤ 3000
  · by_cases hok : DecOk s
    · obtain ⟨l, hl⟩ : ∃ l, l = decL s := ⟨_, rfl⟩
      obtain ⟨num, hnum⟩ : ∃ x, x = decNum s := ⟨_, rfl⟩
      obtain ⟨unit, hunit⟩ : ∃ x, x = decUnit s := ⟨_, rfl⟩
      obtain ⟨q1, q2⟩ := enc_dec hok
      have e0 : decE s = 0 := if_pos hok
      rw [← hl, ← hnum, ← hunit] at q1 q2
      obtain ⟨⟨r1, r2, r3, r4, r5, r6⟩, hv⟩ := sound_facts q2
      have hsz : ∀ c ∈ l, c.Sz := fun c hc => by obtain ⟨_, _, v5, v6, v7⟩ := valid_bounds (hv c hc); exact ⟨by omega, by omega, by omega⟩
      have e1 : encE num unit l = 0 := by rw [encE, if_pos q2, q1, if_pos (by omega)]
      have e2 : encS num unit l = s := by rw [encS, if_pos e1, q1]
      have e3 : recOk num unit l = true := decide_eq_true e1
      have HD := Lib.hid (And.intro hl (And.intro hnum (And.intro hunit e0)))
      have k3 := fun (ao : Option Addr) (cap : Nat) (w : World) => encodeP_any num unit l ao cap w (by omega)
      rw [e1, e2] at k3
      have k4 := fun (ao : Option Addr) (cap : Nat) (w : World) => validRecR_any num unit l ao cap w (by omega)
      rw [e3] at k4
      obtain ⟨n, hn⟩ : ∃ n, n = l.length := ⟨_, rfl⟩
      rw [← hn] at k3 k4
      have HN := Lib.hid hn
      have K3 := Lib.hid k3
      have K4 := Lib.hid k4
      have HSZ := Lib.hid hsz
      clear hl hnum hunit hok q1 q2 e0 r1 r2 r3 r4 r5 r6 hv hsz e1 e2 e3 k3 k4 hn
      go_enter Tryd.func4, Tryd.ntmps4
      go_wp2_with (first | (go_at_call 15; refine (K2.out _).mono ?_; rintro e w' ⟨ao, cap, rfl, hb, hx⟩; obtain ⟨d1, d2, d3, d4⟩ := HD.out; rw [← d1] at hx; rw [← d1, ← d2, ← d3, d4, ← HN.out]; clear d1 d2 d3 d4; have hsta := hst.below hb; clear hst hb; have hst := St.start w')  | ((with_reducible refine at_dst (N := 3) rfl ?_); refine wpList_box hst 29 zeroR rfl ?hr ?_; (case hr => first | (go_simp; done) | (go_simp; rfl)); clear hst; intro g3 w3 hst; obtain ⟨hc3, hf3, hl3⟩ := hst.c0) | ((with_reducible refine at_store (p := 3) rfl ?_); refine wpList_put0 hst rfl _ _ rfl (recC num unit ao n cap) rfl rfl (by kernel_rfl) rfl (by simp [rangeV, Value.oneCell']) ?_; clear hst; intro wp hst; (replace hx := hx.below hst.base; replace hst := hsta.call hst; simp only [List.cons_append, List.nil_append] at hst; clear hsta hc3 hf3 hl3; obtain ⟨hc3, hf3, hl3⟩ := hst.c0; have HXC := Lib.hid hx; clear hx))  | ((with_reducible refine at_dst (N := 29) rfl ?_); (refine wpList_load_own hst ⟨g3, (recC num unit ao n cap), 29⟩ (by simp) rfl _ rfl rfl _ rfl Tryd.underlying29 (by kernel_rfl) ?_)) | (go_at_call 17; refine (K3.out _ _ _ HXC.out HSZ.out).mono ?_; rintro e w' ⟨rfl, hb⟩; have HX2 := Lib.hid (HXC.out.below hb); clear HXC; have HXC := HX2; clear HX2; replace hst := hst.below hb; clear hb hc3 hf3 hl3; obtain ⟨hc3, hf3, hl3⟩ := hst.c0)  | ((with_reducible refine at_dst (N := 41) rfl ?_); refine wpList_load_g hst ⟨g3, (recC num unit ao n cap), 29⟩ (by simp) rfl _ rfl rfl rfl Tryd.underlying29 (by kernel_rfl) ?_) | (go_at_call 18; refine (K4.out _ _ _ HXC.out HSZ.out).mono ?_; rintro e w' ⟨rfl, hb⟩; replace hst := hst.below hb; clear hb; clear hc3 hf3; obtain ⟨hc3, hf3, hl3⟩ := hst.c0)  | (go_at_call 10; refine (awake47_any _).mono ?_; rintro e w' ⟨rfl, hb⟩; replace hst := hst.below hb; clear hb; clear hc3 hf3; obtain ⟨hc3, hf3, hl3⟩ := hst.c0))
      go_ret
      exact ⟨ret_bool (by simp), hst.base⟩
    · have HD := Lib.hid hok
      clear hok
      go_enter Tryd.func4, Tryd.ntmps4
      go_wp2_with (first | (go_at_call 15; refine (K2.out _).mono ?_; rintro e w' ⟨ao, cap, rfl, hb, hx⟩; rw [show decL s = [] from if_neg HD.out, show decNum s = 0 from if_neg HD.out, show decUnit s = 0 from if_neg HD.out, show decE s = 11 from if_neg HD.out, show ([] : List Chg).length = 0 from rfl]; clear hx; replace hst := hst.below hb; clear hb)  | ((with_reducible refine at_dst (N := 3) rfl ?_); refine wpList_box hst 29 zeroR rfl ?hr ?_; (case hr => first | (go_simp; done) | (go_simp; rfl)); clear hst; intro g3 w3 hst; obtain ⟨hc3, hf3, hl3⟩ := hst.c0) | ((with_reducible refine at_store (p := 3) rfl ?_); refine wpList_put0 hst rfl _ _ rfl (recC 0 0 ao 0 cap) rfl rfl (by kernel_rfl) rfl (by simp [rangeV, Value.oneCell']) ?_; clear hst; intro wp hst; (clear hc3 hf3 hl3; obtain ⟨hc3, hf3, hl3⟩ := hst.c0))  | ((with_reducible refine at_dst (N := 21) rfl ?_); refine wpList_load_g hst ⟨g3, (recC 0 0 ao 0 cap), 29⟩ (by simp) rfl _ rfl rfl rfl Tryd.underlying29 (by kernel_rfl) ?_) | (go_at_call 16; refine (same_any 0 0 0 0 [] [] ao none cap 0 _ (by decide) (by decide) (Or.inl rfl) (Or.inl rfl)).mono ?_; rw [show decide ((0 : Int) = 0 ∧ (0 : Int) = 0 ∧ ([] : List Chg) = []) = true from decide_eq_true ⟨rfl, rfl, rfl⟩]; rintro e w' ⟨rfl, hb⟩; replace hst := hst.below hb; clear hb; clear hc3 hf3; obtain ⟨hc3, hf3, hl3⟩ := hst.c0)  | (go_at_call 10; refine (awake47_any _).mono ?_; rintro e w' ⟨rfl, hb⟩; replace hst := hst.below hb; clear hb; clear hc3 hf3; obtain ⟨hc3, hf3, hl3⟩ := hst.c0))
      go_ret
      exact ⟨ret_bool (by simp), hst.base⟩
  · go_enter Tryd.func4, Tryd.ntmps4
    go_wp2_with (first | (go_at_call 10; refine (awake47_any _).mono ?_; rintro e w' ⟨rfl, hb⟩))
    go_ret
    exact ⟨ret_bool (by simp), hb⟩
end Go.Proofs.YtklpamhhbigjfaaDoor
