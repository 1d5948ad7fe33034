/- The reference of chapter 47: Text. -/
import Derived.Test.YtklpamhhbigjfaaDoorText47
import Derived.Test.YtklpamhhbigjfaaDoorHexR47
import Derived.Test.YtklpamhhbigjfaaDoorValidR47
import Derived.Test.YtklpamhhbigjfaaDoorEnc47
namespace Go.Proofs.YtklpamhhbigjfaaDoor
open Go.RowKit
set_option linter.unusedSimpArgs false
set_option linter.unusedVariables false

theorem hexR_S (s : ByteArray) (w : World) (hs : s.size ≤ 1000000) : Calls Tryd.prog 40 #[.string s] w fun e w' => e = .returned (.string (hexS s)) ∧ Below w.heap.size w w' := hexR_any s w hs
theorem txt_ok {c : Chg} (hv : c.valid = true) {W : List UInt8} {X : ByteArray} (hW : (kF c.kind).1 = W) (h3 : c.kind ≠ 3) (hX : shS c.kind c = X) : bs W ++ (spS ++ decS c.id.toNat) ++ spS ++ X = txtC c := by
  rw [txtC, if_pos hv, if_neg h3, txtBase, hW, hX]
  simp only [ByteArray.append_assoc]

set_option maxHeartbeats 2000000 in
set_option maxRecDepth 100000 in
theorem textR_any (c : Chg) (w : World) (hs : c.Sz) :
    Calls Tryd.prog 14 #[c.v] w fun e w' => e = .returned (.string (txtC c)) ∧ Below w.heap.size w w' := by
  have hst := St.start w
  have k1 := fun w => validR_any c w hs.2.2 hs.1 hs.2.1
  cases hv : c.valid with
  | false =>
    rw [hv] at k1
    have K1 := Lib.hid k1
    have e : txtC c = ⟨#[]⟩ := by rw [txtC, if_neg (by rw [hv]; simp)]
    rw [e]
    clear k1 hv e
    go_enter Tryd.func14, Tryd.ntmps14
    go_wp2_with (first | ((with_reducible refine at_dst (N := 1) rfl ?_); refine wpList_box hst 23 c.cells rfl ?hr ?_; (case hr => first | (go_simp; done) | (go_simp; rfl)); clear hst; intro g1 w1 hst; obtain ⟨hc1, hf1, hl1⟩ := hst.c0) | ((with_reducible refine at_dst (N := 4) rfl ?_); (refine wpList_load_own hst ⟨g1, c.cells, 23⟩ (by simp) rfl _ rfl rfl _ rfl Tryd.underlying23 (by kernel_rfl) ?_)) | (go_at_call 12; refine (K1.out _).mono ?_; rintro e w' ⟨rfl, hb⟩; replace hst := hst.below hb; clear hb; clear hc1 hf1; obtain ⟨hc1, hf1, hl1⟩ := hst.c0))
    go_ret
    exact ⟨rfl, hst.base⟩
  | true =>
    rw [hv] at k1
    have K1 := Lib.hid k1
    obtain ⟨⟨v1, v2⟩, ⟨v3, v4⟩, v5, v6, v7⟩ := valid_bounds hv
    have HV := Lib.hid hv
    have k2 := fun w => decimal_int c.id w (by omega) (by omega)
    have k3 := fun w => decimal_int c.rcd.size w (by omega) (by omega)
    have k4 := fun w => hexR_S c.key w (by omega)
    have z2 := decS_small (n := c.id.toNat) (by omega)
    have z3 := decS_small (n := c.rcd.size) (by omega)
    have z4 := hexS_size c.key
    have zs : spS.size = 1 := rfl
    obtain ⟨T, hT⟩ : ∃ T, T = txtC c := ⟨_, rfl⟩
    have tok := fun (W : List UInt8) (X : ByteArray) => txt_ok hv (W := W) (X := X)
    have tok3 : c.kind = 3 → bs [101, 109, 112, 116, 121] ++ (spS ++ decS c.id.toNat) = T := by
      intro h
      rw [hT, txtC, if_pos hv, if_pos h, txtBase, h]
      simp only [ByteArray.append_assoc]
      rfl
    rw [← hT] at tok ⊢
    have TOK := Lib.hid tok
    have TOK3 := Lib.hid tok3
    rw [show ((c.rcd.size : Int)).toNat = c.rcd.size by omega] at k3
    have K2 := Lib.hid k2
    have K3 := Lib.hid k3
    have K4 := Lib.hid k4
    clear k1 k2 k3 k4 hT tok tok3 hv
    have T2 := K2
    have hsp : spS = ⟨#[32]⟩ := rfl
    have hkk : c.kind = 0 ∨ c.kind = 1 ∨ c.kind = 2 ∨ c.kind = 3 ∨ c.kind = 4 ∨ c.kind = 5 ∨ c.kind = 6 ∨ c.kind = 7 := by omega
    rcases hkk with hk | hk | hk | hk | hk | hk | hk | hk
    · have HK := Lib.hid hk
      go_enter Tryd.func14, Tryd.ntmps14
      go_wp2_with (first | ((with_reducible refine at_dst (N := 1) rfl ?_); refine wpList_box hst 23 c.cells rfl ?hr ?_; (case hr => first | (go_simp; done) | (go_simp; rfl)); clear hst; intro g1 w1 hst; obtain ⟨hc1, hf1, hl1⟩ := hst.c0) | ((with_reducible refine at_dst (N := 4) rfl ?_); (refine wpList_load_own hst ⟨g1, c.cells, 23⟩ (by simp) rfl _ rfl rfl _ rfl Tryd.underlying23 (by kernel_rfl) ?_)) | (go_at_call 12; refine (K1.out _).mono ?_; rintro e w' ⟨rfl, hb⟩; replace hst := hst.below hb; clear hb; clear hc1 hf1; obtain ⟨hc1, hf1, hl1⟩ := hst.c0) | (go_at_call 39; refine (T2.out _).mono ?_; clear T2; rintro e w' ⟨rfl, hb⟩; replace hst := hst.below hb; clear hb; clear hc1 hf1; obtain ⟨hc1, hf1, hl1⟩ := hst.c0))
      obtain ⟨hne, hq1⟩ := hst.facts1; dsimp only at hq1
      (refine wp_region_st hst (by kernel_rfl) (by kernel_rfl) ?_; (repeat (first | go_big_quiet_skip | (go_big_quiet_want; first | fail | (go_big_quiet_op; first | go_big_quiet_on | go_big_quiet_call ((first | (go_at_call 40; exact calls_st _ (K4.out _)) | (go_at_call 39; exact calls_st _ (K3.out _)))))))); refine wpQuiet_nil ?_; clear hst; rintro _ ⟨⟨wq, hst⟩, rfl⟩; try dsimp only)
      clear hne hq1
      go_wp2
      go_ret
      exact ⟨ret_str (by rw [← TOK.out [112, 117, 116] (hexS c.key ++ spS ++ decS c.rcd.size) (by rw [HK.out]; rfl) (by rw [HK.out]; decide) (by rw [HK.out]; rfl)]; simp only [ByteArray.append_assoc]; rfl), hst.base⟩
    · have HK := Lib.hid hk
      go_enter Tryd.func14, Tryd.ntmps14
      go_wp2_with (first | ((with_reducible refine at_dst (N := 1) rfl ?_); refine wpList_box hst 23 c.cells rfl ?hr ?_; (case hr => first | (go_simp; done) | (go_simp; rfl)); clear hst; intro g1 w1 hst; obtain ⟨hc1, hf1, hl1⟩ := hst.c0) | ((with_reducible refine at_dst (N := 4) rfl ?_); (refine wpList_load_own hst ⟨g1, c.cells, 23⟩ (by simp) rfl _ rfl rfl _ rfl Tryd.underlying23 (by kernel_rfl) ?_)) | (go_at_call 12; refine (K1.out _).mono ?_; rintro e w' ⟨rfl, hb⟩; replace hst := hst.below hb; clear hb; clear hc1 hf1; obtain ⟨hc1, hf1, hl1⟩ := hst.c0) | (go_at_call 39; refine (T2.out _).mono ?_; clear T2; rintro e w' ⟨rfl, hb⟩; replace hst := hst.below hb; clear hb; clear hc1 hf1; obtain ⟨hc1, hf1, hl1⟩ := hst.c0) | (go_at_call 40; refine (K4.out _).mono ?_; rintro e w' ⟨rfl, hb⟩; replace hst := hst.below hb; clear hb; clear hc1 hf1; obtain ⟨hc1, hf1, hl1⟩ := hst.c0))
      go_ret
      exact ⟨ret_str (by rw [← TOK.out [101, 114, 97, 115, 101] (hexS c.key) (by rw [HK.out]; rfl) (by rw [HK.out]; decide) (by rw [HK.out]; rfl)]; rfl), hst.base⟩
    · have HK := Lib.hid hk
      go_enter Tryd.func14, Tryd.ntmps14
      go_wp2_with (first | ((with_reducible refine at_dst (N := 1) rfl ?_); refine wpList_box hst 23 c.cells rfl ?hr ?_; (case hr => first | (go_simp; done) | (go_simp; rfl)); clear hst; intro g1 w1 hst; obtain ⟨hc1, hf1, hl1⟩ := hst.c0) | ((with_reducible refine at_dst (N := 4) rfl ?_); (refine wpList_load_own hst ⟨g1, c.cells, 23⟩ (by simp) rfl _ rfl rfl _ rfl Tryd.underlying23 (by kernel_rfl) ?_)) | (go_at_call 12; refine (K1.out _).mono ?_; rintro e w' ⟨rfl, hb⟩; replace hst := hst.below hb; clear hb; clear hc1 hf1; obtain ⟨hc1, hf1, hl1⟩ := hst.c0) | (go_at_call 39; refine (T2.out _).mono ?_; clear T2; rintro e w' ⟨rfl, hb⟩; replace hst := hst.below hb; clear hb; clear hc1 hf1; obtain ⟨hc1, hf1, hl1⟩ := hst.c0) | (go_at_call 39; refine (K3.out _).mono ?_; rintro e w' ⟨rfl, hb⟩; replace hst := hst.below hb; clear hb; clear hc1 hf1; obtain ⟨hc1, hf1, hl1⟩ := hst.c0))
      go_ret
      exact ⟨ret_str (by rw [← TOK.out [97, 112, 112, 101, 110, 100] (decS c.rcd.size) (by rw [HK.out]; rfl) (by rw [HK.out]; decide) (by rw [HK.out]; rfl)]; rfl), hst.base⟩
    · have HK := Lib.hid hk
      go_enter Tryd.func14, Tryd.ntmps14
      go_wp2_with (first | ((with_reducible refine at_dst (N := 1) rfl ?_); refine wpList_box hst 23 c.cells rfl ?hr ?_; (case hr => first | (go_simp; done) | (go_simp; rfl)); clear hst; intro g1 w1 hst; obtain ⟨hc1, hf1, hl1⟩ := hst.c0) | ((with_reducible refine at_dst (N := 4) rfl ?_); (refine wpList_load_own hst ⟨g1, c.cells, 23⟩ (by simp) rfl _ rfl rfl _ rfl Tryd.underlying23 (by kernel_rfl) ?_)) | (go_at_call 12; refine (K1.out _).mono ?_; rintro e w' ⟨rfl, hb⟩; replace hst := hst.below hb; clear hb; clear hc1 hf1; obtain ⟨hc1, hf1, hl1⟩ := hst.c0) | (go_at_call 39; refine (T2.out _).mono ?_; clear T2; rintro e w' ⟨rfl, hb⟩; replace hst := hst.below hb; clear hb; clear hc1 hf1; obtain ⟨hc1, hf1, hl1⟩ := hst.c0))
      go_ret
      exact ⟨ret_str (by rw [← TOK3.out HK.out]; rfl), hst.base⟩
    · have HK := Lib.hid hk
      go_enter Tryd.func14, Tryd.ntmps14
      go_wp2_with (first | ((with_reducible refine at_dst (N := 1) rfl ?_); refine wpList_box hst 23 c.cells rfl ?hr ?_; (case hr => first | (go_simp; done) | (go_simp; rfl)); clear hst; intro g1 w1 hst; obtain ⟨hc1, hf1, hl1⟩ := hst.c0) | ((with_reducible refine at_dst (N := 4) rfl ?_); (refine wpList_load_own hst ⟨g1, c.cells, 23⟩ (by simp) rfl _ rfl rfl _ rfl Tryd.underlying23 (by kernel_rfl) ?_)) | (go_at_call 12; refine (K1.out _).mono ?_; rintro e w' ⟨rfl, hb⟩; replace hst := hst.below hb; clear hb; clear hc1 hf1; obtain ⟨hc1, hf1, hl1⟩ := hst.c0) | (go_at_call 39; refine (T2.out _).mono ?_; clear T2; rintro e w' ⟨rfl, hb⟩; replace hst := hst.below hb; clear hb; clear hc1 hf1; obtain ⟨hc1, hf1, hl1⟩ := hst.c0))
      go_ret
      exact ⟨ret_str (by rw [← TOK.out [99, 114, 101, 97, 116, 101] c.vol (by rw [HK.out]; rfl) (by rw [HK.out]; decide) (by rw [HK.out]; rfl)]; rfl), hst.base⟩
    · have HK := Lib.hid hk
      go_enter Tryd.func14, Tryd.ntmps14
      go_wp2_with (first | ((with_reducible refine at_dst (N := 1) rfl ?_); refine wpList_box hst 23 c.cells rfl ?hr ?_; (case hr => first | (go_simp; done) | (go_simp; rfl)); clear hst; intro g1 w1 hst; obtain ⟨hc1, hf1, hl1⟩ := hst.c0) | ((with_reducible refine at_dst (N := 4) rfl ?_); (refine wpList_load_own hst ⟨g1, c.cells, 23⟩ (by simp) rfl _ rfl rfl _ rfl Tryd.underlying23 (by kernel_rfl) ?_)) | (go_at_call 12; refine (K1.out _).mono ?_; rintro e w' ⟨rfl, hb⟩; replace hst := hst.below hb; clear hb; clear hc1 hf1; obtain ⟨hc1, hf1, hl1⟩ := hst.c0) | (go_at_call 39; refine (T2.out _).mono ?_; clear T2; rintro e w' ⟨rfl, hb⟩; replace hst := hst.below hb; clear hb; clear hc1 hf1; obtain ⟨hc1, hf1, hl1⟩ := hst.c0))
      go_ret
      exact ⟨ret_str (by rw [← TOK.out [114, 101, 109, 111, 118, 101] c.vol (by rw [HK.out]; rfl) (by rw [HK.out]; decide) (by rw [HK.out]; rfl)]; rfl), hst.base⟩
    · have HK := Lib.hid hk
      go_enter Tryd.func14, Tryd.ntmps14
      go_wp2_with (first | ((with_reducible refine at_dst (N := 1) rfl ?_); refine wpList_box hst 23 c.cells rfl ?hr ?_; (case hr => first | (go_simp; done) | (go_simp; rfl)); clear hst; intro g1 w1 hst; obtain ⟨hc1, hf1, hl1⟩ := hst.c0) | ((with_reducible refine at_dst (N := 4) rfl ?_); (refine wpList_load_own hst ⟨g1, c.cells, 23⟩ (by simp) rfl _ rfl rfl _ rfl Tryd.underlying23 (by kernel_rfl) ?_)) | (go_at_call 12; refine (K1.out _).mono ?_; rintro e w' ⟨rfl, hb⟩; replace hst := hst.below hb; clear hb; clear hc1 hf1; obtain ⟨hc1, hf1, hl1⟩ := hst.c0) | (go_at_call 39; refine (T2.out _).mono ?_; clear T2; rintro e w' ⟨rfl, hb⟩; replace hst := hst.below hb; clear hb; clear hc1 hf1; obtain ⟨hc1, hf1, hl1⟩ := hst.c0))
      go_ret
      exact ⟨ret_str (by rw [← TOK.out [109, 111, 118, 101] c.vol (by rw [HK.out]; rfl) (by rw [HK.out]; decide) (by rw [HK.out]; rfl)]; rfl), hst.base⟩
    · have HK := Lib.hid hk
      go_enter Tryd.func14, Tryd.ntmps14
      go_wp2_with (first | ((with_reducible refine at_dst (N := 1) rfl ?_); refine wpList_box hst 23 c.cells rfl ?hr ?_; (case hr => first | (go_simp; done) | (go_simp; rfl)); clear hst; intro g1 w1 hst; obtain ⟨hc1, hf1, hl1⟩ := hst.c0) | ((with_reducible refine at_dst (N := 4) rfl ?_); (refine wpList_load_own hst ⟨g1, c.cells, 23⟩ (by simp) rfl _ rfl rfl _ rfl Tryd.underlying23 (by kernel_rfl) ?_)) | (go_at_call 12; refine (K1.out _).mono ?_; rintro e w' ⟨rfl, hb⟩; replace hst := hst.below hb; clear hb; clear hc1 hf1; obtain ⟨hc1, hf1, hl1⟩ := hst.c0) | (go_at_call 39; refine (T2.out _).mono ?_; clear T2; rintro e w' ⟨rfl, hb⟩; replace hst := hst.below hb; clear hb; clear hc1 hf1; obtain ⟨hc1, hf1, hl1⟩ := hst.c0))
      go_ret
      exact ⟨ret_str (by rw [← TOK.out [110, 111, 116, 101] c.vol (by rw [HK.out]; rfl) (by rw [HK.out]; decide) (by rw [HK.out]; rfl)]; rfl), hst.base⟩
end Go.Proofs.YtklpamhhbigjfaaDoor
