/- Chapter 47: the example holds: awake. -/
import Derived.Test.YtklpamhhbigjfaaDoorSame47
import Derived.Test.YtklpamhhbigjfaaDoorLawDec47
import Derived.Test.YtklpamhhbigjfaaDoorDecW47
import Derived.Test.YtklpamhhbigjfaaDoorText47
import Derived.Test.YtklpamhhbigjfaaDoorUnit47
namespace Go.Proofs.YtklpamhhbigjfaaDoor
open Go.RowKit
set_option linter.unusedSimpArgs false
set_option linter.unusedVariables false

abbrev exA : Chg := ⟨1, 3, ⟨#[107]⟩, ⟨#[]⟩, ⟨#[]⟩⟩
abbrev exB : Chg := ⟨3, 4, ⟨#[]⟩, ⟨#[]⟩, ⟨#[]⟩⟩
abbrev exL : List Chg := [exA, exB]
theorem ex_validA : exA.valid = true := by decide +kernel
theorem ex_validB : exB.valid = true := by decide +kernel
theorem ex_sound : soundB 7 262145 exL = true := by decide +kernel
theorem ex_size : (encR 7 262145 exL).size ≤ 16384 := by
  have h := encL_size exL (numS 7 ++ numS 262145 ++ numS 2) (fun c hc => (sound_facts ex_sound).2 c hc)
  have n1 := numS_size (n := 7) (by omega)
  have n2 := numS_size (n := 262145) (by omega)
  have n3 := numS_size (n := 2) (by omega)
  have e : encR 7 262145 exL = encL (numS 7 ++ numS 262145 ++ numS 2) exL := rfl
  rw [e]
  simp only [ByteArray.size_append, List.length_cons, List.length_nil] at h
  omega
theorem ex_enc : encE 7 262145 exL = 0 ∧ encS 7 262145 exL = encR 7 262145 exL := by
  have h : encE 7 262145 exL = 0 := by rw [encE, if_pos ex_sound, if_pos ex_size]
  exact ⟨h, by rw [encS, if_pos h]⟩
theorem ex_txtA : txtC exA = ⟨#[101, 114, 97, 115, 101, 32, 51, 32, 54, 98]⟩ := by decide +kernel
theorem ex_txtB : txtC exB = ⟨#[101, 109, 112, 116, 121, 32, 52]⟩ := by decide +kernel

abbrev exC : Array Value := #[.int .i64 1, .int .i64 3, .string ⟨#[107]⟩, .string ⟨#[]⟩, .string ⟨#[]⟩, .int .i64 3, .int .i64 4, .string ⟨#[]⟩, .string ⟨#[]⟩, .string ⟨#[]⟩]
theorem ex_chgs {w : World} {g : Nat} (hc : ∀ i, w.cell? ⟨g, i, none⟩ = exC[i]?) (hl : g < w.heap.size) : Chgs w (some ⟨g, 0, none⟩) exL := by
  refine Or.inr ⟨g, 0, rfl, hl, fun j hj i hi => ?_⟩
  rw [hc]
  have hj2 : j = 0 ∨ j = 1 := by simp at hj; omega
  have hi2 : i = 0 ∨ i = 1 ∨ i = 2 ∨ i = 3 ∨ i = 4 := by omega
  rcases hj2 with rfl | rfl <;> rcases hi2 with rfl | rfl | rfl | rfl | rfl <;> rfl
set_option maxHeartbeats 2000000 in
set_option maxRecDepth 100000 in
theorem awake47_any (w : World) :
    Calls Tryd.prog 10 #[] w fun e w' => e = .returned (.bool true) ∧ Below w.heap.size w w' := by
  have hst := St.start w
  have k1 := fun (ao : Option Addr) (w : World) => encodeP_any 7 262145 exL ao 2 w (by decide)
  rw [ex_enc.1, ex_enc.2] at k1
  obtain ⟨S, hS⟩ : ∃ S, S = encR 7 262145 exL := ⟨_, rfl⟩
  have k2 := fun w => decodeW_any S w (by have := ex_size; rw [hS]; omega)
  have hd := dec_enc ex_sound ex_size
  rw [← hS] at k1 hd
  have k3 := fun w => text47_any exA w (by decide) (fun _ => ⟨by decide, by decide, Or.inl (by decide)⟩) (fun _ => ⟨by decide, by decide, Or.inl (by decide)⟩)
  have k4 := fun w => text47_any exB w (by decide) (fun _ => ⟨by decide, by decide, Or.inl (by decide)⟩) (fun _ => ⟨by decide, by decide, Or.inl (by decide)⟩)
  rw [ex_txtA] at k3
  rw [ex_txtB] at k4
  have k5 := fun w => creator_any 4194322 w
  rw [show creV 4194322 = 262145 from by decide] at k5
  have K5 := Lib.hid k5
  clear k5
  have hsz : ∀ c ∈ exL, c.Sz := by
    intro c hc
    have : c = exA ∨ c = exB := by simpa using hc
    rcases this with rfl | rfl <;> exact ⟨by decide, by decide, by decide⟩
  have K1 := Lib.hid k1
  have K2 := Lib.hid k2
  have T3 := Lib.hid k3
  have T4 := Lib.hid k4
  have HD := Lib.hid hd
  have HSZ := Lib.hid hsz
  clear k1 k2 k3 k4 hd hS hsz
  go_enter Tryd.func10, Tryd.ntmps10
  go_wp2_with (first | (go_at_call 24; refine (unit_any _ _ _ _).mono ?_; rintro e w' ⟨rfl, rfl⟩; rw [show unitV 1 1 1 = 262145 from by decide, show unitE 1 1 1 = 0 from by decide])  | (((with_reducible refine at_dst (N := 17) rfl ?_); refine wpList_boxS hst 23 exC 2 2 rfl ?hr ?_; (case hr => first | (go_simp; done) | (go_simp; rfl)); clear hst; intro g1 w1 hst; obtain ⟨hc1, hf1, hl1⟩ := hst.c0)) | (((with_reducible refine at_dst (N := 3) rfl ?_); refine wpList_box hst 29 zeroR rfl ?hr ?_; (case hr => first | (go_simp; done) | (go_simp; rfl)); clear hst; intro g2 w2 hst; obtain ⟨hc2, hf2, hl2⟩ := hst.c0); clear hc1 hf1 hc2 hf2; obtain ⟨hc2, hf2, hl2⟩ := hst.c0; obtain ⟨hc1, hf1, hl1⟩ := hst.c1) | ((with_reducible refine at_store (p := 3) rfl ?_); refine wpList_put0 hst rfl _ _ rfl (recC 7 262145 (some ⟨g1, 0, none⟩) 2 2) rfl rfl (by kernel_rfl) rfl (by simp [rangeV, Value.oneCell']) ?_; clear hst; intro wp hst; clear hc1 hf1 hc2 hf2; obtain ⟨hc2, hf2, hl2⟩ := hst.c0; obtain ⟨hc1, hf1, hl1⟩ := hst.c1)  | ((with_reducible refine at_dst (N := 20) rfl ?_); (refine wpList_load_own hst ⟨g2, (recC 7 262145 (some ⟨g1, 0, none⟩) 2 2), 29⟩ (by simp) rfl _ rfl rfl _ rfl Tryd.underlying29 (by kernel_rfl) ?_)) | (go_at_call 17; refine (K1.out _ _ (ex_chgs hc1 hl1) HSZ.out).mono ?_; rintro e w' ⟨rfl, hb⟩; replace hst := hst.below hb; clear hb; clear hc1 hf1 hc2 hf2; obtain ⟨hc2, hf2, hl2⟩ := hst.c0; obtain ⟨hc1, hf1, hl1⟩ := hst.c1)  | (go_at_call 15; refine (K2.out _).mono ?_; rintro e w' ⟨ao, cap, rfl, hb, hx⟩; obtain ⟨d1, d2, d3, d4⟩ := HD.out; rw [d4] at hx; rw [d1, d2, d3, d4]; clear d1 d2 d3 d4; have hsta := hst.below hb; clear hst hc1 hf1 hl1 hc2 hf2 hl2 hb; have hst := St.start w')  | ((with_reducible refine at_dst (N := 6) rfl ?_); refine wpList_box hst 29 zeroR rfl ?hr ?_; (case hr => first | (go_simp; done) | (go_simp; rfl)); clear hst; intro g6 w6 hst; obtain ⟨hc6, hf6, hl6⟩ := hst.c0) | ((with_reducible refine at_store (p := 6) rfl ?_); refine wpList_put0 hst rfl _ _ rfl (recC 7 262145 ao 2 cap) rfl rfl (by kernel_rfl) rfl (by simp [rangeV, Value.oneCell']) ?_; clear hst; intro wp hst; (replace hx := hx.below hst.base; replace hst := hsta.call hst; clear hsta hc6 hf6 hl6; obtain ⟨hc6, hf6, hl6⟩ := hst.c0; obtain ⟨hc2, hf2, hl2⟩ := hst.c1; obtain ⟨hc1, hf1, hl1⟩ := hst.c2))  | (go_at_call 19; refine (id_any _ _ _).mono ?_; rintro e w' ⟨rfl, rfl⟩; rw [show idV 262145 2 = 4194322 from by decide, show idE 262145 2 = 0 from by decide])  | (simp only [List.cons_append, List.nil_append] at hst; go_at_call 16; refine (same_any 7 262145 7 262145 exL exL ao (some ⟨g1, 0, none⟩) cap 2 _ (by decide) (by decide) hx (ex_chgs hc1 hl1)).mono ?_; rw [show decide ((7 : Int) = 7 ∧ (262145 : Int) = 262145 ∧ exL = exL) = true from decide_eq_true ⟨rfl, rfl, rfl⟩]; clear hx; rintro e w' ⟨rfl, hb⟩; replace hst := hst.below hb; clear hb; clear hc1 hf1 hc2 hf2 hc6 hf6; obtain ⟨hc6, hf6, hl6⟩ := hst.c0; obtain ⟨hc2, hf2, hl2⟩ := hst.c1; obtain ⟨hc1, hf1, hl1⟩ := hst.c2)  | (go_at_call 30; refine (last_any 7 262145 (some ⟨g1, 0, none⟩) 2 2 _ (by omega) (by omega) (by omega)).mono ?_; rintro e w' ⟨rfl, hb⟩; replace hst := hst.below hb; clear hb; clear hc1 hf1 hc2 hf2 hc6 hf6; obtain ⟨hc6, hf6, hl6⟩ := hst.c0; obtain ⟨hc2, hf2, hl2⟩ := hst.c1; obtain ⟨hc1, hf1, hl1⟩ := hst.c2)  | (go_at_call 13; refine (T3.out _).mono ?_; clear T3; rintro e w' ⟨rfl, hb⟩; replace hst := hst.below hb; clear hb; clear hc1 hf1 hc2 hf2 hc6 hf6; obtain ⟨hc6, hf6, hl6⟩ := hst.c0; obtain ⟨hc2, hf2, hl2⟩ := hst.c1; obtain ⟨hc1, hf1, hl1⟩ := hst.c2)  | (go_at_call 13; refine (T4.out _).mono ?_; clear T4; rintro e w' ⟨rfl, hb⟩; replace hst := hst.below hb; clear hb; clear hc1 hf1 hc2 hf2 hc6 hf6; obtain ⟨hc6, hf6, hl6⟩ := hst.c0; obtain ⟨hc2, hf2, hl2⟩ := hst.c1; obtain ⟨hc1, hf1, hl1⟩ := hst.c2)  | (go_at_call 20; refine (K5.out _).mono ?_; rintro e w' ⟨rfl, hw⟩; subst hw))
  go_ret
  exact ⟨rfl, hst.base⟩
end Go.Proofs.YtklpamhhbigjfaaDoor
