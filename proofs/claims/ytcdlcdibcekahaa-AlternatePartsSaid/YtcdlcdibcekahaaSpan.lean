/- The package alternate: Span. -/
import Derived.Test.YtcdlcdibcekahaaAlt3
import Derived.Test.YtcdlcdibcekahaaShelf
namespace Go.Proofs.Ytcdlcdibcekahaa
open Go.RowKit
set_option linter.unusedSimpArgs false
set_option linter.unusedVariables false

/-- the range of the records with an alternate key -/
def spanE (d : DS) (k : ByteArray) : Int := if d.known = false then 1 else if (k.size : Int) ≠ d.altLen then 2 else 0
def spanHi (d : DS) (k : ByteArray) : ByteArray := if spanE d k = 0 then k ++ ⟨(List.replicate (d.keyLen - d.altLen).toNat 255).toArray⟩ else ⟨#[]⟩
def spanLo (d : DS) (k : ByteArray) : ByteArray := if spanE d k = 0 then k else ⟨#[]⟩

theorem repeatL_one (c : Nat) : Lib.repeatL [255] c = List.replicate c 255 := by
  induction c with
  | zero => rfl
  | succ n ih =>
    simp [Lib.repeatL, List.replicate_succ] at *
    exact ih

theorem repeat_any (c : Int) (w : World) (h0 : 0 ≤ c) (h1 : c ≤ 100) :
    Calls Try.prog 59 #[.string ⟨#[255]⟩, .int .i64 c] w fun e w' => e = .returned (.string ⟨(List.replicate c.toNat 255).toArray⟩) ∧ Below w.heap.size w w' := by
  obtain ⟨n, rfl⟩ := Int.eq_ofNat_of_zero_le h0
  have h := Try.strings_Repeat ⟨#[255]⟩ n w (by omega) (by show 1 * n ≤ _; omega)
  rw [show (⟨#[255]⟩ : ByteArray).data.toList = [255] from rfl, repeatL_one] at h
  exact h

set_option maxHeartbeats 1000000 in
theorem span_any (d : DS) (k : ByteArray) (w : World) (hsz : k.size ≤ 140737488355328) :
    Calls Try.prog 27 #[d.v, .string k] w fun e w' => e = .returned (.tuple #[.agg (rangeV (spanLo d k) (spanHi d k) false), .int .i64 (spanE d k)]) ∧ Below w.heap.size w w' := by
  have hst := St.start w
  cases hk : d.known with
  | false =>
    go_enter Try.func27, Try.ntmps27
    go_wp2_with (first | ((with_reducible refine at_dst (N := 2) rfl ?_); refine wpList_box hst 23 d.cells rfl ?hr ?_; (case hr => first | (go_simp; done) | (go_simp; rfl)); clear hst; intro g1 w1 hst; obtain ⟨hc1, hf1, hl1⟩ := hst.c0) | ((with_reducible refine at_dst (N := 4) rfl ?_); refine wpList_box hst 41 (rangeV ⟨#[]⟩ ⟨#[]⟩ false) rfl ?hr ?_; (case hr => first | (go_simp; done) | (go_simp; rfl)); clear hst; intro g2 w2 hst; obtain ⟨hc2, hf2, hl2⟩ := hst.c0) | (refine wpList_load_own hst ⟨g1, d.cells, 23⟩ (by simp) rfl _ rfl rfl _ rfl Try.underlying23 (by kernel_rfl) ?_) | (go_at_call 57; refine (known_any d _).mono ?_; rintro e w' ⟨rfl, hb⟩; replace hst := hst.below hb; clear hb; clear hc1 hf1 hc2 hf2; obtain ⟨hc2, hf2, hl2⟩ := hst.c0; obtain ⟨hc1, hf1, hl1⟩ := hst.c1) | ((with_reducible refine at_store (p := 4) rfl ?_); refine wpList_put0 hst rfl _ _ rfl (rangeV ⟨#[]⟩ ⟨#[]⟩ false) rfl rfl (by kernel_rfl) rfl (by simp [rangeV, Value.oneCell']) ?_; clear hst; intro wp hst; clear hc1 hf1 hc2 hf2; obtain ⟨hc2, hf2, hl2⟩ := hst.c0; obtain ⟨hc1, hf1, hl1⟩ := hst.c1))
    have e1 : spanE d k = 1 := by simp [spanE, hk]
    refine bodyPost_ret (results_cell_tmp rfl _ _ g2 _ (rangeV ⟨#[]⟩ ⟨#[]⟩ false) _ _ rfl (hst.blk _ List.mem_cons_self) (Try.underlying41) rfl (by kernel_rfl)) rfl ⟨?_, hst.base⟩
    simp [spanLo, spanHi, e1]
  | true =>
    have HK := Lib.hid ((DS.known_iff d).1 hk)
    have hbs := HK.out.baseSize
    obtain ⟨⟨b1, b2⟩, ⟨b3, b4⟩, b5⟩ := HK.out.bounds
    have c1 : 0 ≤ d.baseSize := by omega
    have c2 : d.baseSize ≤ 100 := by omega
    have HBS := Lib.hid hbs.1
    clear hbs
    by_cases h1 : (k.size : Int) = d.altLen
    · have h1b : ((k.size : Int) != d.altLen) = false := by simp [h1]
      have H1 := Lib.hid h1
      clear h1
      have hR : (List.replicate d.baseSize.toNat (255 : UInt8)).length ≤ 1000 := by simp; omega
      obtain ⟨hi, HI⟩ : ∃ hi, Hid (hi = (⟨(List.replicate d.baseSize.toNat 255).toArray⟩ : ByteArray)) := ⟨_, rfl⟩
      have hisz : hi.size ≤ 1000 := by rw [HI.out]; simp [ByteArray.size]; omega
      have hrep := repeat_any d.baseSize
      rw [← HI.out] at hrep
      have HREP := Lib.hid hrep
      clear hrep hR
      go_enter Try.func27, Try.ntmps27
      go_wp2_with (first | ((with_reducible refine at_dst (N := 2) rfl ?_); refine wpList_box hst 23 d.cells rfl ?hr ?_; (case hr => first | (go_simp; done) | (go_simp; rfl)); clear hst; intro g1 w1 hst; obtain ⟨hc1, hf1, hl1⟩ := hst.c0) | ((with_reducible refine at_dst (N := 4) rfl ?_); refine wpList_box hst 41 (rangeV ⟨#[]⟩ ⟨#[]⟩ false) rfl ?hr ?_; (case hr => first | (go_simp; done) | (go_simp; rfl)); clear hst; intro g2 w2 hst; obtain ⟨hc2, hf2, hl2⟩ := hst.c0) | (refine wpList_load_own hst ⟨g1, d.cells, 23⟩ (by simp) rfl _ rfl rfl _ rfl Try.underlying23 (by kernel_rfl) ?_) | (go_at_call 57; refine (known_any d _).mono ?_; rintro e w' ⟨rfl, hb⟩; replace hst := hst.below hb; clear hb; clear hc1 hf1 hc2 hf2; obtain ⟨hc2, hf2, hl2⟩ := hst.c0; obtain ⟨hc1, hf1, hl1⟩ := hst.c1) | (go_at_call 58; refine (baseSize_any d _).mono ?_; rintro e w' ⟨rfl, hb⟩; replace hst := hst.below hb; clear hb; clear hc1 hf1 hc2 hf2; obtain ⟨hc2, hf2, hl2⟩ := hst.c0; obtain ⟨hc1, hf1, hl1⟩ := hst.c1) | (go_at_call 59; refine (HREP.out _ c1 c2).mono ?_; rintro e w' ⟨rfl, hb⟩; replace hst := hst.below hb; clear hb; clear hc1 hf1 hc2 hf2; obtain ⟨hc2, hf2, hl2⟩ := hst.c0; obtain ⟨hc1, hf1, hl1⟩ := hst.c1) | ((with_reducible refine at_store (p := 4) rfl ?_); refine wpList_put0 hst rfl _ _ rfl (rangeV k (k ++ hi) false) rfl rfl (by kernel_rfl) rfl (by simp [rangeV, Value.oneCell']) ?_; clear hst; intro wp hst; clear hc1 hf1 hc2 hf2; obtain ⟨hc2, hf2, hl2⟩ := hst.c0; obtain ⟨hc1, hf1, hl1⟩ := hst.c1))
      have e1 : spanE d k = 0 := by simp [spanE, hk, H1.out]
      refine bodyPost_ret (results_cell_tmp rfl _ _ g2 _ (rangeV k (k ++ hi) false) _ _ rfl (hst.blk _ List.mem_cons_self) (Try.underlying41) rfl (by kernel_rfl)) rfl ⟨?_, hst.base⟩
      simp [spanLo, spanHi, e1, HI.out, HBS.out]
    · have h1b : ((k.size : Int) != d.altLen) = true := by simp [h1]
      have H1 := Lib.hid h1
      clear h1
      go_enter Try.func27, Try.ntmps27
      go_wp2_with (first | ((with_reducible refine at_dst (N := 2) rfl ?_); refine wpList_box hst 23 d.cells rfl ?hr ?_; (case hr => first | (go_simp; done) | (go_simp; rfl)); clear hst; intro g1 w1 hst; obtain ⟨hc1, hf1, hl1⟩ := hst.c0) | ((with_reducible refine at_dst (N := 4) rfl ?_); refine wpList_box hst 41 (rangeV ⟨#[]⟩ ⟨#[]⟩ false) rfl ?hr ?_; (case hr => first | (go_simp; done) | (go_simp; rfl)); clear hst; intro g2 w2 hst; obtain ⟨hc2, hf2, hl2⟩ := hst.c0) | (refine wpList_load_own hst ⟨g1, d.cells, 23⟩ (by simp) rfl _ rfl rfl _ rfl Try.underlying23 (by kernel_rfl) ?_) | (go_at_call 57; refine (known_any d _).mono ?_; rintro e w' ⟨rfl, hb⟩; replace hst := hst.below hb; clear hb; clear hc1 hf1 hc2 hf2; obtain ⟨hc2, hf2, hl2⟩ := hst.c0; obtain ⟨hc1, hf1, hl1⟩ := hst.c1) | ((with_reducible refine at_store (p := 4) rfl ?_); refine wpList_put0 hst rfl _ _ rfl (rangeV ⟨#[]⟩ ⟨#[]⟩ false) rfl rfl (by kernel_rfl) rfl (by simp [rangeV, Value.oneCell']) ?_; clear hst; intro wp hst; clear hc1 hf1 hc2 hf2; obtain ⟨hc2, hf2, hl2⟩ := hst.c0; obtain ⟨hc1, hf1, hl1⟩ := hst.c1))
      have e1 : spanE d k = 2 := by simp [spanE, hk, H1.out]
      refine bodyPost_ret (results_cell_tmp rfl _ _ g2 _ (rangeV ⟨#[]⟩ ⟨#[]⟩ false) _ _ rfl (hst.blk _ List.mem_cons_self) (Try.underlying41) rfl (by kernel_rfl)) rfl ⟨?_, hst.base⟩
      simp [spanLo, spanHi, e1]
end Go.Proofs.Ytcdlcdibcekahaa
