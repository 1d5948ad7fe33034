/- The reference of chapter 47: Valid. -/
import Derived.Test.YtklpamhhbigjfaaDoorVol47
import Derived.Test.YtklpamhhbigjfaaDoorKit3
namespace Go.Proofs.YtklpamhhbigjfaaDoor
open Go.RowKit
set_option linter.unusedSimpArgs false
set_option linter.unusedVariables false

theorem isE_iff (s : ByteArray) : s.toList.isEmpty = true ↔ s.size = 0 := by
  rw [List.isEmpty_iff, ByteArray.toList_eq]
  constructor
  · intro h
    have : s.data.toList.length = 0 := by rw [h]; rfl
    simpa using this
  · intro h
    have : s.data.toList.length = 0 := by simpa using h
    exact List.length_eq_zero_iff.1 this

theorem valid_form {c : Chg} {W : List UInt8} {a b x y : Int} {v : Bool} (hk : kHas c.kind = true) (hF : kF c.kind = (W, a, b, x, y, v)) (hi : c.idOk = true) :
    c.valid = (decide (a ≤ (c.key.size : Int)) && decide ((c.key.size : Int) ≤ b) && decide (x ≤ (c.rcd.size : Int)) && decide ((c.rcd.size : Int) ≤ y) && (if v then volOk c.vol else c.vol.toList.isEmpty)) := by
  rw [Chg.valid, hk, hi, hF]
  simp only [formOk, fitsB, Bool.decide_and, Bool.true_and, Bool.and_assoc]
theorem valid_else {c : Chg} (hk : kHas c.kind = false) : c.valid = false := by rw [Chg.valid, hk]; rfl
theorem kF0 : kF 0 = ([112, 117, 116], 1, 32, 1, 200, false) ∧ kHas 0 = true := by decide
theorem kF1 : kF 1 = ([101, 114, 97, 115, 101], 1, 32, 0, 0, false) ∧ kHas 1 = true := by decide
theorem kF2 : kF 2 = ([97, 112, 112, 101, 110, 100], 0, 0, 0, 1000, false) ∧ kHas 2 = true := by decide
theorem kF3 : kF 3 = ([101, 109, 112, 116, 121], 0, 0, 0, 0, false) ∧ kHas 3 = true := by decide
theorem kF4 : kF 4 = ([99, 114, 101, 97, 116, 101], 0, 0, 0, 400, true) ∧ kHas 4 = true := by decide
theorem kF5 : kF 5 = ([114, 101, 109, 111, 118, 101], 0, 0, 0, 0, true) ∧ kHas 5 = true := by decide
theorem kF6 : kF 6 = ([109, 111, 118, 101], 0, 0, 0, 400, true) ∧ kHas 6 = true := by decide
theorem kF7 : kF 7 = ([110, 111, 116, 101], 0, 0, 0, 400, true) ∧ kHas 7 = true := by decide
theorem valid_at {c : Chg} {k : Int} {W : List UInt8} {a b x y : Int} {v : Bool} (hk : c.kind = k) (h : kF k = (W, a, b, x, y, v) ∧ kHas k = true) (hi : c.idOk = true) :
    c.valid = (decide (a ≤ (c.key.size : Int)) && decide ((c.key.size : Int) ≤ b) && decide (x ≤ (c.rcd.size : Int)) && decide ((c.rcd.size : Int) ≤ y) && (if v then volOk c.vol else c.vol.toList.isEmpty)) :=
  valid_form (by rw [hk]; exact h.2) (by rw [hk]; exact h.1) hi
theorem emp_iff {s : ByteArray} : s = ByteArray.empty ↔ s.size = 0 := ByteArray.size_eq_zero_iff.symm
theorem and5_true {p q r s : Prop} [Decidable p] [Decidable q] [Decidable r] [Decidable s] {e : Bool} (h : p ∧ q ∧ r ∧ s) : e = (decide p && decide q && decide r && decide s && e) := by
  simp [h.1, h.2.1, h.2.2.1, h.2.2.2]
theorem and5_false {p q r s : Prop} [Decidable p] [Decidable q] [Decidable r] [Decidable s] {e : Bool} (h : ¬ (p ∧ q ∧ r ∧ s)) : false = (decide p && decide q && decide r && decide s && e) := by
  rw [← Bool.decide_and, ← Bool.decide_and, ← Bool.decide_and, decide_eq_false (by rintro ⟨⟨⟨h1, h2⟩, h3⟩, h4⟩; exact h ⟨h1, h2, h3, h4⟩)]
  rfl
set_option maxHeartbeats 2000000 in
set_option maxRecDepth 100000 in
theorem validR_any (c : Chg) (w : World) (hs : c.vol.size ≤ 140737488355328) (h1 : c.key.size ≤ 140737488355328) (h2 : c.rcd.size ≤ 140737488355328) :
    Calls Tryd.prog 12 #[c.v] w fun e w' => e = .returned (.bool c.valid) ∧ Below w.heap.size w w' := by
  have hst := St.start w
  cases hi : c.idOk with
  | false =>
    have HI := Lib.hid hi
    simp only [Chg.idOk, decide_eq_false_iff_not] at hi
    go_enter Tryd.func12, Tryd.ntmps12
    go_wp2_with (first | ((with_reducible refine at_dst (N := 1) rfl ?_); refine wpList_box hst 23 c.cells rfl ?hr ?_; (case hr => first | (go_simp; done) | (go_simp; rfl)); clear hst; intro g1 w1 hst; obtain ⟨hc1, hf1, hl1⟩ := hst.c0))
    all_goals (go_ret; exact ⟨ret_bool (by rw [Chg.valid, HI.out]; simp), hst.base⟩)
  | true =>
    have HI := Lib.hid hi
    simp only [Chg.idOk, decide_eq_true_eq] at hi
    obtain ⟨hi1, hi2⟩ := hi
    have hkk : c.kind = 0 ∨ c.kind = 1 ∨ c.kind = 2 ∨ c.kind = 3 ∨ c.kind = 4 ∨ c.kind = 5 ∨ c.kind = 6 ∨ c.kind = 7 ∨ c.kind < 0 ∨ 7 < c.kind := by omega
    rcases hkk with hk | hk | hk | hk | hk | hk | hk | hk | hk | hk <;>
    · have HK := Lib.hid hk
      have hvol := volume_any c.vol
      have HVOL := Lib.hid hvol
      clear hvol
      go_enter Tryd.func12, Tryd.ntmps12
      go_wp2_with (first | ((with_reducible refine at_dst (N := 1) rfl ?_); refine wpList_box hst 23 c.cells rfl ?hr ?_; (case hr => first | (go_simp; done) | (go_simp; rfl)); clear hst; intro g1 w1 hst; obtain ⟨hc1, hf1, hl1⟩ := hst.c0))
      obtain ⟨hne, hq1⟩ := hst.facts1; dsimp only at hq1
      (refine wp_region_st hst (by kernel_rfl) (by kernel_rfl) ?_; (repeat (first | go_big_quiet_skip | (go_big_quiet_want; first | fail | (go_big_quiet_op; first | go_big_quiet_on | go_big_quiet_call (fail))))); refine wpQuiet_nil ?_; clear hst; rintro _ ⟨⟨wq, hst⟩, rfl⟩; try dsimp only)
      obtain ⟨hc1, hf1, hl1⟩ := hst.c0
      go_wp2_with (first | (go_at_call 37; refine (HVOL.out _ hs).mono ?_; rintro e w' ⟨rfl, hb⟩; replace hst := hst.below hb; clear hb; clear hc1 hf1; obtain ⟨hc1, hf1, hl1⟩ := hst.c0))
      all_goals (go_ret; go_light; refine ⟨ret_bool ?_, hst.base⟩; clear hst HVOL)
      all_goals first  | (rw [valid_at HK.out kF0 HI.out]) | (rw [valid_at HK.out kF1 HI.out]) | (rw [valid_at HK.out kF2 HI.out]) | (rw [valid_at HK.out kF3 HI.out]) | (rw [valid_at HK.out kF4 HI.out]) | (rw [valid_at HK.out kF5 HI.out]) | (rw [valid_at HK.out kF6 HI.out]) | (rw [valid_at HK.out kF7 HI.out])  | (rw [valid_else (by simp only [kHas, decide_eq_false_iff_not]; omega)])
      all_goals try simp only [Bool.false_eq_true, if_false, if_true]
      all_goals first  | done  | (apply and5_true; (try simp only [emp_iff, beq_iff_eq, decide_eq_true_eq] at *); omega)  | (apply and5_false; (try simp only [emp_iff, beq_eq_false_iff_ne, beq_iff_eq, decide_eq_false_iff_not, ne_eq] at *); omega)
end Go.Proofs.YtklpamhhbigjfaaDoor
