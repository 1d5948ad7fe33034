/- key.Valid (chapter 16) as the program and as the reference have it: both return the chapter's definition. -/
import Derived.Test.YtcdlcdibcekahaaDS
namespace Go.Proofs.Ytcdlcdibcekahaa
open Go.RowKit
set_option linter.unusedSimpArgs false
set_option linter.unusedVariables false
set_option maxHeartbeats 400000 in
theorem within_any (a b c : Int) (w : World) :
    Calls Try.prog 81 #[.int .i64 a, .int .i64 b, .int .i64 c] w fun e w' => e = .returned (.bool (decide (b ≤ a ∧ a ≤ c))) ∧ w = w' := by
  go_enter Try.func81, Try.ntmps81
  go_wp2
  all_goals (go_ret; exact ⟨by simp [*]; try omega, rfl⟩)

/-- the interval is one of the three -/
def DS.IvOk (d : DS) : Prop := d.intv = 128 ∨ d.intv = 256 ∨ d.intv = 512
instance (d : DS) : Decidable d.IvOk := by unfold DS.IvOk; infer_instance
/-- the chapter's definition of a valid description -/
def DS.KV (d : DS) : Prop := d.IvOk ∧ (1 ≤ d.org ∧ d.org ≤ 3) ∧ (1 ≤ d.len ∧ d.len ≤ 200 ∧ d.len ≤ d.intv - 7) ∧ (d.fmt = 0 ∧ d.block = 0) ∧
  (d.org = 3 → d.len ≤ d.intv / 2 - 8 ∧ 0 ≤ d.keyAt ∧ (1 ≤ d.keyLen ∧ d.keyLen ≤ d.intv / 16) ∧ d.keyAt + d.keyLen ≤ d.len ∧ (2 ≤ d.area ∧ d.area ≤ 8) ∧ (0 ≤ d.freeI ∧ d.freeI ≤ 90) ∧ (0 ≤ d.freeA ∧ d.freeA ≤ d.area - 1)) ∧
  (d.org ≠ 3 → d.keyAt = 0 ∧ d.keyLen = 0 ∧ d.area = 0 ∧ d.freeI = 0 ∧ d.freeA = 0)
instance (d : DS) : Decidable d.KV := by unfold DS.KV; infer_instance
def DS.kvalid (d : DS) : Bool := decide d.KV
theorem DS.kvalid_iff (d : DS) : d.kvalid = true ↔ d.KV := decide_eq_true_iff

def DS.seen (d : DS) (k : Nat) : Bool := (decide (1 ≤ k) && d.intv == 128) || (decide (2 ≤ k) && d.intv == 256) || (decide (3 ≤ k) && d.intv == 512)
theorem DS.seen3 (d : DS) : d.seen 3 = decide d.IvOk := by
  unfold DS.seen DS.IvOk
  by_cases h1 : d.intv = 128 <;> by_cases h2 : d.intv = 256 <;> by_cases h3 : d.intv = 512 <;> simp [h1, h2, h3]

theorem kv_no (d : DS) (w : World) (hiv : ¬ d.IvOk) :
    Calls Try.prog 50 #[d.v] w fun e w' => e = .returned (.bool false) ∧ Below w.heap.size w w' := by
  have i0 : ∀ w, (Instr.index 119 (.agg #[.int .i64 128, .int .i64 256, .int .i64 512]) (.int .i64 0)).run Try.prog w = .ok (.int .i64 128) w := fun _ => by kernel_rfl
  have i1 : ∀ w, (Instr.index 119 (.agg #[.int .i64 128, .int .i64 256, .int .i64 512]) (.int .i64 1)).run Try.prog w = .ok (.int .i64 256) w := fun _ => by kernel_rfl
  have i2 : ∀ w, (Instr.index 119 (.agg #[.int .i64 128, .int .i64 256, .int .i64 512]) (.int .i64 2)).run Try.prog w = .ok (.int .i64 512) w := fun _ => by kernel_rfl
  have n1 : (d.intv == 128) = false := by unfold DS.IvOk at hiv; simp; omega
  have n2 : (d.intv == 256) = false := by unfold DS.IvOk at hiv; simp; omega
  have n3 : (d.intv == 512) = false := by unfold DS.IvOk at hiv; simp; omega
  clear hiv
  have hst := St.start w
  go_enter Try.func50, Try.ntmps50
  go_wp2_with (first | ((with_reducible refine at_dst (N := 1) rfl ?_); refine wpList_box hst 23 d.cells rfl ?hr ?_; (case hr => first | (go_simp; done) | (go_simp; rfl)); clear hst; intro g1 w1 hst; obtain ⟨hc1, hf1, hl1⟩ := hst.c0))
  go_rounds 4
  all_goals (go_ret; exact ⟨rfl, hst.base.alloc hst.base.size _⟩)


theorem zeros_any (g n c : Nat) (w : World) (l : List Int) (hn : l.length = n) (hm : n ≤ 9223372036854775807)
    (hc : ∀ j, j < n → w.cell? ⟨g, j, none⟩ = some (.int .i64 (l.getD j 0))) :
    Calls Try.prog 82 #[.slice (some ⟨g, 0, none⟩) n c] w fun e w' => e = .returned (.bool (l.all (· == 0))) ∧ w = w' := by
  have HC : Hid (∀ j, j < n → w.cell? ⟨g, j, none⟩ = some (.int .i64 (l.getD j 0))) := hc
  clear hc
  have HN := Lib.hid hn
  clear hn
  go_enter Try.func82, Try.ntmps82
  go_wp2
  go_loop [7] (fun i => ∃ k : Nat, k ≤ n ∧ i = .int .i64 k ∧ ∀ j, j < k → l.getD j 0 = 0) (fun i => n - (intOf i).toNat)
  case atStart => exact ⟨0, Nat.zero_le _, rfl, fun j hj => absurd hj (by omega)⟩
  case round =>
    obtain ⟨k, hk, rfl, hz⟩ := hrel
    have HZ : Hid (∀ j, j < k → l.getD j 0 = 0) := hz
    clear hz
    by_cases hlt : k < n
    · have hcell := HC.out k hlt
      obtain ⟨x, hx⟩ : ∃ x, x = l.getD k 0 := ⟨_, rfl⟩
      rw [← hx] at hcell
      have HX := Lib.hid hx
      clear hx
      by_cases h0 : x = 0
      · subst h0
        go_wp2
        go_round
        case rel =>
          refine ⟨k + 1, by omega, by go_num, fun j hj => ?_⟩
          by_cases e : j = k
          · rw [e]; exact HX.out.symm
          · exact HZ.out j (by omega)
        case measure => simp [intOf]; omega
      · have h0' : (x != 0) = true := by simpa using h0
        go_wp2
        go_ret
        refine ⟨ret_bool ?_, rfl⟩
        symm
        rw [List.all_eq_false]
        refine ⟨x, ?_, by simpa using h0⟩
        rw [HX.out]
        have := HN.out
        rw [List.getD_eq_getElem?_getD, List.getElem?_eq_getElem (by omega), Option.getD_some]
        exact List.getElem_mem _
    · go_wp2
      go_ret
      refine ⟨ret_bool ?_, rfl⟩
      symm
      rw [List.all_eq_true]
      intro x hx
      obtain ⟨j, hj, rfl⟩ := List.getElem_of_mem hx
      have := HZ.out j (by have := HN.out; omega)
      rw [List.getD_eq_getElem?_getD, List.getElem?_eq_getElem hj, Option.getD_some] at this
      simp [this]

theorem cells2 {w : World} {g : Nat} {a b : Int} (h0 : w.cell? ⟨g, 0, none⟩ = some (.int .i64 a)) (h1 : w.cell? ⟨g, 1, none⟩ = some (.int .i64 b)) :
    ∀ j, j < 2 → w.cell? ⟨g, j, none⟩ = some (.int .i64 ([a, b].getD j 0))
  | 0, _ => h0
  | 1, _ => h1
theorem cells5 {w : World} {g : Nat} {a b c d e : Int} (h0 : w.cell? ⟨g, 0, none⟩ = some (.int .i64 a)) (h1 : w.cell? ⟨g, 1, none⟩ = some (.int .i64 b))
    (h2 : w.cell? ⟨g, 2, none⟩ = some (.int .i64 c)) (h3 : w.cell? ⟨g, 3, none⟩ = some (.int .i64 d)) (h4 : w.cell? ⟨g, 4, none⟩ = some (.int .i64 e)) :
    ∀ j, j < 5 → w.cell? ⟨g, j, none⟩ = some (.int .i64 ([a, b, c, d, e].getD j 0))
  | 0, _ => h0
  | 1, _ => h1
  | 2, _ => h2
  | 3, _ => h3
  | 4, _ => h4

set_option maxHeartbeats 2000000 in
set_option maxRecDepth 100000 in
theorem kv_yes (d : DS) (w : World) (k : Int) (hiv : d.intv = k) (hk : k = 128 ∨ k = 256 ∨ k = 512) :
    Calls Try.prog 50 #[d.v] w fun e w' => e = .returned (.bool d.kvalid) ∧ Below w.heap.size w w' := by
  have i0 : ∀ w, (Instr.index 119 (.agg #[.int .i64 128, .int .i64 256, .int .i64 512]) (.int .i64 0)).run Try.prog w = .ok (.int .i64 128) w := fun _ => by kernel_rfl
  have i1 : ∀ w, (Instr.index 119 (.agg #[.int .i64 128, .int .i64 256, .int .i64 512]) (.int .i64 1)).run Try.prog w = .ok (.int .i64 256) w := fun _ => by kernel_rfl
  have i2 : ∀ w, (Instr.index 119 (.agg #[.int .i64 128, .int .i64 256, .int .i64 512]) (.int .i64 2)).run Try.prog w = .ok (.int .i64 512) w := fun _ => by kernel_rfl
  have hst := St.start w
  have hlo : 128 ≤ d.intv := by omega
  have hhi : d.intv ≤ 512 := by omega
  have Hiv : Hid (d.IvOk) := by unfold DS.IvOk; show _ ∨ _; omega
  clear hiv hk
  go_enter Try.func50, Try.ntmps50
  go_wp2_with (first | ((with_reducible refine at_dst (N := 1) rfl ?_); refine wpList_box hst 23 d.cells rfl ?hr ?_; (case hr => first | (go_simp; done) | (go_simp; rfl)); clear hst; intro g1 w1 hst; obtain ⟨hc1, hf1, hl1⟩ := hst.c0))
  go_loop [4, 6, 9] (fun s _ i => ∃ j : Nat, j ≤ 3 ∧ i = .int .i64 j ∧ s = .bool (d.seen j)) (fun _ _ i => 3 - (intOf i).toNat)
  case atStart => exact ⟨0, by omega, rfl, by simp [DS.seen]⟩
  case round =>
    obtain ⟨j, hj, rfl, rfl⟩ := hrel
    match j, hj with
    | 0, _ => 
      have hs : d.seen 0 = false := by simp [DS.seen]
      go_wp2
      go_round
      case rel => exact ⟨1, by omega, rfl, by simp [DS.seen]⟩
      case measure => simp [intOf]
    | 1, _ =>
      cases hs : d.seen 1 with
      | true =>
        go_wp2
        go_round
        case rel => exact ⟨2, by omega, rfl, by simp [DS.seen] at hs ⊢; simp [hs]⟩
        case measure => simp [intOf]
      | false =>
        go_wp2
        go_round
        case rel => exact ⟨2, by omega, rfl, by simp [DS.seen] at hs ⊢; simp [hs]⟩
        case measure => simp [intOf]
    | 2, _ =>
      cases hs : d.seen 2 with
      | true =>
        go_wp2
        go_round
        case rel => exact ⟨3, by omega, rfl, by simp [DS.seen] at hs ⊢; simp [hs]⟩
        case measure => simp [intOf]
      | false =>
        go_wp2
        go_round
        case rel => exact ⟨3, by omega, rfl, by simp [DS.seen] at hs ⊢; simp [hs]⟩
        case measure => simp [intOf]
    | 3, _ =>
      have hs : d.seen 3 = true := by rw [DS.seen3]; exact decide_eq_true Hiv.out
      go_wp2_with (first | (go_at_call 81; refine (within_any _ _ _ _).mono ?_; rintro e w' ⟨rfl, rfl⟩) | (go_at_call 82; refine (zeros_any _ _ _ _ [d.fmt, d.block] ?_ ?_ ?_).mono ?_; (focus (simp; done)); (focus (simp; done)); (focus (refine cells2 ?_ ?_ <;> simp [go_sem])); rintro e w' ⟨rfl, rfl⟩) | (go_at_call 82; refine (zeros_any _ _ _ _ [d.keyAt, d.keyLen, d.area, d.freeI, d.freeA] ?_ ?_ ?_).mono ?_; (focus (simp; done)); (focus (simp; done)); (focus (refine cells5 ?_ ?_ ?_ ?_ ?_ <;> simp [go_sem])); rintro e w' ⟨rfl, rfl⟩))
      all_goals have HI := Hiv.out
      all_goals (go_ret; go_light; refine ⟨ret_bool ?_, ?_⟩; (focus (rw [Bool.eq_iff_iff]; simp only [DS.kvalid_iff, DS.KV, DS.IvOk, bne_iff_ne, beq_iff_eq, Bool.not_eq_true', beq_eq_false_iff_ne, ne_eq, Bool.and_eq_true, Bool.or_eq_true, Bool.and_eq_false_iff, Bool.or_eq_false_iff, decide_eq_true_eq, decide_eq_false_iff_not, Bool.not_eq_false', Bool.not_eq_true, bne_eq_false_iff_eq, Bool.false_eq_true, false_iff, true_iff, iff_false, List.all_cons, List.all_nil, Bool.and_true] at *; first | omega | (clear hst; simp_all; done) | (clear hst; simp_all; omega) | (trace_state; fail "omega"))); (focus (have hbase := hst.base; have hsz := hst.base.size; go_grown)))

theorem kvalid_any (d : DS) (w : World) :
    Calls Try.prog 50 #[d.v] w fun e w' => e = .returned (.bool d.kvalid) ∧ Below w.heap.size w w' := by
  by_cases h : d.IvOk
  · exact kv_yes d w d.intv rfl h
  · have hk : d.kvalid = false := by
      unfold DS.kvalid DS.KV
      simp [h]
    rw [hk]
    exact kv_no d w h
end Go.Proofs.Ytcdlcdibcekahaa
