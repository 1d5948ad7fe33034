/- The reference of chapter 47: Changes, Same. -/
import Derived.Test.YtklpamhhbigjfaaDoorRec47
import Derived.BigQuiet
namespace Go.Proofs.YtklpamhhbigjfaaDoor
open Go.RowKit
set_option linter.unusedSimpArgs false
set_option linter.unusedVariables false

deriving instance DecidableEq for Chg
theorem toList_iff (a b : ByteArray) : a.toList = b.toList ↔ a = b := by
  constructor
  · intro h
    rw [ByteArray.toList_eq, ByteArray.toList_eq] at h
    obtain ⟨⟨x⟩⟩ := a
    obtain ⟨⟨y⟩⟩ := b
    simp_all
  · rintro rfl; rfl
theorem run_neqChg (x y : Chg) (w : World) :
    (Go.binOp .neq 23 (.agg #[.int .i64 x.kind, .int .i64 x.id, .string x.key, .string x.rcd, .string x.vol]) (.agg #[.int .i64 y.kind, .int .i64 y.id, .string y.key, .string y.rcd, .string y.vol])).run Tryd.prog w = .ok (.bool (!decide (x = y))) w := by
  obtain ⟨a1, a2, a3, a4, a5⟩ := x
  obtain ⟨b1, b2, b3, b4, b5⟩ := y
  rw [run_neq_struct]
  go_simp
  simp only [toList_iff]
  repeat (split; skip)
  all_goals simp_all
attribute [go_sem high] run_neqChg

def takeEq (k : Nat) (l m : List Chg) : Prop := ∀ j (h1 : j < l.length) (h2 : j < m.length), j < k → l[j] = m[j]
theorem takeEq_all {n : Nat} {l m : List Chg} (h1 : l.length = n) (h2 : m.length = n) (h : takeEq n l m) : l = m :=
  List.ext_getElem (by omega) fun j a b => h j a b (by omega)

set_option maxHeartbeats 1000000 in
theorem changes_any (l m : List Chg) (ao bo : Option Addr) (ca cb : Nat) (w : World) (hl : l.length ≤ 140737488355328) (hm : m.length ≤ 140737488355328) (h1 : Chgs w ao l) (h2 : Chgs w bo m) :
    Calls Tryd.prog 46 #[.slice ao l.length ca, .slice bo m.length cb] w fun e w' => e = .returned (.bool (decide (l = m))) ∧ Below w.heap.size w w' := by
  obtain ⟨n, hn⟩ : ∃ n, n = l.length := ⟨_, rfl⟩
  obtain ⟨n2, hn2⟩ : ∃ n, n = m.length := ⟨_, rfl⟩
  rw [← hn] at hl ⊢
  rw [← hn2] at hm ⊢
  have HN := Lib.hid hn
  have HN2 := Lib.hid hn2
  have H1 := Lib.hid h1
  have H2 := Lib.hid h2
  have hb0 : Below w.heap.size w w := Below.refl _ _
  clear hn hn2 h1 h2
  by_cases he : n = n2
  · subst he
    go_enter Tryd.func46, Tryd.ntmps46
    go_wp2
    go_loopw [5] (fun t wr => ∃ k : Nat, k ≤ n ∧ t = .int .i64 k ∧ Hid (takeEq k l m) ∧ Below w.heap.size w wr) (fun t _ => n - (intOf t).toNat)
    case atStart => exact ⟨0, Nat.zero_le _, rfl, fun j _ _ hj => absurd hj (by omega), Below.refl _ _⟩
    case round =>
      obtain ⟨k, hk, rfl, HZ, hbel⟩ := hrel
      by_cases hlt : k < n
      · have hk1 : k < l.length := by rw [← HN.out]; exact hlt
        have hk2 : k < m.length := by rw [← HN2.out]; exact hlt
        obtain ⟨x, hx⟩ : ∃ c, c = l[k] := ⟨_, rfl⟩
        obtain ⟨y, hy⟩ : ∃ c, c = m[k] := ⟨_, rfl⟩
        obtain ⟨b, off, rfl, hb, hat⟩ : ∃ b off, ao = some ⟨b, off, none⟩ ∧ b < w.heap.size ∧ ChgsAt w b off l := by
          rcases H1.out with h | h
          · rw [h] at hk1; simp at hk1
          · exact h
        obtain ⟨b2, off2, rfl, hb2, hat2⟩ : ∃ b off, bo = some ⟨b, off, none⟩ ∧ b < w.heap.size ∧ ChgsAt w b off m := by
          rcases H2.out with h | h
          · rw [h] at hk2; simp at hk2
          · exact h
        obtain ⟨c0, c1, c2, c3, c4⟩ := (hat.below hb hbel).get hk1 hx
        obtain ⟨d0, d1, d2, d3, d4⟩ := (hat2.below hb2 hbel).get hk2 hy
        have HX := Lib.hid hx
        have HY := Lib.hid hy
        clear hat hat2 hx hy
        by_cases hxy : x = y
        · have e1 : decide (x = y) = true := decide_eq_true hxy
          have HXY := Lib.hid hxy
          clear hxy
          go_wp2
          go_quiet (fail)
          have hbel2 : Below w.heap.size w (wr.drewN nq) := below_drewN hbel nq
          go_wp2
          go_roundw
          case measure => simp [intOf]; omega
          case rel =>
            refine ⟨k + 1, by omega, by go_num, fun j ha hb hj => ?_, hbel2⟩
            by_cases e : j = k
            · subst e; rw [← HX.out, ← HY.out]; exact HXY.out
            · exact HZ.out j ha hb (by omega)
        · have e1 : decide (x = y) = false := decide_eq_false hxy
          have HXY := Lib.hid hxy
          clear hxy
          go_wp2
          go_quiet (fail)
          have hbel2 : Below w.heap.size w (wr.drewN nq) := below_drewN hbel nq
          go_wp2
          go_ret
          exact ⟨ret_bool (decide_eq_false (fun h => HXY.out (by rw [HX.out, HY.out]; subst h; rfl))).symm, hbel2⟩
      · go_wp2
        go_ret
        exact ⟨ret_bool (decide_eq_true (takeEq_all HN.out.symm HN2.out.symm (by have e : k = n := by omega
                                                                                 rw [← e]; exact HZ.out))).symm, hbel⟩
  · go_enter Tryd.func46, Tryd.ntmps46
    go_wp2
    go_ret
    exact ⟨ret_bool (decide_eq_false (fun h => he (by rw [HN.out, HN2.out, h]))).symm, hb0⟩

set_option maxHeartbeats 1000000 in
theorem same_any (n1 u1 n2 u2 : Int) (l m : List Chg) (ao bo : Option Addr) (ca cb : Nat) (w : World) (hl : l.length ≤ 140737488355328) (hm : m.length ≤ 140737488355328) (h1 : Chgs w ao l) (h2 : Chgs w bo m) :
    Calls Tryd.prog 16 #[.agg (recC n1 u1 ao l.length ca), .agg (recC n2 u2 bo m.length cb)] w fun e w' => e = .returned (.bool (decide (n1 = n2 ∧ u1 = u2 ∧ l = m))) ∧ Below w.heap.size w w' := by
  have hst := St.start w
  obtain ⟨V, hV⟩ : ∃ V, V = decide (l = m) := ⟨_, rfl⟩
  have e0 : decide (n1 = n2 ∧ u1 = u2 ∧ l = m) = (decide (n1 = n2) && decide (u1 = u2) && V) := by
    rw [hV, Bool.eq_iff_iff]; simp [and_assoc]
  rw [e0]
  have k1 := fun w => changes_any l m ao bo ca cb w hl hm
  rw [← hV] at k1
  have K1 := Lib.hid k1
  have H1 := Lib.hid h1
  have H2 := Lib.hid h2
  obtain ⟨a, ha⟩ : ∃ a, a = l.length := ⟨_, rfl⟩
  obtain ⟨b, hb⟩ : ∃ b, b = m.length := ⟨_, rfl⟩
  rw [← ha, ← hb] at K1 ⊢
  clear h1 h2 e0 k1 hV ha hb
  by_cases hn : n1 = n2
  · subst hn
    by_cases hu : u1 = u2
    · subst hu
      go_enter Tryd.func16, Tryd.ntmps16
      go_wp2_with (first | ((with_reducible refine at_dst (N := 2) rfl ?_); refine wpList_box hst 29 (recC n1 u1 ao a ca) rfl ?hr ?_; (case hr => first | (go_simp; done) | (go_simp; rfl)); clear hst; intro g1 w1 hst; obtain ⟨hc1, hf1, hl1⟩ := hst.c0) | (((with_reducible refine at_dst (N := 3) rfl ?_); refine wpList_box hst 29 (recC n1 u1 bo b cb) rfl ?hr ?_; (case hr => first | (go_simp; done) | (go_simp; rfl)); clear hst; intro g2 w2 hst; obtain ⟨hc2, hf2, hl2⟩ := hst.c0); clear hc1 hf1 hc2 hf2; obtain ⟨hc2, hf2, hl2⟩ := hst.c0; obtain ⟨hc1, hf1, hl1⟩ := hst.c1)  | (go_at_call 46; refine (K1.out _ (H1.out.below hst.base) (H2.out.below hst.base)).mono ?_; rintro e w' ⟨rfl, hb⟩; replace hst := hst.below hb; clear hb; clear hc1 hf1 hc2 hf2; obtain ⟨hc2, hf2, hl2⟩ := hst.c0; obtain ⟨hc1, hf1, hl1⟩ := hst.c1))
      go_ret
      exact ⟨ret_bool (by simp), hst.base⟩
    · go_enter Tryd.func16, Tryd.ntmps16
      go_wp2_with (first | ((with_reducible refine at_dst (N := 2) rfl ?_); refine wpList_box hst 29 (recC n1 u1 ao a ca) rfl ?hr ?_; (case hr => first | (go_simp; done) | (go_simp; rfl)); clear hst; intro g1 w1 hst; obtain ⟨hc1, hf1, hl1⟩ := hst.c0) | (((with_reducible refine at_dst (N := 3) rfl ?_); refine wpList_box hst 29 (recC n1 u2 bo b cb) rfl ?hr ?_; (case hr => first | (go_simp; done) | (go_simp; rfl)); clear hst; intro g2 w2 hst; obtain ⟨hc2, hf2, hl2⟩ := hst.c0); clear hc1 hf1 hc2 hf2; obtain ⟨hc2, hf2, hl2⟩ := hst.c0; obtain ⟨hc1, hf1, hl1⟩ := hst.c1))
      go_ret
      exact ⟨ret_bool (by simp [hu]), hst.base⟩
  · go_enter Tryd.func16, Tryd.ntmps16
    go_wp2_with (first | ((with_reducible refine at_dst (N := 2) rfl ?_); refine wpList_box hst 29 (recC n1 u1 ao a ca) rfl ?hr ?_; (case hr => first | (go_simp; done) | (go_simp; rfl)); clear hst; intro g1 w1 hst; obtain ⟨hc1, hf1, hl1⟩ := hst.c0) | (((with_reducible refine at_dst (N := 3) rfl ?_); refine wpList_box hst 29 (recC n2 u2 bo b cb) rfl ?hr ?_; (case hr => first | (go_simp; done) | (go_simp; rfl)); clear hst; intro g2 w2 hst; obtain ⟨hc2, hf2, hl2⟩ := hst.c0); clear hc1 hf1 hc2 hf2; obtain ⟨hc2, hf2, hl2⟩ := hst.c0; obtain ⟨hc1, hf1, hl1⟩ := hst.c1))
    go_ret
    exact ⟨ret_bool (by simp [hn]), hst.base⟩
end Go.Proofs.YtklpamhhbigjfaaDoor
