/- Chapter 47: Ids, of the program; the reference: Ints; slices of integers. -/
import Derived.Test.YtklpamhhbigjfaaDoorSortI47
import Derived.Test.YtklpamhhbigjfaaDoorSame47
namespace Go.Proofs.YtklpamhhbigjfaaDoor
open Go.RowKit
set_option linter.unusedSimpArgs false
set_option linter.unusedVariables false

abbrev iV (n : Int) : Value := .int .i64 n
/-- a slice of integers as it lies -/
def IntsIn (w : World) (v : Value) (zs : List Int) : Prop := ∃ ao cap, v = .slice ao zs.length cap ∧ (zs = [] ∨ ∃ b, ao = some ⟨b, 0, none⟩ ∧ b < w.heap.size ∧ ∀ j (h : j < zs.length), w.cell? ⟨b, j, none⟩ = some (iV zs[j]))
theorem IntsIn.below {w w1 : World} {v : Value} {zs : List Int} (h : IntsIn w v zs) (k : Below w.heap.size w w1) : IntsIn w1 v zs := by
  obtain ⟨ao, cap, h1, h2⟩ := h
  refine ⟨ao, cap, h1, ?_⟩
  rcases h2 with h2 | ⟨b, q1, q2, q3⟩
  · exact Or.inl h2
  · exact Or.inr ⟨b, q1, Nat.lt_of_lt_of_le q2 k.size, fun j hj => (k.cell (p := ⟨b, j, none⟩) q2).trans (q3 j hj)⟩
def OwnInts (zs : List Int) (w : World) (e : Ending) (w' : World) : Prop := ∃ v R, e = .returned v ∧ St w w' R ∧ RowIs 3 1 v zs.length (zs.map iV) R
theorem intsIn_row {w0 w : World} {L R : List BK} {v : Value} {zs : List Int} (hst : St w0 w (L ++ R)) (hr : RowIs 3 1 v zs.length (zs.map iV) R) : IntsIn w v zs := by
  rcases hr.2 with ⟨h1, h2, h3⟩ | ⟨g, cap, cs, hR, h1, h2, h3, h4, h5⟩
  · have : zs = [] := List.length_eq_zero_iff.1 h2
    subst this
    exact ⟨none, 0, h1, Or.inl rfl⟩
  · subst hR
    obtain ⟨a1, a2, a3⟩ := hst.at_ ⟨g, cs, 3⟩ (by simp)
    refine ⟨_, cap, h1, Or.inr ⟨g, rfl, a2, fun j hj => ?_⟩⟩
    rw [(St.cM (L2 := []) hst).1 j]
    have e : cs[j]? = (zs.map iV)[j]? := by
      rw [← h5, Nat.mul_one, List.getElem?_take_of_lt hj]
      simp
    simp [e, hj]
def idsS (l : List Chg) : List Int := Lib.compact ((l.map Chg.id).mergeSort fun x y => decide (x ≤ y))

set_option maxHeartbeats 2000000 in
set_option maxRecDepth 100000 in
theorem ids47_any (num unit : Int) (l : List Chg) (ao : Option Addr) (cap : Nat) (w : World) (hl : l.length ≤ 1000) (hc : Chgs w ao l) :
    Calls Tryd.prog 27 #[.agg (recC num unit ao l.length cap)] w (OwnInts (idsS l) w) := by
  have hst := St.start w
  obtain ⟨n, hn⟩ : ∃ n, n = l.length := ⟨_, rfl⟩
  rw [← hn] at hl ⊢
  have HC := Lib.hid hc
  have HN := Lib.hid hn
  clear hc hn
  go_enter Tryd.func27, Tryd.ntmps27
  go_wp2_with (first | ((with_reducible refine at_dst (N := 1) rfl ?_); refine wpList_box hst 29 (recC num unit ao n cap) rfl ?hr ?_; (case hr => first | (go_simp; done) | (go_simp; rfl)); clear hst; intro g1 w1 hst; obtain ⟨hc1, hf1, hl1⟩ := hst.c0))
  clear hc1 hf1 hl1
  replace hst := hst.sub (List.nil_sublist _)
  go_loopw [3, 9] (fun t3 t9 wr => ∃ (k : Nat) (R : List BK), t9 = .int .i64 k ∧ k ≤ n ∧ Hid (RowIs 3 1 t3 k (((l.take k).map Chg.id).map iV) R) ∧ St w wr R) (fun _ t9 _ => n - (intOf t9).toNat)
  case atStart => exact ⟨0, [], rfl, Nat.zero_le _, RowIs.nil _ _, hst⟩
  case round =>
    clear hst
    obtain ⟨k, R, rfl, hk, HR, hst⟩ := hrel
    by_cases hlt : k < n
    · have hkl : k < l.length := by rw [← HN.out]; exact hlt
      obtain ⟨c, hcc⟩ : ∃ c, c = l[k] := ⟨_, rfl⟩
      obtain ⟨b, off, rfl, hb, hat⟩ : ∃ b off, ao = some ⟨b, off, none⟩ ∧ b < w.heap.size ∧ ChgsAt w b off l := by
        rcases HC.out with h | h
        · rw [h] at hkl; simp at hkl
        · exact h
      obtain ⟨c0, c1, c2, c3, c4⟩ := (hat.below hb hst.base).get hkl hcc
      have HCC := Lib.hid hcc
      clear hcc hat
      go_wp2_with (first | (((with_reducible refine at_dst (N := 5) rfl ?_); refine wpList_box hst 23 #[.int .i64 0, .int .i64 0, .string ⟨#[]⟩, .string ⟨#[]⟩, .string ⟨#[]⟩] rfl ?hr ?_; (case hr => first | (go_simp; done) | (go_simp; rfl)); clear hst; intro g5 w5 hst; obtain ⟨hc5, hf5, hl5⟩ := hst.c0)) | ((with_reducible refine at_store (p := 5) rfl ?_); refine wpList_put0 hst rfl _ _ rfl c.cells rfl rfl (by kernel_rfl) rfl (by simp [rangeV, Value.oneCell']) ?_; clear hst; intro wp hst; (clear hc5 hf5; obtain ⟨hc5, hf5, hl5⟩ := hst.c0))  | (((with_reducible refine at_dst (N := 16) rfl ?_); refine wpList_boxS hst 3 #[.int .i64 c.id] 1 1 rfl ?hr ?_; (case hr => first | (go_simp; done) | (go_simp; rfl)); clear hst; intro g6 w6 hst; obtain ⟨hc6, hf6, hl6⟩ := hst.c0); clear hc5 hf5 hl5)  | ((with_reducible refine at_dst (N := 17) rfl ?_); refine wpList_append_row (L := [⟨g6, #[.int .i64 c.id], 3⟩, ⟨g5, c.cells, 23⟩]) hst HR.out rfl (.tmp 13) (.tmp 16) 48 rfl (.int .i64 0) 8 (Tryd.underlying48) (by kernel_rfl) rfl (by decide) rfl ⟨g6, 0, none⟩ 1 1 [.int .i64 c.id] rfl rfl (news_own hst) (by simp [Value.oneCell']) (by unfold maxLen; omega) (by omega) ?_; clear hst hc6 hf6 hl6 c0 c1 c2 c3 c4; intro v' R' w' hst HR3))
      go_roundw
      case measure => simp [intOf]; omega
      case rel =>
        refine ⟨k + 1, R', by go_num, by omega, ?_, hst.sub (((List.Sublist.refl _).cons _).cons _)⟩
        show RowIs _ _ _ _ _ _
        have e : ((l.take (k + 1)).map Chg.id).map iV = ((l.take k).map Chg.id).map iV ++ [.int .i64 c.id] := by
          rw [List.take_succ_eq_append_getElem hkl, ← HCC.out]
          simp
        rw [e]
        exact HR3
    · have hkn : k = n := by omega
      subst hkn
      have hr := HR.out
      obtain ⟨zs, hzs⟩ : ∃ zs, zs = l.map Chg.id := ⟨_, rfl⟩
      have hzl : k = zs.length := by rw [hzs, List.length_map]; exact HN.out
      have hids : idsS l = Lib.compact (zs.mergeSort fun x y => decide (x ≤ y)) := by rw [hzs]; rfl
      rw [List.take_of_length_le (by have := HN.out; omega), ← hzs, hzl] at hr
      have hle : zs.length ≤ 1000000 := by omega
      have k1 := sort_row hst hr hle
      have K1 := Lib.hid k1
      have HI := Lib.hid hids
      have hle2 : (zs.mergeSort fun x y => decide (x ≤ y)).length ≤ 1000000 := by simpa using hle
      clear hr HR hst k1 hids hzs hzl
      go_wp2_with (first | (go_at_call 50; refine K1.out.mono ?_; rintro e w' ⟨rfl, R1, hst, hr1⟩; have HR1 := Lib.hid hr1; clear hr1)  | (go_at_call 51; refine (compact_row hst (by have := HR1.out; simpa using this) hle2).mono ?_; clear hst; rintro e w' ⟨v2, R2, rfl, hst, hr2⟩; have HR2 := Lib.hid hr2; clear hr2))
      go_ret
      refine ⟨_, _, rfl, hst, ?_⟩
      rw [HI.out]
      exact HR2.out

set_option maxHeartbeats 1000000 in
theorem ints46_any (zs ys : List Int) (v1 v2 : Value) (w : World) (hz : zs.length ≤ 100000) (hy : ys.length ≤ 100000) (h1 : IntsIn w v1 zs) (h2 : IntsIn w v2 ys) :
    Calls Tryd.prog 28 #[v1, v2] w fun e w' => e = .returned (.bool (decide (zs = ys))) ∧ Below w.heap.size w w' := by
  obtain ⟨ao, ca, rfl, h1⟩ := h1
  obtain ⟨bo, cb, rfl, h2⟩ := h2
  obtain ⟨n, hn⟩ : ∃ n, n = zs.length := ⟨_, rfl⟩
  obtain ⟨n2, hn2⟩ : ∃ n, n = ys.length := ⟨_, rfl⟩
  rw [← hn] at hz ⊢
  rw [← hn2] at hy ⊢
  have HN := Lib.hid hn
  have HN2 := Lib.hid hn2
  have H1 := Lib.hid h1
  have H2 := Lib.hid h2
  have hb0 : Below w.heap.size w w := Below.refl _ _
  clear hn hn2 h1 h2
  by_cases he : n = n2
  · subst he
    go_enter Tryd.func28, Tryd.ntmps28
    go_wp2
    go_loopw [5] (fun t wr => ∃ k : Nat, k ≤ n ∧ t = .int .i64 k ∧ Hid (∀ j (a : j < zs.length) (b : j < ys.length), j < k → zs[j] = ys[j]) ∧ Below w.heap.size w wr) (fun t _ => n - (intOf t).toNat)
    case atStart => exact ⟨0, Nat.zero_le _, rfl, fun j _ _ hj => absurd hj (by omega), Below.refl _ _⟩
    case round =>
      obtain ⟨k, hk, rfl, HZ, hbel⟩ := hrel
      by_cases hlt : k < n
      · have hk1 : k < zs.length := by rw [← HN.out]; exact hlt
        have hk2 : k < ys.length := by rw [← HN2.out]; exact hlt
        obtain ⟨x, hx⟩ : ∃ c, c = zs[k] := ⟨_, rfl⟩
        obtain ⟨y, hy'⟩ : ∃ c, c = ys[k] := ⟨_, rfl⟩
        obtain ⟨b, rfl, hb, hat⟩ : ∃ b, ao = some ⟨b, 0, none⟩ ∧ b < w.heap.size ∧ ∀ j (h : j < zs.length), w.cell? ⟨b, j, none⟩ = some (iV zs[j]) := by
          rcases H1.out with h | h
          · rw [h] at hk1; simp at hk1
          · exact h
        obtain ⟨b2, rfl, hb2, hat2⟩ : ∃ b, bo = some ⟨b, 0, none⟩ ∧ b < w.heap.size ∧ ∀ j (h : j < ys.length), w.cell? ⟨b, j, none⟩ = some (iV ys[j]) := by
          rcases H2.out with h | h
          · rw [h] at hk2; simp at hk2
          · exact h
        have c0 : wr.cell? ⟨b, k, none⟩ = some (.int .i64 x) := by rw [hx]; exact (hbel.cell (p := ⟨b, k, none⟩) hb).trans (hat k hk1)
        have d0 : wr.cell? ⟨b2, k, none⟩ = some (.int .i64 y) := by rw [hy']; exact (hbel.cell (p := ⟨b2, k, none⟩) hb2).trans (hat2 k hk2)
        have HX := Lib.hid hx
        have HY := Lib.hid hy'
        clear hat hat2 hx hy'
        by_cases hxy : x = y
        · have e1 : (x == y) = true := by simp [hxy]
          have e2 : (x != y) = false := by simp [hxy]
          have HXY := Lib.hid hxy
          clear hxy
          go_wp2
          go_quiet (fail)
          have hbel2 : Below w.heap.size w (wr.drewN nq) := below_drewN hbel nq
          go_wp2
          go_roundw
          case measure => simp [intOf]; omega
          case rel =>
            refine ⟨k + 1, by omega, by go_num, fun j ha hb hj => ?_, hbel2⟩
            by_cases e : j = k
            · subst e; rw [← HX.out, ← HY.out]; exact HXY.out
            · exact HZ.out j ha hb (by omega)
        · have e1 : (x == y) = false := by simp [hxy]
          have e2 : (x != y) = true := by simp [hxy]
          have HXY := Lib.hid hxy
          clear hxy
          go_wp2
          go_quiet (fail)
          have hbel2 : Below w.heap.size w (wr.drewN nq) := below_drewN hbel nq
          go_wp2
          go_ret
          exact ⟨ret_bool (decide_eq_false (fun h => HXY.out (by rw [HX.out, HY.out]; subst h; rfl))).symm, hbel2⟩
      · have hkn : k = n := by omega
        subst hkn
        have hall : zs = ys := List.ext_getElem (by rw [← HN.out, ← HN2.out]) fun j a b => HZ.out j a b (by rw [HN.out]; exact a)
        have HA := Lib.hid hall
        clear hall
        go_wp2
        go_ret
        exact ⟨ret_bool (decide_eq_true HA.out).symm, hbel⟩
  · go_enter Tryd.func28, Tryd.ntmps28
    go_wp2
    go_ret
    exact ⟨ret_bool (decide_eq_false (fun h => he (by rw [HN.out, HN2.out, h]))).symm, hb0⟩
end Go.Proofs.YtklpamhhbigjfaaDoor
