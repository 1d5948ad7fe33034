/- The reference of chapter 46: Set. -/
import Derived.Test.YtklpamhhbigjfaaDoorIds47
import Derived.Deep.RegionHeld3
import Derived.BigQuiet
namespace Go.Proofs.YtklpamhhbigjfaaDoor
open Go.RowKit
set_option linter.unusedSimpArgs false
set_option linter.unusedVariables false

def ltN (cur : List Int) (x : Int) : Nat := (cur.takeWhile fun y => decide (y < x)).length
def insI (cur : List Int) (x : Int) : List Int := if cur[ltN cur x]? = some x then cur else cur.take (ltN cur x) ++ [x] ++ cur.drop (ltN cur x)
def setI (zs : List Int) : List Int := zs.foldl insI []
theorem setI_snoc (zs : List Int) (k : Nat) (hk : k < zs.length) : setI (zs.take (k + 1)) = insI (setI (zs.take k)) zs[k] := by
  rw [setI, List.take_succ_eq_append_getElem hk, List.foldl_append]
  rfl
theorem ltN_le (cur : List Int) (x : Int) : ltN cur x ≤ cur.length := (List.takeWhile_sublist _).length_le
theorem ltN_lt : ∀ (cur : List Int) (x : Int) (j : Nat) (h : j < cur.length), j < ltN cur x → cur[j] < x
  | [], _, _, h, _ => by simp at h
  | y :: cur, x, j, h, hj => by
    unfold ltN at hj
    rw [List.takeWhile_cons] at hj
    split at hj
    · next hy =>
      cases j with
      | zero => simpa using hy
      | succ j => exact ltN_lt cur x j (by simpa using h) (by simpa [ltN] using hj)
    · simp at hj
theorem ltN_ge : ∀ (cur : List Int) (x : Int) (h : ltN cur x < cur.length), ¬ cur[ltN cur x] < x
  | [], _, h => by simp at h
  | y :: cur, x, h => by
    by_cases hy : y < x
    · have e : ltN (y :: cur) x = ltN cur x + 1 := by simp [ltN, List.takeWhile_cons, hy]
      have h2 : ltN cur x < cur.length := by rw [e] at h; simpa using h
      have := ltN_ge cur x h2
      simpa [e] using this
    · have e : ltN (y :: cur) x = 0 := by simp [ltN, List.takeWhile_cons, hy]
      simpa [e] using hy
theorem insI_len (cur : List Int) (x : Int) : (insI cur x).length ≤ cur.length + 1 := by
  unfold insI
  split
  · omega
  · have := ltN_le cur x
    simp; omega

/-- the facts of a non-nil row of integers of the call's own -/
def RowI (cur : List Int) (cap : Nat) (cs : Array Value) : Prop := cur.length ≤ cap ∧ cap ≤ maxLen ∧ cs.size = cap ∧ cs.toList.take cur.length = cur.map iV
theorem RowI.row {cur : List Int} {g cap : Nat} {cs : Array Value} (h : RowI cur cap cs) : RowIs 3 1 (.slice (some ⟨g, 0, none⟩) cur.length cap) cur.length (cur.map iV) [⟨g, cs, 3⟩] := by
  obtain ⟨h1, h2, h3, h4⟩ := h
  exact ⟨by simp, Or.inr ⟨g, cap, cs, rfl, rfl, h1, h2, by rw [h3, Nat.mul_one], by rw [Nat.mul_one]; exact h4⟩⟩
theorem RowI.at {cur : List Int} {cap : Nat} {cs : Array Value} (h : RowI cur cap cs) (j : Nat) (hj : j < cur.length) : cs[j]? = some (iV cur[j]) := by
  have e : (cs.toList.take cur.length)[j]? = (cur.map iV)[j]? := by rw [h.2.2.2]
  rw [List.getElem?_take_of_lt hj] at e
  simpa [hj] using e
theorem RowI.news {w : World} {g : Nat} {cur : List Int} {cap : Nat} {cs : Array Value} (h : RowI cur cap cs) (hc : ∀ i, w.cell? ⟨g, i, none⟩ = cs[i]?) (a : Nat) : ∀ j u, ((cur.drop a).map iV)[j]? = some u → w.cell? ((⟨g, a, none⟩ : Addr).add j) = some u := by
  intro j u hj
  have e : Addr.add ⟨g, a, none⟩ j = ⟨g, a + j, none⟩ := by cases j <;> simp [Addr.add]
  have hlt : j < (cur.drop a).length := by
    have := (List.getElem?_eq_some_iff.1 hj).1
    simpa using this
  have hlt2 : a + j < cur.length := by simp at hlt; omega
  rw [e, hc, h.at (a + j) hlt2]
  simpa [hlt2] using hj
theorem RowI.news0 {w : World} {g : Nat} {cur : List Int} {cap : Nat} {cs : Array Value} (h : RowI cur cap cs) (hc : ∀ i, w.cell? ⟨g, i, none⟩ = cs[i]?) (m : Nat) (hm : m ≤ cur.length) : ∀ j u, ((cur.take m).map iV)[j]? = some u → w.cell? ((⟨g, 0, none⟩ : Addr).add j) = some u := by
  intro j u hj
  have hlt : j < m := by
    have := (List.getElem?_eq_some_iff.1 hj).1
    simp at this; omega
  refine h.news hc 0 j u ?_
  rw [List.drop_zero]
  rw [List.getElem?_map, List.getElem?_take_of_lt hlt] at hj
  rw [List.getElem?_map]
  exact hj
theorem rowI_of {v : Value} {n : Nat} {cur : List Int} {R : List BK} (h : RowIs 3 1 v n (cur.map iV) R) (hn : 0 < n) : ∃ g cap cs, R = [⟨g, cs, 3⟩] ∧ v = .slice (some ⟨g, 0, none⟩) cur.length cap ∧ RowI cur cap cs := by
  have hl : cur.length = n := by have := h.1; simpa using this
  rcases h.2 with ⟨_, h2, _⟩ | ⟨g, cap, cs, hR, h1, h2, h3, h4, h5⟩
  · omega
  · exact ⟨g, cap, cs, hR, by rw [h1, hl], by omega, h3, by omega, by rw [hl, ← h5, Nat.mul_one]⟩
section
variable {P : Program} {ops : Array Oper} {o : Oper} {a : Act} {Q : Exit → Act → World → Prop} {w w1 : World} {K : Act → World → Prop} {F : Prop}
theorem step_at {N : Tmp} (_h : o.dst = some N) (h : if Region.wanted o (yielded ops a.tmps) = true then Oper.wp P o a w K Q else F) : if Region.wanted o (yielded ops a.tmps) = true then Oper.wp P o a w K Q else F := h
end
theorem St.boxAt {w0 w : World} {L : List BK} (h : St w0 w L) (g : Nat) (hg : g = w.heap.size) (cs : Array Value) (t : TypeId) : St w0 (w.alloc (.cells cs t (0, 0))) (⟨g, cs, t⟩ :: L) := by
  subst hg; exact h.box cs t

set_option maxHeartbeats 2000000 in
set_option maxRecDepth 100000 in
theorem set46_any (zs : List Int) (v : Value) (w : World) (hz : zs.length ≤ 1000) (h : IntsIn w v zs) :
    Calls Tryd.prog 52 #[v] w (OwnInts (setI zs) w) := by
  have hst := St.start w
  obtain ⟨ao, ca, rfl, h⟩ := h
  obtain ⟨n, hn⟩ : ∃ n, n = zs.length := ⟨_, rfl⟩
  rw [← hn] at hz ⊢
  have HN := Lib.hid hn
  have HZ := Lib.hid h
  clear hn h
  go_enter Tryd.func52, Tryd.ntmps52
  go_wp2_with (first | (((with_reducible refine at_dst (N := 6) rfl ?_); refine wpList_boxS hst 3 #[] 0 0 rfl ?hr ?_; (case hr => first | (go_simp; done) | (go_simp; rfl)); clear hst; intro g6 w6 hst; obtain ⟨hc6, hf6, hl6⟩ := hst.c0); clear hc6 hf6 hl6))
  go_loopw [3, 4] (fun t3 t4 wr => ∃ (i g cap : Nat) (cs : Array Value) (cur : List Int), t4 = .int .i64 i ∧ i ≤ n ∧ t3 = .slice (some ⟨g, 0, none⟩) cur.length cap ∧ cur.length ≤ i ∧ Hid (cur = setI (zs.take i)) ∧ Hid (RowI cur cap cs) ∧ St w wr [⟨g, cs, 3⟩]) (fun _ t4 _ => n - (intOf t4).toNat)
  case atStart => exact ⟨0, g6, 0, #[], [], rfl, Nat.zero_le _, rfl, Nat.le_refl _, rfl, ⟨Nat.le_refl _, by unfold maxLen; omega, rfl, rfl⟩, hst⟩
  case round =>
    clear hst
    obtain ⟨i, g, cap, cs, cur, rfl, hi, rfl, hci, HCUR, HROW, hst⟩ := hrel
    by_cases hlt : i < n
    · have hil : i < zs.length := by rw [← HN.out]; exact hlt
      obtain ⟨x, hx⟩ : ∃ x, x = zs[i] := ⟨_, rfl⟩
      obtain ⟨b, rfl, hb, hat⟩ : ∃ b, ao = some ⟨b, 0, none⟩ ∧ b < w.heap.size ∧ ∀ j (h : j < zs.length), w.cell? ⟨b, j, none⟩ = some (iV zs[j]) := by
        rcases HZ.out with h | h
        · rw [h] at hil; simp at hil
        · exact h
      have mk : ∀ (w' : World) (L : List BK), St w w' L → w'.cell? ⟨b, i, none⟩ = some (.int .i64 x) := fun w' L h => by rw [hx]; exact (h.base.cell (p := ⟨b, i, none⟩) hb).trans (hat i hil)
      have hset := setI_snoc zs i hil
      rw [← hx, ← HCUR.out] at hset
      obtain ⟨M, hM⟩ : ∃ M, M = ltN cur x := ⟨_, rfl⟩
      have hML : M ≤ cur.length := by rw [hM]; exact ltN_le _ _
      have hMlt : ∀ j (h : j < cur.length), j < M → cur[j] < x := fun j h hj => ltN_lt cur x j h (by rw [← hM]; exact hj)
      have hMge : ∀ (h : M < cur.length), ¬ cur[M] < x := fun h => by subst hM; exact ltN_ge cur x h
      have MK := Lib.hid mk
      have HSET := Lib.hid hset
      have HM := Lib.hid hM
      have HLT := Lib.hid hMlt
      have HGE := Lib.hid hMge
      obtain ⟨len, hlen⟩ : ∃ len, len = cur.length := ⟨_, rfl⟩
      rw [← hlen] at hML hci ⊢
      have HLEN := Lib.hid hlen
      have hltd : decide ((i : Int) < (n : Int)) = true := decide_eq_true (by omega)
      clear hx hat mk hset hM hMlt hMge hlen
      go_wp2
      clear hltd
      go_loopw [5] (fun t5 wv => ∃ k : Nat, t5 = .int .i64 k ∧ k ≤ M ∧ St w wv [⟨g, cs, 3⟩]) (fun t5 _ => M - (intOf t5).toNat)
      case atStart => exact ⟨0, rfl, Nat.zero_le _, hst⟩
      case round =>
        clear hst
        obtain ⟨k, rfl, hk, hst⟩ := hrel
        have cx := MK.out _ _ hst
        by_cases hkM : k < M
        · have hkl : k < cur.length := by rw [← HLEN.out]; omega
          obtain ⟨y, hy⟩ : ∃ y, y = cur[k] := ⟨_, rfl⟩
          have cy : wr.cell? ⟨g, k, none⟩ = some (.int .i64 y) := by rw [hst.c0.1 k, HROW.out.at k hkl, hy]
          have hyx : y < x := by rw [hy]; exact HLT.out k hkl hkM
          have d1 : decide ((k : Int) < (len : Int)) = true := decide_eq_true (by omega)
          have d2 : decide (y < x) = true := decide_eq_true hyx
          have x1 : (k : Int) < (len : Int) := by omega
          have x2 : (i : Int) < (n : Int) := by omega
          clear hy
          go_wp2
          go_quiet (fail)
          have hst2 := hst.drewN nq
          clear d1 d2 x1 x2 cx cy
          go_wp2
          go_roundw
          case measure => simp [intOf]; omega
          case rel => exact ⟨k + 1, by go_num, by omega, hst2⟩
        · have hkM2 : k = M := by omega
          subst hkM2
          by_cases hMl : k < len
          · have hkl : k < cur.length := by rw [← HLEN.out]; omega
            obtain ⟨y, hy⟩ : ∃ y, y = cur[k] := ⟨_, rfl⟩
            have cy : wr.cell? ⟨g, k, none⟩ = some (.int .i64 y) := by rw [hst.c0.1 k, HROW.out.at k hkl, hy]
            have hyx : ¬ y < x := by rw [hy]; have := HGE.out hkl; omega
            have d1 : decide ((k : Int) < (len : Int)) = true := decide_eq_true (by omega)
            have d2 : decide (y < x) = false := decide_eq_false hyx
            have x1 : (k : Int) < (len : Int) := by omega
            have x2 : (i : Int) < (n : Int) := by omega
            have HY := Lib.hid hy
            clear hy
            go_wp2
            go_quiet (fail)
            have hst2 := hst.drewN nq
            clear d1 d2 x1
            have e0 := MK.out _ _ hst2
            have cy2 : (wr.drewN nq).cell? ⟨g, k, none⟩ = some (.int .i64 y) := by rw [hst2.c0.1 k, HROW.out.at k hkl, HY.out]
            generalize wr.drewN nq = wy at hst2 e0 cy2
            have d1 : decide ((k : Int) < (len : Int)) = true := decide_eq_true (by omega)
            have x1 : (k : Int) < (len : Int) := by omega
            by_cases hxy : y = x
            · have e1 : (y == x) = true := by simp [hxy]
              have hins : insI cur x = cur := by
                rw [insI, ← HM.out, List.getElem?_eq_getElem hkl, ← HY.out, hxy, if_pos rfl]
              have HIN := Lib.hid hins
              clear hins hxy
              go_wp2
              go_quiet (fail)
              have hst4 := hst2.drewN nq
              generalize wy.drewN nq = wz at hst4
              clear d1 x1 x2 cx cy cy2 e0
              go_wp2
              go_roundw
              case measure => simp [intOf]; omega
              case rel => exact ⟨i + 1, g, cap, cs, cur, by go_num, by omega, by rw [← HLEN.out], by have := HLEN.out; omega, by rw [HSET.out, HIN.out]; rfl, HROW, hst4⟩
            · have e1 : (y == x) = false := by simp [hxy]
              have hins : insI cur x = cur.take k ++ [x] ++ cur.drop k := by
                rw [insI, ← HM.out, List.getElem?_eq_getElem hkl, ← HY.out, if_neg (by simpa using hxy)]
              have HIN := Lib.hid hins
              clear hins hxy
              go_wp2
              go_quiet (fail)
              have hst3 := hst2.drewN nq
              generalize wy.drewN nq = wz at hst3
              clear d1 x1 cx cy cy2 e0
              go_wp2
              have x3 : (k : Int) ≤ (len : Int) := by omega
              have x4 : (k : Int) ≤ (cap : Int) := by have := HROW.out.1; have := HLEN.out; omega
              have x5 : (len : Int) ≤ (cap : Int) := by have := HROW.out.1; have := HLEN.out; omega
              have x6 : (0 : Int) ≤ (k : Int) := by omega
              have x7 : k ≤ cap := by omega
              have x8 : k ≤ len := by omega
              have x9 : ¬ (cap = k) := by have := HROW.out.1; have := HLEN.out; omega
              have x10 : ¬ (cap = 0) := by have := HROW.out.1; have := HLEN.out; omega
              have hlc := HLEN.out
              have hA := hst3.drew.box #[] 3
              have hB := hst3.drew.box #[.int .i64 x] 3
              have hA1 := hA.perm (List.Perm.swap _ _ _)
              have hC := hA.boxAt (wz.heap.size + 1) (by simp) #[.int .i64 x] 3
              have hD := hB.boxAt (wz.heap.size + 1) (by simp) #[] 3
              have hC1 := hC.perm (List.Perm.cons _ (List.Perm.swap _ _ _))
              have hD1 := hD.perm (((List.Perm.swap _ _ _).trans (List.Perm.cons _ (List.Perm.swap _ _ _))))
              have nwA := HROW.out.news0 (St.cM (L1 := []) hA1).1 k (by omega)
              have nwC := HROW.out.news0 (St.cM (L1 := [_]) hC1).1 k (by omega)
              have nwD := HROW.out.news0 (St.cM (L1 := [_]) hD1).1 k (by omega)
              have lnT : ((cur.take k).map iV).length = k * 1 := by rw [List.length_map, List.length_take, Nat.mul_one]; omega
              have lnD : ((cur.drop k).map iV).length = (len - k) * 1 := by rw [List.length_map, List.length_drop, Nat.mul_one]; omega
              have ocT : ∀ u ∈ (cur.take k).map iV, u.oneCell' = true := by intro u hu; obtain ⟨z, _, rfl⟩ := List.mem_map.1 hu; rfl
              have ocD : ∀ u ∈ (cur.drop k).map iV, u.oneCell' = true := by intro u hu; obtain ⟨z, _, rfl⟩ := List.mem_map.1 hu; rfl
              have mx0 : 0 ≤ maxLen := Nat.zero_le _
              have mx1 : 0 + k ≤ maxLen := by unfold maxLen; omega
              have mx2 : (0 + k) * 8 ≤ 140737488355328 := by omega
              clear hlc
              go_region_held3 (fun w' => w'.cell? ⟨b, i, none⟩ = some (.int .i64 x))
                (first | exact MK.out _ _ hst3.drew | exact MK.out _ _ hA | exact MK.out _ _ hB | exact MK.out _ _ hC | exact MK.out _ _ hD | exact MK.out _ _ (hs1.box _ _) | exact MK.out _ _ hs3 | exact MK.out _ _ hs2 | exact MK.out _ _ hs1)
                (first
                  | ((with_reducible refine step_at (N := 49) rfl ?_); first
                      | (refine step_append_row (L := [⟨g, cs, 3⟩]) (R := [⟨wz.heap.size, #[], 3⟩]) hA1 ⟨rfl, Or.inr ⟨wz.heap.size, 0, #[], rfl, rfl, Nat.le_refl _, mx0, rfl, rfl⟩⟩ (by rfl) (.tmp 45) (.tmp 48) 48 (by rfl) (.int .i64 0) 8 (Tryd.underlying48) (by kernel_rfl) rfl (by decide) (by rfl) ⟨g, 0, none⟩ k cap ((cur.take k).map iV) (by rfl) lnT nwA ocT mx1 mx2 ?_; intro v1 R1 w1 hs1 HR1)
                      | (refine step_append_row (L := [⟨wz.heap.size + 1, #[.int .i64 x], 3⟩, ⟨g, cs, 3⟩]) (R := [⟨wz.heap.size, #[], 3⟩]) hC1 ⟨rfl, Or.inr ⟨wz.heap.size, 0, #[], rfl, rfl, Nat.le_refl _, mx0, rfl, rfl⟩⟩ (by rfl) (.tmp 45) (.tmp 48) 48 (by rfl) (.int .i64 0) 8 (Tryd.underlying48) (by kernel_rfl) rfl (by decide) (by rfl) ⟨g, 0, none⟩ k cap ((cur.take k).map iV) (by rfl) lnT nwC ocT mx1 mx2 ?_; intro v1 R1 w1 hs1 HR1)
                      | (refine step_append_row (L := [⟨wz.heap.size, #[.int .i64 x], 3⟩, ⟨g, cs, 3⟩]) (R := [⟨wz.heap.size + 1, #[], 3⟩]) hD1 ⟨rfl, Or.inr ⟨wz.heap.size + 1, 0, #[], rfl, rfl, Nat.le_refl _, mx0, rfl, rfl⟩⟩ (by rfl) (.tmp 45) (.tmp 48) 48 (by rfl) (.int .i64 0) 8 (Tryd.underlying48) (by kernel_rfl) rfl (by decide) (by rfl) ⟨g, 0, none⟩ k cap ((cur.take k).map iV) (by rfl) lnT nwD ocT mx1 mx2 ?_; intro v1 R1 w1 hs1 HR1))
                  | ((with_reducible refine step_at (N := 55) rfl ?_); first
                      | (refine step_append_row (L := [⟨wz.heap.size + 1, #[.int .i64 x], 3⟩, ⟨g, cs, 3⟩]) hs1 HR1 (by rfl) (.tmp 49) (.tmp 54) 48 (by rfl) (.int .i64 0) 8 (Tryd.underlying48) (by kernel_rfl) rfl (by decide) (by rfl) ⟨wz.heap.size + 1, 0, none⟩ 1 1 [.int .i64 x] (by rfl) rfl (news_own hs1) (by simp [Value.oneCell']) (by unfold maxLen; omega) (by omega) ?_; intro v2 R2 w2 hs2 HR2)
                      | (refine step_append_row (L := [⟨wz.heap.size, #[.int .i64 x], 3⟩, ⟨g, cs, 3⟩]) hs1 HR1 (by rfl) (.tmp 49) (.tmp 54) 48 (by rfl) (.int .i64 0) 8 (Tryd.underlying48) (by kernel_rfl) rfl (by decide) (by rfl) ⟨wz.heap.size, 0, none⟩ 1 1 [.int .i64 x] (by rfl) rfl (news_own hs1) (by simp [Value.oneCell']) (by unfold maxLen; omega) (by omega) ?_; intro v2 R2 w2 hs2 HR2)
                      | (refine step_append_row (L := [⟨w1.heap.size, #[.int .i64 x], 3⟩, ⟨g, cs, 3⟩]) (hs1.box _ _) HR1 (by rfl) (.tmp 49) (.tmp 54) 48 (by rfl) (.int .i64 0) 8 (Tryd.underlying48) (by kernel_rfl) rfl (by decide) (by rfl) ⟨w1.heap.size, 0, none⟩ 1 1 [.int .i64 x] (by rfl) rfl (news_own (hs1.box _ _)) (by simp [Value.oneCell']) (by unfold maxLen; omega) (by omega) ?_; intro v2 R2 w2 hs2 HR2))
                  | ((with_reducible refine step_at (N := 59) rfl ?_); refine step_append_row hs2 HR2 (by rfl) (.tmp 55) (.tmp 58) 48 (by rfl) (.int .i64 0) 8 (Tryd.underlying48) (by kernel_rfl) rfl (by decide) (by rfl) ⟨g, k, none⟩ (len - k) (cap - k) ((cur.drop k).map iV) (by rfl) lnD (HROW.out.news (St.cM (L1 := [_]) hs2).1 k) ocD (by unfold maxLen; omega) (by omega) ?_; intro v3 R3 w3 hs3 HR3))
              all_goals
                obtain ⟨cur3, hcur3⟩ : ∃ c, c = cur.take k ++ [x] ++ cur.drop k := ⟨_, rfl⟩
                have hr3 : RowIs 3 1 v3 (0 + k + 1 + (len - k)) (cur3.map iV) R3 := by rw [hcur3, List.map_append, List.map_append]; exact HR3
                obtain ⟨g3, cap3, cs3, rfl, rfl, hrow3⟩ := rowI_of hr3 (by omega)
                obtain ⟨len3, hlen3⟩ : ∃ c, c = cur3.length := ⟨_, rfl⟩
                have hle3 : len3 ≤ i + 1 := by
                  have h1 := hr3.1
                  rw [List.length_map, Nat.mul_one, ← hlen3] at h1
                  omega
                rw [← hlen3]
                have H3 := Lib.hid hlen3
                have HC3 := Lib.hid hcur3
                have HR4 := Lib.hid hrow3
                clear hlen3 hcur3 hrow3 hr3 HR3 HR1 HR2 x3 x4 x5 x6 x7 x8 x9 x10 mx0 mx1 mx2 lnT lnD ocT ocD nwA nwC nwD
                go_wp2
                go_roundw
                case measure => simp [intOf]; omega
                case rel => exact ⟨i + 1, g3, cap3, cs3, cur3, by go_num, by omega, by rw [H3.out], by rw [← H3.out]; exact hle3, by rw [HSET.out, HIN.out]; exact HC3, HR4, hs3.sub ((List.Sublist.refl _).cons _ |>.cons _)⟩
          · have hkl : k = len := by omega
            have hins : insI cur x = cur.take k ++ [x] ++ cur.drop k := by
              rw [insI, ← HM.out, List.getElem?_eq_none (by rw [← HLEN.out]; omega), if_neg (by simp)]
            have HIN := Lib.hid hins
            have HKL := Lib.hid hkl
            have d1 : decide ((k : Int) < (len : Int)) = false := decide_eq_false (by omega)
            have x2 : (i : Int) < (n : Int) := by omega
            clear hins hkl
            go_wp2
            go_quiet (fail)
            have hst2 := hst.drewN nq
            generalize wr.drewN nq = wy at hst2
            go_wp2
            go_quiet (fail)
            have hst3 := hst2.drewN nq
            generalize wy.drewN nq = wz at hst3
            clear d1 cx
            go_wp2
            have x3 : (k : Int) ≤ (len : Int) := by omega
            have x4 : (k : Int) ≤ (cap : Int) := by have := HROW.out.1; have := HLEN.out; omega
            have x5 : (len : Int) ≤ (cap : Int) := by have := HROW.out.1; have := HLEN.out; omega
            have x6 : (0 : Int) ≤ (k : Int) := by omega
            have x7 : k ≤ cap := by omega
            have x8 : k ≤ len := by omega
            have hlc := HLEN.out
            have hdk : cur.drop k = [] := List.drop_eq_nil_of_le (by omega)
            have nwE : ∀ (w9 : World) j u, ((cur.drop k).map iV)[j]? = some u → w9.cell? ((⟨g, 0, none⟩ : Addr).add j) = some u := fun w9 j u hj => by rw [hdk] at hj; simp at hj
            clear hdk
            have hA := hst3.drew.box #[] 3
            have hB := hst3.drew.box #[.int .i64 x] 3
            have hA1 := hA.perm (List.Perm.swap _ _ _)
            have hC := hA.boxAt (wz.heap.size + 1) (by simp) #[.int .i64 x] 3
            have hD := hB.boxAt (wz.heap.size + 1) (by simp) #[] 3
            have hC1 := hC.perm (List.Perm.cons _ (List.Perm.swap _ _ _))
            have hD1 := hD.perm (((List.Perm.swap _ _ _).trans (List.Perm.cons _ (List.Perm.swap _ _ _))))
            have nwA := HROW.out.news0 (St.cM (L1 := []) hA1).1 k (by omega)
            have nwC := HROW.out.news0 (St.cM (L1 := [_]) hC1).1 k (by omega)
            have nwD := HROW.out.news0 (St.cM (L1 := [_]) hD1).1 k (by omega)
            have lnT : ((cur.take k).map iV).length = k * 1 := by rw [List.length_map, List.length_take, Nat.mul_one]; omega
            have lnD : ((cur.drop k).map iV).length = (len - k) * 1 := by rw [List.length_map, List.length_drop, Nat.mul_one]; omega
            have ocT : ∀ u ∈ (cur.take k).map iV, u.oneCell' = true := by intro u hu; obtain ⟨z, _, rfl⟩ := List.mem_map.1 hu; rfl
            have ocD : ∀ u ∈ (cur.drop k).map iV, u.oneCell' = true := by intro u hu; obtain ⟨z, _, rfl⟩ := List.mem_map.1 hu; rfl
            have mx0 : 0 ≤ maxLen := Nat.zero_le _
            have mx1 : 0 + k ≤ maxLen := by unfold maxLen; omega
            have mx2 : (0 + k) * 8 ≤ 140737488355328 := by omega
            clear hlc
            by_cases x9 : cap = k
            · have x10 : (cap = k) = True := eq_true x9
              clear x9
              have x9 : True := trivial
              go_region_held3 (fun w' => w'.cell? ⟨b, i, none⟩ = some (.int .i64 x))
                (first | exact MK.out _ _ hst3.drew | exact MK.out _ _ hA | exact MK.out _ _ hB | exact MK.out _ _ hC | exact MK.out _ _ hD | exact MK.out _ _ (hs1.box _ _) | exact MK.out _ _ hs3 | exact MK.out _ _ hs2 | exact MK.out _ _ hs1)
                (first
                  | ((with_reducible refine step_at (N := 49) rfl ?_); first
                      | (refine step_append_row (L := [⟨g, cs, 3⟩]) (R := [⟨wz.heap.size, #[], 3⟩]) hA1 ⟨rfl, Or.inr ⟨wz.heap.size, 0, #[], rfl, rfl, Nat.le_refl _, mx0, rfl, rfl⟩⟩ (by rfl) (.tmp 45) (.tmp 48) 48 (by rfl) (.int .i64 0) 8 (Tryd.underlying48) (by kernel_rfl) rfl (by decide) (by rfl) ⟨g, 0, none⟩ k cap ((cur.take k).map iV) (by rfl) lnT nwA ocT mx1 mx2 ?_; intro v1 R1 w1 hs1 HR1)
                      | (refine step_append_row (L := [⟨wz.heap.size + 1, #[.int .i64 x], 3⟩, ⟨g, cs, 3⟩]) (R := [⟨wz.heap.size, #[], 3⟩]) hC1 ⟨rfl, Or.inr ⟨wz.heap.size, 0, #[], rfl, rfl, Nat.le_refl _, mx0, rfl, rfl⟩⟩ (by rfl) (.tmp 45) (.tmp 48) 48 (by rfl) (.int .i64 0) 8 (Tryd.underlying48) (by kernel_rfl) rfl (by decide) (by rfl) ⟨g, 0, none⟩ k cap ((cur.take k).map iV) (by rfl) lnT nwC ocT mx1 mx2 ?_; intro v1 R1 w1 hs1 HR1)
                      | (refine step_append_row (L := [⟨wz.heap.size, #[.int .i64 x], 3⟩, ⟨g, cs, 3⟩]) (R := [⟨wz.heap.size + 1, #[], 3⟩]) hD1 ⟨rfl, Or.inr ⟨wz.heap.size + 1, 0, #[], rfl, rfl, Nat.le_refl _, mx0, rfl, rfl⟩⟩ (by rfl) (.tmp 45) (.tmp 48) 48 (by rfl) (.int .i64 0) 8 (Tryd.underlying48) (by kernel_rfl) rfl (by decide) (by rfl) ⟨g, 0, none⟩ k cap ((cur.take k).map iV) (by rfl) lnT nwD ocT mx1 mx2 ?_; intro v1 R1 w1 hs1 HR1))
                  | ((with_reducible refine step_at (N := 55) rfl ?_); first
                      | (refine step_append_row (L := [⟨wz.heap.size + 1, #[.int .i64 x], 3⟩, ⟨g, cs, 3⟩]) hs1 HR1 (by rfl) (.tmp 49) (.tmp 54) 48 (by rfl) (.int .i64 0) 8 (Tryd.underlying48) (by kernel_rfl) rfl (by decide) (by rfl) ⟨wz.heap.size + 1, 0, none⟩ 1 1 [.int .i64 x] (by rfl) rfl (news_own hs1) (by simp [Value.oneCell']) (by unfold maxLen; omega) (by omega) ?_; intro v2 R2 w2 hs2 HR2)
                      | (refine step_append_row (L := [⟨wz.heap.size, #[.int .i64 x], 3⟩, ⟨g, cs, 3⟩]) hs1 HR1 (by rfl) (.tmp 49) (.tmp 54) 48 (by rfl) (.int .i64 0) 8 (Tryd.underlying48) (by kernel_rfl) rfl (by decide) (by rfl) ⟨wz.heap.size, 0, none⟩ 1 1 [.int .i64 x] (by rfl) rfl (news_own hs1) (by simp [Value.oneCell']) (by unfold maxLen; omega) (by omega) ?_; intro v2 R2 w2 hs2 HR2)
                      | (refine step_append_row (L := [⟨w1.heap.size, #[.int .i64 x], 3⟩, ⟨g, cs, 3⟩]) (hs1.box _ _) HR1 (by rfl) (.tmp 49) (.tmp 54) 48 (by rfl) (.int .i64 0) 8 (Tryd.underlying48) (by kernel_rfl) rfl (by decide) (by rfl) ⟨w1.heap.size, 0, none⟩ 1 1 [.int .i64 x] (by rfl) rfl (news_own (hs1.box _ _)) (by simp [Value.oneCell']) (by unfold maxLen; omega) (by omega) ?_; intro v2 R2 w2 hs2 HR2))
                  | ((with_reducible refine step_at (N := 59) rfl ?_); refine step_append_row hs2 HR2 (by rfl) (.tmp 55) (.tmp 58) 48 (by rfl) (.int .i64 0) 8 (Tryd.underlying48) (by kernel_rfl) rfl (by decide) (by rfl) ⟨g, 0, none⟩ (len - k) (cap - k) ((cur.drop k).map iV) (by rfl) lnD (nwE _) ocD (by unfold maxLen; omega) (by omega) ?_; intro v3 R3 w3 hs3 HR3))
              all_goals
                obtain ⟨cur3, hcur3⟩ : ∃ c, c = cur.take k ++ [x] ++ cur.drop k := ⟨_, rfl⟩
                have hr3 : RowIs 3 1 v3 (0 + k + 1 + (len - k)) (cur3.map iV) R3 := by rw [hcur3, List.map_append, List.map_append]; exact HR3
                obtain ⟨g3, cap3, cs3, rfl, rfl, hrow3⟩ := rowI_of hr3 (by omega)
                obtain ⟨len3, hlen3⟩ : ∃ c, c = cur3.length := ⟨_, rfl⟩
                have hle3 : len3 ≤ i + 1 := by
                  have h1 := hr3.1
                  rw [List.length_map, Nat.mul_one, ← hlen3] at h1
                  omega
                rw [← hlen3]
                have H3 := Lib.hid hlen3
                have HC3 := Lib.hid hcur3
                have HR4 := Lib.hid hrow3
                clear hlen3 hcur3 hrow3 hr3 HR3 HR1 HR2 x3 x4 x5 x6 x7 x8 x9 x10 mx0 mx1 mx2 lnT lnD ocT ocD nwA nwC nwD
                go_wp2
                go_roundw
                case measure => simp [intOf]; omega
                case rel => exact ⟨i + 1, g3, cap3, cs3, cur3, by go_num, by omega, by rw [H3.out], by rw [← H3.out]; exact hle3, by rw [HSET.out, HIN.out]; exact HC3, HR4, hs3.sub ((List.Sublist.refl _).cons _ |>.cons _)⟩
            · have x10 : ¬ (cap = 0) ∨ True := Or.inr trivial
              go_region_held3 (fun w' => w'.cell? ⟨b, i, none⟩ = some (.int .i64 x))
                (first | exact MK.out _ _ hst3.drew | exact MK.out _ _ hA | exact MK.out _ _ hB | exact MK.out _ _ hC | exact MK.out _ _ hD | exact MK.out _ _ (hs1.box _ _) | exact MK.out _ _ hs3 | exact MK.out _ _ hs2 | exact MK.out _ _ hs1)
                (first
                  | ((with_reducible refine step_at (N := 49) rfl ?_); first
                      | (refine step_append_row (L := [⟨g, cs, 3⟩]) (R := [⟨wz.heap.size, #[], 3⟩]) hA1 ⟨rfl, Or.inr ⟨wz.heap.size, 0, #[], rfl, rfl, Nat.le_refl _, mx0, rfl, rfl⟩⟩ (by rfl) (.tmp 45) (.tmp 48) 48 (by rfl) (.int .i64 0) 8 (Tryd.underlying48) (by kernel_rfl) rfl (by decide) (by rfl) ⟨g, 0, none⟩ k cap ((cur.take k).map iV) (by rfl) lnT nwA ocT mx1 mx2 ?_; intro v1 R1 w1 hs1 HR1)
                      | (refine step_append_row (L := [⟨wz.heap.size + 1, #[.int .i64 x], 3⟩, ⟨g, cs, 3⟩]) (R := [⟨wz.heap.size, #[], 3⟩]) hC1 ⟨rfl, Or.inr ⟨wz.heap.size, 0, #[], rfl, rfl, Nat.le_refl _, mx0, rfl, rfl⟩⟩ (by rfl) (.tmp 45) (.tmp 48) 48 (by rfl) (.int .i64 0) 8 (Tryd.underlying48) (by kernel_rfl) rfl (by decide) (by rfl) ⟨g, 0, none⟩ k cap ((cur.take k).map iV) (by rfl) lnT nwC ocT mx1 mx2 ?_; intro v1 R1 w1 hs1 HR1)
                      | (refine step_append_row (L := [⟨wz.heap.size, #[.int .i64 x], 3⟩, ⟨g, cs, 3⟩]) (R := [⟨wz.heap.size + 1, #[], 3⟩]) hD1 ⟨rfl, Or.inr ⟨wz.heap.size + 1, 0, #[], rfl, rfl, Nat.le_refl _, mx0, rfl, rfl⟩⟩ (by rfl) (.tmp 45) (.tmp 48) 48 (by rfl) (.int .i64 0) 8 (Tryd.underlying48) (by kernel_rfl) rfl (by decide) (by rfl) ⟨g, 0, none⟩ k cap ((cur.take k).map iV) (by rfl) lnT nwD ocT mx1 mx2 ?_; intro v1 R1 w1 hs1 HR1))
                  | ((with_reducible refine step_at (N := 55) rfl ?_); first
                      | (refine step_append_row (L := [⟨wz.heap.size + 1, #[.int .i64 x], 3⟩, ⟨g, cs, 3⟩]) hs1 HR1 (by rfl) (.tmp 49) (.tmp 54) 48 (by rfl) (.int .i64 0) 8 (Tryd.underlying48) (by kernel_rfl) rfl (by decide) (by rfl) ⟨wz.heap.size + 1, 0, none⟩ 1 1 [.int .i64 x] (by rfl) rfl (news_own hs1) (by simp [Value.oneCell']) (by unfold maxLen; omega) (by omega) ?_; intro v2 R2 w2 hs2 HR2)
                      | (refine step_append_row (L := [⟨wz.heap.size, #[.int .i64 x], 3⟩, ⟨g, cs, 3⟩]) hs1 HR1 (by rfl) (.tmp 49) (.tmp 54) 48 (by rfl) (.int .i64 0) 8 (Tryd.underlying48) (by kernel_rfl) rfl (by decide) (by rfl) ⟨wz.heap.size, 0, none⟩ 1 1 [.int .i64 x] (by rfl) rfl (news_own hs1) (by simp [Value.oneCell']) (by unfold maxLen; omega) (by omega) ?_; intro v2 R2 w2 hs2 HR2)
                      | (refine step_append_row (L := [⟨w1.heap.size, #[.int .i64 x], 3⟩, ⟨g, cs, 3⟩]) (hs1.box _ _) HR1 (by rfl) (.tmp 49) (.tmp 54) 48 (by rfl) (.int .i64 0) 8 (Tryd.underlying48) (by kernel_rfl) rfl (by decide) (by rfl) ⟨w1.heap.size, 0, none⟩ 1 1 [.int .i64 x] (by rfl) rfl (news_own (hs1.box _ _)) (by simp [Value.oneCell']) (by unfold maxLen; omega) (by omega) ?_; intro v2 R2 w2 hs2 HR2))
                  | ((with_reducible refine step_at (N := 59) rfl ?_); refine step_append_row hs2 HR2 (by rfl) (.tmp 55) (.tmp 58) 48 (by rfl) (.int .i64 0) 8 (Tryd.underlying48) (by kernel_rfl) rfl (by decide) (by rfl) ⟨g, k, none⟩ (len - k) (cap - k) ((cur.drop k).map iV) (by rfl) lnD (HROW.out.news (St.cM (L1 := [_]) hs2).1 k) ocD (by unfold maxLen; omega) (by omega) ?_; intro v3 R3 w3 hs3 HR3))
              all_goals
                obtain ⟨cur3, hcur3⟩ : ∃ c, c = cur.take k ++ [x] ++ cur.drop k := ⟨_, rfl⟩
                have hr3 : RowIs 3 1 v3 (0 + k + 1 + (len - k)) (cur3.map iV) R3 := by rw [hcur3, List.map_append, List.map_append]; exact HR3
                obtain ⟨g3, cap3, cs3, rfl, rfl, hrow3⟩ := rowI_of hr3 (by omega)
                obtain ⟨len3, hlen3⟩ : ∃ c, c = cur3.length := ⟨_, rfl⟩
                have hle3 : len3 ≤ i + 1 := by
                  have h1 := hr3.1
                  rw [List.length_map, Nat.mul_one, ← hlen3] at h1
                  omega
                rw [← hlen3]
                have H3 := Lib.hid hlen3
                have HC3 := Lib.hid hcur3
                have HR4 := Lib.hid hrow3
                clear hlen3 hcur3 hrow3 hr3 HR3 HR1 HR2 x3 x4 x5 x6 x7 x8 x9 x10 mx0 mx1 mx2 lnT lnD ocT ocD nwA nwC nwD
                go_wp2
                go_roundw
                case measure => simp [intOf]; omega
                case rel => exact ⟨i + 1, g3, cap3, cs3, cur3, by go_num, by omega, by rw [H3.out], by rw [← H3.out]; exact hle3, by rw [HSET.out, HIN.out]; exact HC3, HR4, hs3.sub ((List.Sublist.refl _).cons _ |>.cons _)⟩
    · have hin : i = n := by omega
      have hcz := HCUR.out
      rw [List.take_of_length_le (by have := HN.out; omega)] at hcz
      have hrow := (HROW.out.row (g := g))
      rw [hcz] at hrow
      have HR := Lib.hid hrow
      subst hcz
      clear hrow HROW HCUR
      go_wp2
      go_ret
      exact ⟨_, _, rfl, hst, HR.out⟩
end Go.Proofs.YtklpamhhbigjfaaDoor
