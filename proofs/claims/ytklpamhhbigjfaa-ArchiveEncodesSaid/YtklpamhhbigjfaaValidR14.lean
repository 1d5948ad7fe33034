/- The reference of chapter 14: Few, numbers, Valid. -/
import Derived.Test.YtklpamhhbigjfaaValid14
import Derived.Deep.DeepCutAuto
import Derived.Deep.RegionHeld3
import Derived.Deep.RegionWith
namespace Go.Proofs.Ytklpamhhbigjfaa
open Go.RowKit
set_option linter.unusedSimpArgs false
set_option linter.unusedVariables false

def Pr.few (c : Pr) : Prop := c.key.size ≤ 40 ∧ c.rcd.size ≤ 1010
instance (c : Pr) : Decidable c.few := by unfold Pr.few; infer_instance
def fewB (d : DS) (l : List Pr) : Bool := decide ((∀ c ∈ l, c.few) ∧ d.own.size ≤ 40 ∧ d.vol.size ≤ 40 ∧ l.length ≤ 30)

set_option maxHeartbeats 1000000 in
theorem few14_any (d : DS) (num : Int) (l : List Pr) (ao : Option Addr) (cap : Nat) (w : World) (hl : l.length ≤ 140737488355328) (hc : Prs w ao l) (hs : ∀ c ∈ l, c.Sz) (ho : d.own.size ≤ 140737488355328) (hv : d.vol.size ≤ 140737488355328) :
    Calls Try.prog 17 #[.agg (arcC d num ao l.length cap)] w fun e w' => e = .returned (.bool (fewB d l)) ∧ Below w.heap.size w w' := by
  have hst := St.start w
  obtain ⟨n, hn⟩ : ∃ n, n = l.length := ⟨_, rfl⟩
  have e0 : fewB d l = decide ((∀ c ∈ l, c.few) ∧ d.own.size ≤ 40 ∧ d.vol.size ≤ 40 ∧ n ≤ 30) := by rw [fewB, hn]
  obtain ⟨V, hV⟩ : ∃ V, V = fewB d l := ⟨_, rfl⟩
  rw [← hV, ← hn]
  rw [← hn] at hl
  rw [e0] at hV
  have HVV := Lib.hid hV
  have HC := Lib.hid hc
  have HS := Lib.hid hs
  have HN := Lib.hid hn
  clear hc hs hn e0 hV
  go_enter Try.func17, Try.ntmps17
  go_wp2_with (first | ((with_reducible refine at_dst (N := 1) rfl ?_); refine wpList_box hst 37 (arcC d num ao n cap) rfl ?hr ?_; (case hr => first | (go_simp; done) | (go_simp; rfl)); clear hst; intro g1 w1 hst; obtain ⟨hc1, hf1, hl1⟩ := hst.c0))
  go_loopw [3] (fun t wr => ∃ k : Nat, k ≤ n ∧ t = .int .i64 k ∧ Hid (∀ j (h : j < l.length), j < k → (l[j]).few) ∧ St w wr [⟨g1, arcC d num ao n cap, 37⟩]) (fun t _ => n - (intOf t).toNat)
  case atStart => exact ⟨0, Nat.zero_le _, rfl, fun j _ hj => absurd hj (by omega), hst⟩
  case round =>
    clear hst hc1 hf1 hl1
    obtain ⟨k, hk, rfl, HZ, hst⟩ := hrel
    obtain ⟨hc1, hf1, hl1⟩ := hst.c0
    by_cases hlt : k < n
    · have hkl : k < l.length := by rw [← HN.out]; exact hlt
      obtain ⟨c, hcc⟩ : ∃ c, c = l[k] := ⟨_, rfl⟩
      obtain ⟨b, off, rfl, hb, hat⟩ : ∃ b off, ao = some ⟨b, off, none⟩ ∧ b < w.heap.size ∧ PrsAt w b off l := by
        rcases HC.out with h | h
        · rw [h] at hkl; simp at hkl
        · exact h
      obtain ⟨c0, c1⟩ := (hat.below hb hst.base).get hkl hcc
      have hsz : c.Sz := by rw [hcc]; exact HS.out _ (List.getElem_mem _)
      obtain ⟨z1, z2⟩ := hsz
      have HCC := Lib.hid hcc
      clear hcc hat
      by_cases hf : c.few
      · have HF := Lib.hid hf
        obtain ⟨f1, f2⟩ := hf
        go_wp2
        go_roundw
        case measure => simp [intOf]; omega
        case rel =>
          refine ⟨k + 1, by omega, by go_num, fun j h hj => ?_, hst⟩
          by_cases e : j = k
          · subst e; rw [← HCC.out]; exact HF.out
          · exact HZ.out j h (by omega)
      · have HF := Lib.hid hf
        unfold Pr.few at hf
        go_wp2
        all_goals (go_ret; exact ⟨ret_bool (HVV.out.trans (decide_eq_false (fun h => HF.out (by rw [HCC.out]; exact h.1 _ (List.getElem_mem _))))).symm, hst.base⟩)
    · have hall : ∀ c ∈ l, c.few := by
        intro c hc
        obtain ⟨j, hj, rfl⟩ := List.getElem_of_mem hc
        exact HZ.out j hj (by have := HN.out; omega)
      have hV2 : V = (decide (d.own.size ≤ 40) && decide (d.vol.size ≤ 40) && decide (n ≤ 30)) := by
        rw [HVV.out, Bool.eq_iff_iff]
        simp only [decide_eq_true_eq, Bool.and_eq_true]
        constructor
        · rintro ⟨_, a, b, c⟩; exact ⟨⟨a, b⟩, c⟩
        · rintro ⟨⟨a, b⟩, c⟩; exact ⟨hall, a, b, c⟩
      have HV2 := Lib.hid hV2
      clear hall hV2
      go_wp2
      all_goals (go_ret; refine ⟨ret_bool ?_, hst.base⟩; rw [HV2.out, Bool.eq_iff_iff]; simp; omega)

abbrev numC (d : DS) : Array Value := #[.int .i64 d.id, .int .i64 d.org, .int .i64 d.fmt, .int .i64 d.len, .int .i64 d.block, .int .i64 d.keyAt, .int .i64 d.keyLen, .int .i64 d.intv, .int .i64 d.area, .int .i64 d.freeI, .int .i64 d.freeA, .int .i64 d.base, .int .i64 d.altAt, .int .i64 d.altLen, .int .i64 d.cls, .int .i64 d.created, .int .i64 d.expires]
def NumP (d : DS) (w : World) (e : Ending) (w' : World) : Prop := ∃ gn, e = .returned (.slice (some ⟨gn, 0, none⟩) 17 17) ∧ St w w' [⟨gn, numC d, 3⟩]
set_option maxHeartbeats 1000000 in
set_option maxRecDepth 100000 in
theorem numbersR_any (d : DS) (w : World) : Calls Try.prog 42 #[d.v] w (NumP d w) := by
  have hst := St.start w
  go_enter Try.func42, Try.ntmps42
  go_wp2_with (first | ((with_reducible refine at_dst (N := 1) rfl ?_); refine wpList_box hst 34 d.cells rfl ?hr ?_; (case hr => first | (go_simp; done) | (go_simp; rfl)); clear hst; intro g1 w1 hst; obtain ⟨hc1, hf1, hl1⟩ := hst.c0) | ((with_reducible refine at_dst (N := 37) rfl ?_); refine wpList_boxS hst 3 (numC d) 17 17 rfl ?hr ?_; (case hr => first | (go_simp; done) | (go_simp; rfl)); clear hst; intro g2 w2 hst; obtain ⟨hc2, hf2, hl2⟩ := hst.c0))
  go_ret
  exact ⟨g2, rfl, hst.sub (by simp)⟩
section
variable {P : Program} {ops : Array Oper} {o : Oper} {a : Act} {Q : Exit → Act → World → Prop} {w w1 : World} {K : Act → World → Prop} {F : Prop}
theorem step_at {N : Tmp} (_h : o.dst = some N) (h : if Region.wanted o (yielded ops a.tmps) = true then Oper.wp P o a w K Q else F) : if Region.wanted o (yielded ops a.tmps) = true then Oper.wp P o a w K Q else F := h
theorem step_run {v : Value} (hgd : o.guard = none) (hrun : (execOp a.eval o).run P w = .ok (.value v) w1) (h : K (a.put o.dst v) w1) : if Region.wanted o (yielded ops a.tmps) = true then Oper.wp P o a w K Q else F := by
  have hw : Region.wanted o (yielded ops a.tmps) = true := by simp [Region.wanted, hgd]
  rw [if_pos hw]
  unfold Oper.wp
  rw [hrun]
  exact h
theorem exec_load_mid {ev : Operand → Value} {t : TypeId} {x : Operand} {g off : Nat} {cs : List Value} {D : TypeDesc} (ho : o.op = .load t x) (hx : ev x = .pointer (some ⟨g, off, none⟩)) (hc : w.rangeAt g off cs)
    (hu : P.underlying t = some D) (hd : D.isRow = true) (hi : (P.info? t).map (·.size) = some cs.length) : (execOp ev o).run P w = .ok (.value (.agg cs.toArray)) w := by
  unfold execOp
  simp only [ho, hx, Sem.run_bind, run_loadAt_mid w g off t cs D hc hu hd hi, Result.andThen_ok, Sem.run_pure]
end
theorem row_cells {E : TypeId} {v : Value} {n : Nat} {xs : List Value} {R : List BK} (h : RowIs E 1 v n xs R) (hn : 0 < n) : ∃ g cap cs, R = [⟨g, cs, E⟩] ∧ v = .slice (some ⟨g, 0, none⟩) n cap ∧ ∀ j, j < n → cs[j]? = xs[j]? := by
  rcases h.2 with ⟨_, h2, _⟩ | ⟨g, cap, cs, hR, h1, h2, h3, h4, h5⟩
  · omega
  · refine ⟨g, cap, cs, hR, h1, fun j hj => ?_⟩
    rw [← h5, Nat.mul_one, List.getElem?_take_of_lt hj]
    simp

set_option maxHeartbeats 1000000 in
set_option maxRecDepth 100000 in
theorem validR14_any (d : DS) (num : Int) (l : List Pr) (ao : Option Addr) (cap : Nat) (w : World) (hl : l.length ≤ 140737488355328) (hc : Prs w ao l) (hs : ∀ c ∈ l, c.Sz) (ho : d.own.size ≤ 140737488355328) (hv : d.vol.size ≤ 140737488355328) :
    Calls Try.prog 21 #[.agg (arcC d num ao l.length cap)] w fun e w' => e = .returned (.bool (arcOk d num l)) ∧ Below w.heap.size w w' := by
  have hst := St.start w
  obtain ⟨n, hn⟩ : ∃ n, n = l.length := ⟨_, rfl⟩
  have hov : arcOk d num l = (!numsBad d num && decide (d.own.size ≤ 31 ∧ d.vol.size ≤ 31 ∧ n ≤ 1024) && !badP l) := by rw [arcOk, hn]
  rw [hov, ← hn]
  rw [← hn] at hl
  have HC := Lib.hid hc
  have HS := Lib.hid hs
  have HN := Lib.hid hn
  obtain ⟨NL, hNL⟩ : ∃ x, x = nums d num := ⟨_, rfl⟩
  have HNL := Lib.hid hNL
  clear hc hs hn hov hNL
  have hov : (!numsBad d num && decide (d.own.size ≤ 31 ∧ d.vol.size ≤ 31 ∧ n ≤ 1024) && !badP l) = (NL.all nOk && decide (d.own.size ≤ 31 ∧ d.vol.size ≤ 31 ∧ n ≤ 1024) && !badP l) := by
    rw [numsBad, HNL.out, List.not_any_eq_all_not]
    simp
  rw [hov]
  clear hov
  obtain ⟨NA, hNA⟩ : ∃ x, x = NL.all nOk := ⟨_, rfl⟩
  obtain ⟨PB, hPB⟩ : ∃ x, x = badP l := ⟨_, rfl⟩
  rw [← hNA, ← hPB]
  have HNA := Lib.hid hNA
  have HPB := Lib.hid hPB
  clear hNA hPB
  go_enter Try.func21, Try.ntmps21
  go_upto_region 1 with (first | ((with_reducible refine at_dst (N := 1) rfl ?_); refine wpList_box hst 37 (arcC d num ao n cap) rfl ?hr ?_; (case hr => first | (go_simp; done) | (go_simp; rfl)); clear hst; intro g1 w1 hst; obtain ⟨hc1, hf1, hl1⟩ := hst.c0))
  go_cut [3] (fun s3 wx => ∃ (g cap18 : Nat) (cs : Array Value), s3 = .slice (some ⟨g, 0, none⟩) 18 cap18 ∧ Hid (∀ j (h : j < NL.length), cs[j]? = some (.int .i64 NL[j])) ∧ St w wx [⟨g, cs, 3⟩, ⟨g1, arcC d num ao n cap, 37⟩])
  case first =>
    have hl1' : g1 < w1.heap.size := hl1
    have r0 : w1.rangeAt g1 0 d.cells.toList := arc_range hc1
    have r1 : w1.cell? ⟨g1, 21, none⟩ = some (.int .i64 num) := hc1 21
    clear hc1 hf1 hl1
    refine wp_region_held_drew (S := fun w' => w'.rangeAt g1 0 d.cells.toList ∧ w'.cell? ⟨g1, 21, none⟩ = some (.int .i64 num)) (by kernel_rfl) ⟨r0, r1⟩ (fun hHeld => ?_)
    refine wpAnyH_take (i := 0) (v := pt g1 0) rfl (by kernel_rfl) (by kernel_rfl) (by kernel_rfl) (fun _ _ _ h => h) (Or.inl ⟨by rfl, ?_⟩) hHeld ?_
    · intro w hSw; go_simp
    refine wpAnyH_take (i := 1) (v := .agg d.cells) rfl (by kernel_rfl) (by kernel_rfl) (by kernel_rfl) (fun _ _ _ h => h) (yieldsIf_load_mid (cs := d.cells.toList) (by rfl) _ _ rfl g1 0 rfl _ (fun w h => h.1) Try.underlying34 rfl (by kernel_rfl)) hHeld ?_
    refine wpAnyH_take (i := 3) (v := pt g1 21) rfl (by kernel_rfl) (by kernel_rfl) (by kernel_rfl) (fun _ _ _ h => h) (Or.inl ⟨by rfl, ?_⟩) hHeld ?_
    · intro w hSw; go_simp
    refine wpAnyH_take (i := 4) (v := .int .i64 num) rfl (by kernel_rfl) (by kernel_rfl) (by kernel_rfl) (fun _ _ _ h => h) (Or.inl ⟨by rfl, ?_⟩) hHeld ?_
    · intro w hSw; obtain ⟨_, h2⟩ := hSw; go_simp
    simp only [Act.put, List.setIfInBounds_toArray, List.set_cons_zero, List.set_cons_succ]
    refine wpAnyH_ready (rs := [2, 5]) (by kernel_rfl) (by simp) ?_
    refine AllReadyH.cons rfl (fun K hK => ?_) (AllReadyH.cons rfl (fun K hK => ?_) AllReadyH.nil)
    · go_simp
      go_at_call 42
      refine (numbersR_any d _).mono ?_
      rintro e w' ⟨gn, rfl, hk⟩
      go_wp2_with fail
      have hA := hst.drew.call hk
      have hcA := (St.cM (L1 := [⟨gn, numC d, 3⟩]) (L2 := []) hA).1
      refine hK.out _ _ ⟨arc_range hcA, hcA 21⟩ (fun hHeld2 => ?_)
      try simp only [Act.put, List.setIfInBounds_toArray, List.set_cons_zero, List.set_cons_succ]
      refine wpAnyH_ready (rs := [5]) (by kernel_rfl) (by simp) ?_
      clear hK
      refine AllReadyH.cons rfl (fun K hK => ?_) AllReadyH.nil
      go_simp
      have hB := hA.box #[.int .i64 num] 3
      have hcB := (St.cM (L1 := [⟨w'.heap.size, #[.int .i64 num], 3⟩, ⟨gn, numC d, 3⟩]) (L2 := []) hB).1
      refine hK.out _ _ ⟨arc_range hcB, hcB 21⟩ (fun hHeld2 => ?_)
      try simp only [Act.put, List.setIfInBounds_toArray, List.set_cons_zero, List.set_cons_succ]
      refine wpAnyH_ready (rs := [6]) (by kernel_rfl) (by simp) ?_
      clear hK
      refine AllReadyH.cons rfl (fun K hK => ?_) AllReadyH.nil
      refine step_append_row (L := [⟨w'.heap.size, #[.int .i64 num], 3⟩, ⟨g1, arcC d num ao n cap, 37⟩]) (R := [⟨gn, numC d, 3⟩]) (hB.perm (((List.Perm.swap _ _ _)).cons _)) ⟨rfl, Or.inr ⟨gn, 17, numC d, rfl, rfl, Nat.le_refl _, by unfold maxLen; omega, rfl, rfl⟩⟩ rfl (.tmp 8) (.tmp 11) 72 rfl (.int .i64 0) 8 (Try.underlying72) (by kernel_rfl) rfl (by decide) rfl ⟨w'.heap.size, 0, none⟩ 1 1 [.int .i64 num] rfl rfl (news_own hB) (by simp [Value.oneCell']) (by unfold maxLen; omega) (by omega) ?_
      intro v' R' w9 hst2 HR2
      refine hK.out _ _ ⟨arc_range hst2.c1.1, hst2.c1.1 21⟩ (fun hHeld3 => ?_)
      try simp only [Act.put, List.setIfInBounds_toArray, List.set_cons_zero, List.set_cons_succ]
      refine wpAnyH_ready (rs := [7]) (by kernel_rfl) (by simp) ?_
      refine AllReadyH.cons rfl (fun K hK => ?_) AllReadyH.nil
      go_simp
      refine hK.out _ _ hHeld3 (fun hHeld4 => ?_)
      refine wpAnyH_done (by kernel_rfl) ?_ _
      try simp only [Act.put, List.setIfInBounds_toArray, List.set_cons_zero, List.set_cons_succ]
      go_wp2_with fail
      go_meet
      have HR3 : RowIs 3 1 v' 18 ((numC d).toList ++ [.int .i64 num]) R' := HR2
      clear HR2
      obtain ⟨g, cap18, cs, rfl, rfl, hcs⟩ := row_cells HR3 (by omega)
      refine ⟨g, cap18, cs, rfl, fun j hj => ?_, hst2.perm (((List.perm_append_comm (l₁ := [_, _]) (l₂ := [_])))) |>.sub (((List.Sublist.refl _).cons _).cons_cons _)⟩
      rw [hcs j (by have h18 : NL.length = 18 := (by rw [HNL.out]; rfl); omega)]
      have e : (numC d).toList ++ [.int .i64 num] = NL.map (Value.int .i64) := by rw [HNL.out]; rfl
      rw [e]
      simp [hj]
    · go_simp
      have hB := hst.drew.box #[.int .i64 num] 3
      have hcB := (St.cM (L1 := [⟨w1.heap.size, #[.int .i64 num], 3⟩]) (L2 := []) hB).1
      refine hK.out _ _ ⟨arc_range hcB, hcB 21⟩ (fun hHeld2 => ?_)
      try simp only [Act.put, List.setIfInBounds_toArray, List.set_cons_zero, List.set_cons_succ]
      refine wpAnyH_ready (rs := [2]) (by kernel_rfl) (by simp) ?_
      clear hK
      refine AllReadyH.cons rfl (fun K hK => ?_) AllReadyH.nil
      go_simp
      go_at_call 42
      refine (numbersR_any d _).mono ?_
      rintro e w' ⟨gn, rfl, hk⟩
      go_wp2_with fail
      have hA := hB.call hk
      have hcA := (St.cM (L1 := [⟨gn, numC d, 3⟩, ⟨w1.heap.size, #[.int .i64 num], 3⟩]) (L2 := []) hA).1
      refine hK.out _ _ ⟨arc_range hcA, hcA 21⟩ (fun hHeld2 => ?_)
      try simp only [Act.put, List.setIfInBounds_toArray, List.set_cons_zero, List.set_cons_succ]
      refine wpAnyH_ready (rs := [6]) (by kernel_rfl) (by simp) ?_
      clear hK
      refine AllReadyH.cons rfl (fun K hK => ?_) AllReadyH.nil
      refine step_append_row (L := [⟨w1.heap.size, #[.int .i64 num], 3⟩, ⟨g1, arcC d num ao n cap, 37⟩]) (R := [⟨gn, numC d, 3⟩]) (hA.perm (List.perm_append_singleton _ _).symm) ⟨rfl, Or.inr ⟨gn, 17, numC d, rfl, rfl, Nat.le_refl _, by unfold maxLen; omega, rfl, rfl⟩⟩ rfl (.tmp 8) (.tmp 11) 72 rfl (.int .i64 0) 8 (Try.underlying72) (by kernel_rfl) rfl (by decide) rfl ⟨w1.heap.size, 0, none⟩ 1 1 [.int .i64 num] rfl rfl (news_own (hA.perm (List.Perm.swap _ _ _))) (by simp [Value.oneCell']) (by unfold maxLen; omega) (by omega) ?_
      intro v' R' w9 hst2 HR2
      refine hK.out _ _ ⟨arc_range hst2.c1.1, hst2.c1.1 21⟩ (fun hHeld3 => ?_)
      try simp only [Act.put, List.setIfInBounds_toArray, List.set_cons_zero, List.set_cons_succ]
      refine wpAnyH_ready (rs := [7]) (by kernel_rfl) (by simp) ?_
      refine AllReadyH.cons rfl (fun K hK => ?_) AllReadyH.nil
      go_simp
      refine hK.out _ _ hHeld3 (fun hHeld4 => ?_)
      refine wpAnyH_done (by kernel_rfl) ?_ _
      try simp only [Act.put, List.setIfInBounds_toArray, List.set_cons_zero, List.set_cons_succ]
      go_wp2_with fail
      go_meet
      have HR3 : RowIs 3 1 v' 18 ((numC d).toList ++ [.int .i64 num]) R' := HR2
      clear HR2
      obtain ⟨g, cap18, cs, rfl, rfl, hcs⟩ := row_cells HR3 (by omega)
      refine ⟨g, cap18, cs, rfl, fun j hj => ?_, hst2.perm (((List.perm_append_comm (l₁ := [_, _]) (l₂ := [_])))) |>.sub (((List.Sublist.refl _).cons _).cons_cons _)⟩
      rw [hcs j (by have h18 : NL.length = 18 := (by rw [HNL.out]; rfl); omega)]
      have e : (numC d).toList ++ [.int .i64 num] = NL.map (Value.int .i64) := by rw [HNL.out]; rfl
      rw [e]
      simp [hj]
  case rest =>
    clear hst hc1 hf1 hl1
    obtain ⟨g, cap18, cs, rfl, HCS, hst⟩ := hcut
    have h18 : NL.length = 18 := by rw [HNL.out]; rfl
    go_wp2_with fail
    go_loopw [4] (fun t wr => ∃ k : Nat, k ≤ 18 ∧ t = .int .i64 k ∧ Hid (∀ j (h : j < NL.length), j < k → nOk NL[j] = true) ∧ St w wr [⟨g, cs, 3⟩, ⟨g1, arcC d num ao n cap, 37⟩]) (fun t _ => 18 - (intOf t).toNat)
    case atStart => exact ⟨0, Nat.zero_le _, rfl, fun j _ hj => absurd hj (by omega), hst⟩
    case round =>
      clear hst
      obtain ⟨k, hk, rfl, HZ, hst⟩ := hrel
      by_cases hlt : k < 18
      · obtain ⟨v, hv'⟩ : ∃ v, v = NL[k]'(by omega) := ⟨_, rfl⟩
        have c0 : wr.cell? ⟨g, k, none⟩ = some (.int .i64 v) := by rw [hst.c0.1 k, HCS.out k (by omega), ← hv']
        have HV := Lib.hid hv'
        clear hv'
        by_cases hok : nOk v = true
        · have HOK := Lib.hid hok
          simp only [nOk, decide_eq_true_eq] at hok
          obtain ⟨o1, o2⟩ := hok
          go_wp2
          go_roundw
          case measure => simp [intOf]; omega
          case rel =>
            refine ⟨k + 1, by omega, by go_num, fun j h hj => ?_, hst⟩
            by_cases e : j = k
            · subst e; rw [← HV.out]; exact HOK.out
            · exact HZ.out j h (by omega)
        · have hall : NL.all nOk = false := by
            rw [List.all_eq_false]
            exact ⟨v, by rw [HV.out]; exact List.getElem_mem _, hok⟩
          have e1 : NA = false := HNA.out.trans hall
          have E1 := Lib.hid e1
          simp only [nOk, decide_eq_true_eq] at hok
          clear hall e1
          go_wp2
          all_goals (go_ret; exact ⟨ret_bool (by rw [E1.out]; simp), hst.base⟩)
      · have hall : NL.all nOk = true := by
          rw [List.all_eq_true]
          intro x hx
          obtain ⟨j, hj, rfl⟩ := List.getElem_of_mem hx
          exact HZ.out j hj (by omega)
        have e1 : NA = true := HNA.out.trans hall
        have E1 := Lib.hid e1
        clear hall e1 HZ HCS HNL HNA
        replace hst := hst.sub (L' := [⟨g1, arcC d num ao n cap, 37⟩]) (by simp)
        go_wp2
        go_loopw [5] (fun t wv => ∃ j : Nat, j ≤ n ∧ t = .int .i64 j ∧ Hid (∀ i (h : i < l.length), i < j → (l[i]).ok = true) ∧ St w wv [⟨g1, arcC d num ao n cap, 37⟩]) (fun t _ => n - (intOf t).toNat)
        case atStart => exact ⟨0, Nat.zero_le _, rfl, fun j _ hj => absurd hj (by omega), hst⟩
        case round =>
          clear hst
          obtain ⟨j, hj, rfl, HZ, hst⟩ := hrel
          obtain ⟨hc1, hf1, hl1⟩ := hst.c0
          by_cases hlt2 : j < n
          · have hkl : j < l.length := by rw [← HN.out]; exact hlt2
            obtain ⟨c, hcc⟩ : ∃ c, c = l[j] := ⟨_, rfl⟩
            obtain ⟨b, off, rfl, hb, hat⟩ : ∃ b off, ao = some ⟨b, off, none⟩ ∧ b < w.heap.size ∧ PrsAt w b off l := by
              rcases HC.out with h | h
              · rw [h] at hkl; simp at hkl
              · exact h
            obtain ⟨c0, c1⟩ := (hat.below hb hst.base).get hkl hcc
            have hsz : c.Sz := by rw [hcc]; exact HS.out _ (List.getElem_mem _)
            obtain ⟨z1, z2⟩ := hsz
            have HCC := Lib.hid hcc
            clear hcc hat
            by_cases hok : c.ok = true
            · have HOK := Lib.hid hok
              simp only [Pr.ok, decide_eq_true_eq] at hok
              obtain ⟨o1, o2⟩ := hok
              go_wp2
              go_roundw
              case measure => simp [intOf]; omega
              case rel =>
                refine ⟨j + 1, by omega, by go_num, fun i h hi => ?_, hst⟩
                by_cases e : i = j
                · subst e; rw [← HCC.out]; exact HOK.out
                · exact HZ.out i h (by omega)
            · have hbad : badP l = true := by
                rw [badP, List.any_eq_true]
                exact ⟨c, by rw [HCC.out]; exact List.getElem_mem _, by simpa using hok⟩
              have e2 : PB = true := HPB.out.trans hbad
              have E2 := Lib.hid e2
              simp only [Pr.ok, decide_eq_true_eq] at hok
              clear hbad e2
              go_wp2
              all_goals (go_ret; exact ⟨ret_bool (by rw [E2.out]; simp), hst.base⟩)
          · have hbad : badP l = false := by
              rw [badP, List.any_eq_false]
              intro c hc
              obtain ⟨i, hi, rfl⟩ := List.getElem_of_mem hc
              have := HZ.out i hi (by have := HN.out; omega)
              simp [this]
            have e2 : PB = false := HPB.out.trans hbad
            have E2 := Lib.hid e2
            clear hbad e2
            go_wp2
            all_goals (go_ret; refine ⟨ret_bool ?_, hst.base⟩; rw [E1.out, E2.out, Bool.eq_iff_iff]; simp; omega)
end Go.Proofs.Ytklpamhhbigjfaa
