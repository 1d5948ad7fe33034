/- ChangeParts: the walk of the law. -/
import Derived.Test.YtklpamhhbigjfaaDoorIdsR47
import Derived.Test.YtklpamhhbigjfaaDoorFew47
import Derived.Test.YtklpamhhbigjfaaDoorAwake47
import Derived.Test.YtklpamhhbigjfaaDoorOpen47
namespace Go.Proofs.YtklpamhhbigjfaaDoor
open Go.RowKit
set_option linter.unusedSimpArgs false
set_option linter.unusedVariables false
attribute [go_sem high] run_neqNum

theorem ofS_get {num id : Int} {l : List Chg} {p : Int × Chg} (h : p ∈ ofS num id l) : ∃ (i : Nat) (hi : i < l.length), p = (num + i, l[i]) ∧ (l[i]).id = id := by
  simp only [ofS, List.mem_map, List.mem_filter, decide_eq_true_eq] at h
  obtain ⟨⟨c, i⟩, ⟨h1, h2⟩, rfl⟩ := h
  obtain ⟨q, hi, hc⟩ := List.mem_zipIdx h1
  simp only [Nat.sub_zero, Nat.zero_add] at hi hc
  dsimp only at h2 ⊢
  rw [hc] at h2
  exact ⟨i, by omega, by rw [hc], h2⟩
theorem ofS_all {num id : Int} {l : List Chg} {i : Nat} (hi : i < l.length) (h : (l[i]).id = id) : (num + (i : Int), l[i]) ∈ ofS num id l := by
  simp only [ofS, List.mem_map, List.mem_filter, decide_eq_true_eq]
  exact ⟨(l[i], i), ⟨List.mk_mem_zipIdx_iff_getElem?.2 (by simp [hi]), h⟩, rfl⟩
theorem flat6 : ∀ (ps : List (Int × Chg)) (j : Nat) (h : j < ps.length) (q : Nat), q < 6 → (ps.flatMap nC)[j * 6 + q]? = (nC ps[j])[q]?
  | [], j, h, q, _ => by simp at h
  | p :: ps, 0, h, q, hq => by
    rw [List.flatMap_cons, List.getElem?_append_left (by simp [nC]; omega)]
    simp
  | p :: ps, j + 1, h, q, hq => by
    have h6 : (nC p).length = 6 := rfl
    rw [List.flatMap_cons, List.getElem?_append_right (by rw [h6]; omega), h6, show (j + 1) * 6 + q - 6 = j * 6 + q by omega]
    exact flat6 ps j (by simpa using h) q hq
theorem row_slice {E : TypeId} {size : Nat} {v : Value} {n : Nat} {xs : List Value} {R : List BK} (h : RowIs E size v n xs R) : ∃ ao cap, v = .slice ao n cap := by
  rcases h.2 with ⟨h1, h2, _⟩ | ⟨g, cap, cs, hR, h1, _⟩
  · subst h2; exact ⟨none, 0, h1⟩
  · exact ⟨_, _, h1⟩
theorem row_cells6 {v : Value} {ps : List (Int × Chg)} {R : List BK} (h : RowIs 56 6 v ps.length (ps.flatMap nC) R) (hn : 0 < ps.length) : ∃ g cap cs, R = [⟨g, cs, 56⟩] ∧ v = .slice (some ⟨g, 0, none⟩) ps.length cap ∧ ∀ j (h : j < ps.length) q, q < 6 → cs[j * 6 + q]? = (nC ps[j])[q]? := by
  rcases h.2 with ⟨_, h2, _⟩ | ⟨g, cap, cs, hR, h1, h2, h3, h4, h5⟩
  · omega
  · refine ⟨g, cap, cs, hR, h1, fun j hj q hq => ?_⟩
    rw [← flat6 ps j hj q hq, ← h5, List.getElem?_take_of_lt (by omega)]
    simp
section
variable {P : Program} {ops : Array Oper} {rest : List Oper} {o : Oper} {a : Act} {Q : Exit → Act → World → Prop} {w0 w : World} {L : List BK} {gm n : Nat} {es : Array MapEntry}
theorem wpList_boxSM (hsm : Sm w0 w gm es n L) (t : TypeId) (cs : Array Value) (k c : Nat) (hgd : o.guard = none)
    (hrun : (execOp a.eval o).run P w = .ok (.value (.slice (some ⟨w.heap.size, 0, none⟩) k c)) (w.alloc (.cells cs t (0, 0))))
    (h : ∀ g w1, Sm w0 w1 gm es n (⟨g, cs, t⟩ :: L) → wpList P ops Q rest (a.put o.dst (.slice (some ⟨g, 0, none⟩) k c)) w1) : wpList P ops Q (o :: rest) a w := by
  refine wpList_plain hgd fun K hK => ?_
  unfold Oper.wp
  rw [hrun]
  exact hK _ _ (h _ _ (hsm.box cs t))
theorem at_upd {t : TypeId} {m x v : Operand} (_ho : o.op = .mapUpdate t m x v) (h : wpList P ops Q (o :: rest) a w) : wpList P ops Q (o :: rest) a w := h
end

set_option maxHeartbeats 4000000 in
set_option maxRecDepth 100000 in
theorem partsL_any (num unit : Int) (l : List Chg) (ao : Option Addr) (cap : Nat) (w : World) (hin : RecIn w l ao) :
    Calls Tryd.prog 9 #[.agg (recC num unit ao l.length cap)] w fun e w' => e = .returned (.bool true) ∧ Below w.heap.size w w' := by
  obtain ⟨hl, hc, hsz⟩ := hin
  have hst := St.start w
  obtain ⟨n, hn⟩ : ∃ n, n = l.length := ⟨_, rfl⟩
  have k1 := fun w => few_any num unit 20 l ao cap w hl
  rw [← hn] at k1
  have HC := Lib.hid hc
  have HSZ := Lib.hid hsz
  clear hc hsz
  by_cases hok : fewB l 20 = true ∧ 0 ≤ num ∧ num ≤ 1099511627776
  · obtain ⟨hfew, n0, n1⟩ := hok
    rw [hfew] at k1
    have hl20 : l.length ≤ 20 := by simp only [fewB, decide_eq_true_eq] at hfew; omega
    have k2 := fun w h => ids47_any num unit l ao cap w (by omega) h
    have k3 := fun w h => idsR_any num unit l ao cap w (by omega) h
    obtain ⟨I, hI⟩ : ∃ I, I = idsS l := ⟨_, rfl⟩
    have hIl : I.length ≤ 20 := by rw [hI]; have := ids_len l; omega
    have hImem : ∀ i (h : i < l.length), (l[i]).id ∈ I := fun i h => by rw [hI, ids_mem]; exact ⟨l[i], List.getElem_mem _, rfl⟩
    have k4 := fun v1 v2 w h1 h2 => ints46_any I I v1 v2 w (by omega) (by omega) h1 h2
    rw [decide_eq_true (rfl : I = I)] at k4
    rw [← hI] at k2 k3
    have k5 := fun w => last_any num unit ao n cap w n0 n1 (by omega)
    have k6 := fun w => lastR_any num unit ao n cap w n0 n1 (by omega)
    have k7 := fun id w h => of47_any num unit id l ao cap w n0 n1 (by omega) h
    have k8 := fun id w h => ofR_any num unit id l ao cap w n0 n1 (by omega) h
    rw [← hn] at k2 k3 k7 k8 ⊢
    have hn20 : n ≤ 20 := by omega
    have K1 := Lib.hid k1
    have K2 := Lib.hid k2
    have K3 := Lib.hid k3
    have K4 := Lib.hid k4
    have K5 := Lib.hid k5
    have K6 := Lib.hid k6
    have K7 := Lib.hid k7
    have K8 := Lib.hid k8
    have HN := Lib.hid hn
    have HMEM := Lib.hid hImem
    clear k1 k2 k3 k4 k5 k6 k7 k8 hfew hI hImem hl hl20 hn
    go_enter Tryd.func9, Tryd.ntmps9
    go_upto_region 4 with (first | ((with_reducible refine at_dst (N := 1) rfl ?_); refine wpList_box hst 29 (recC num unit ao n cap) rfl ?hr ?_; (case hr => first | (go_simp; done) | (go_simp; rfl)); clear hst; intro g1 w1 hst; obtain ⟨hc1, hf1, hl1⟩ := hst.c0) | ((with_reducible refine at_dst (N := 15) rfl ?_); (refine wpList_load_own hst ⟨g1, (recC num unit ao n cap), 29⟩ (by simp) rfl _ rfl rfl _ rfl Tryd.underlying29 (by kernel_rfl) ?_)) | ((with_reducible refine at_dst (N := 29) rfl ?_); (refine wpList_load_own hst ⟨g1, (recC num unit ao n cap), 29⟩ (by simp) rfl _ rfl rfl _ rfl Tryd.underlying29 (by kernel_rfl) ?_))  | (go_at_call 21; refine (K1.out _ (HC.out.below hst.base) HSZ.out).mono ?_; rintro e w' ⟨rfl, hb⟩; replace hst := hst.below hb; clear hb; clear hc1 hf1; obtain ⟨hc1, hf1, hl1⟩ := hst.c0)  | (go_at_call 27; refine (K2.out _ (HC.out.below hst.base)).mono ?_; rintro e w' ⟨v3, R3, rfl, hk, hr⟩; replace hst := (hst.call hk).perm List.perm_append_comm; have HR3 := Lib.hid hr; clear hk hr hc1 hf1 hl1))
    have mk : ∀ (w' : World) (L1 L2 : List BK), St w w' (L1 ++ ⟨g1, recC num unit ao n cap, 29⟩ :: L2) → w'.cell? ⟨g1, 0, none⟩ = some (.int .i64 num) ∧ w'.cell? ⟨g1, 1, none⟩ = some (.int .i64 unit) ∧ w'.cell? ⟨g1, 2, none⟩ = some (.slice ao n cap) :=
      fun w' L1 L2 h => ⟨h.cM.1 0, h.cM.1 1, h.cM.1 2⟩
    have MK := Lib.hid mk
    have hI3 := intsIn_row hst.drew HR3.out
    have HI3 := Lib.hid hI3
    clear mk hI3
    go_region_held3 (fun w' => w'.cell? ⟨g1, 0, none⟩ = some (.int .i64 num) ∧ w'.cell? ⟨g1, 1, none⟩ = some (.int .i64 unit) ∧ w'.cell? ⟨g1, 2, none⟩ = some (.slice ao n cap))
      (first | exact MK.out _ [] _ hst.drew | exact MK.out _ R4 _ hstD | exact MK.out _ R4 _ hstC | exact MK.out _ R4 _ hstB | exact MK.out _ R4 _ hstA)
      (first
        | (go_at_call 29; refine (K3.out _ (HC.out.below hst.drew.base)).mono ?_; rintro e wA ⟨v4, R4, rfl, hk4, hr4⟩; have hstA := hst.drew.call hk4)
        | (go_at_call 28; refine (K4.out _ _ _ (HI3.out.below hk4.base) (intsIn_row (L := []) hk4 hr4)).mono ?_; rintro e wB ⟨rfl, hb⟩; have hstB := hstA.below hb)
        | (go_at_call 30; refine (K5.out _).mono ?_; rintro e wC ⟨rfl, hb2⟩; have hstC := hstB.below hb2)
        | (go_at_call 31; refine (K6.out _).mono ?_; rintro e wD ⟨rfl, hb3⟩; have hstD := hstC.below hb3))
    replace hst := hstD.sub (List.sublist_append_right _ _)
    obtain ⟨cur5, hcur5⟩ : ∃ c, c = I ++ [-5] := ⟨_, rfl⟩
    have hc5l : cur5.length = I.length + 1 := by rw [hcur5]; simp
    have hmem5 : ∀ i (h : i < l.length), (l[i]).id ∈ cur5 := fun i h => by rw [hcur5]; exact List.mem_append_left _ (HMEM.out i h)
    have happ : I.map iV ++ [.int .i64 (-5)] = cur5.map iV := by rw [hcur5, List.map_append]; rfl
    have HAPP := Lib.hid happ
    have HM5 := Lib.hid hmem5
    have HC5L := Lib.hid hc5l
    clear hc5l hstA hstB hstC hstD hb hb2 hb3 hcur5 hmem5 happ HI3 HMEM
    go_wp2_with (first | ((with_reducible refine at_dst (N := 43) rfl ?_); refine wpList_makeMap hst 52 rfl rfl ?_; clear hst; intro gm w9 hsm)  | ((with_reducible refine at_dst (N := 45) rfl ?_); refine wpList_boxSM hsm 3 #[.int .i64 (-5)] 1 1 rfl ?hr ?_; (case hr => first | (go_simp; done) | (go_simp; rfl)); clear hsm; intro g4 w4 hsm)  | ((with_reducible refine at_dst (N := 46) rfl ?_); refine wpList_append_rowM (L := [⟨g4, #[.int .i64 (-5)], 3⟩, ⟨g1, recC num unit ao n cap, 29⟩]) hsm HR3.out rfl (.tmp 44) (.tmp 45) 48 rfl (.int .i64 0) 8 (Tryd.underlying48) (by kernel_rfl) rfl (by decide) rfl ⟨g4, 0, none⟩ 1 1 [.int .i64 (-5)] rfl rfl (news_own hsm.st) (by simp [Value.oneCell']) (by unfold maxLen; omega) (by omega) (by omega) ?_; clear hsm; intro v5 R5 w5 hsm HR5; rw [HAPP.out] at HR5; obtain ⟨g5, cap5, cs5, rfl, rfl, hrow5⟩ := rowI_of HR5 (by omega); have HROW5 := Lib.hid hrow5; clear hrow5 HR5; replace hsm := hsm.sub (L' := [⟨g1, recC num unit ao n cap, 29⟩, ⟨g5, cs5, 3⟩]) (by simp)))
    obtain ⟨m1, hm1⟩ : ∃ m, m = cur5.length := ⟨_, rfl⟩
    rw [← hm1]
    have HM1 := Lib.hid hm1
    have hm21 : m1 ≤ 21 := by have := HC5L.out; omega
    clear hm1
    go_wp2_with fail
    go_loopw [48] (fun t48 wr => ∃ (k nb : Nat) (es : Array MapEntry), t48 = .int .i64 k ∧ k ≤ m1 ∧ Hid (Good num l es) ∧ Hid (∀ i (h : i < l.length), (l[i]).id ∈ cur5.take k → Has num es i) ∧ Sm w wr gm es nb [⟨g1, recC num unit ao n cap, 29⟩, ⟨g5, cs5, 3⟩]) (fun t48 _ => m1 - (intOf t48).toNat)
    case atStart => exact ⟨0, 0, #[], rfl, Nat.zero_le _, fun e he => by simp at he, fun i h hm => by simp at hm, hsm⟩
    case round =>
      clear hsm
      obtain ⟨k, nb, es, rfl, hk, HG, HH, hsm⟩ := hrel
      by_cases hlt : k < m1
      · have hkl : k < cur5.length := by rw [← HM1.out]; exact hlt
        obtain ⟨id, hid⟩ : ∃ id, id = cur5[k] := ⟨_, rfl⟩
        have cid : wr.cell? ⟨g5, k, none⟩ = some (.int .i64 id) := by rw [hsm.st.c1.1 k, HROW5.out.at k hkl, hid]
        have hltd : decide ((k : Int) < (m1 : Int)) = true := decide_eq_true (by omega)
        obtain ⟨ps, hps⟩ : ∃ ps, ps = ofS num id l := ⟨_, rfl⟩
        have hpl : ps.length ≤ 20 := by rw [hps]; have h1 := ofS_len num id l; have h2 := HN.out; omega
        have HID := Lib.hid hid
        have HPS := Lib.hid hps
        clear hid hps
        go_wp2
        clear cid hltd
        go_region_held3 (fun w' => w'.cell? ⟨g1, 0, none⟩ = some (.int .i64 num) ∧ w'.cell? ⟨g1, 1, none⟩ = some (.int .i64 unit) ∧ w'.cell? ⟨g1, 2, none⟩ = some (.slice ao n cap))
          (first | exact MK.out _ [] _ hsm.drew.st | exact MK.out _ R7 _ hsA.st | exact MK.out _ (R8 ++ R7) _ hsB.st)
          (first
            | (go_at_call 32; refine (K7.out _ _ (HC.out.below hsm.drew.st.base)).mono ?_; rintro e wA ⟨v7, R7, rfl, hk7, hr7⟩; have hsA := hsm.drew.call hk7)
            | (go_at_call 33; refine (K8.out _ _ (HC.out.below hsA.st.base)).mono ?_; rintro e wB ⟨v8, R8, rfl, hk8, hr8⟩; have hsB : Sm w wB gm es nb ((R8 ++ R7) ++ [⟨g1, recC num unit ao n cap, 29⟩, ⟨g5, cs5, 3⟩]) := by have := hsA.call hk8; rwa [← List.append_assoc] at this))
        rw [← HPS.out] at hr7 hr8
        obtain ⟨pl, hpl2⟩ : ∃ pl, pl = ps.length := ⟨_, rfl⟩
        rw [← hpl2] at hr7 hr8
        obtain ⟨ao7, cap7, hv7⟩ := row_slice hr7
        obtain ⟨ao8, cap8, hv8⟩ := row_slice hr8
        subst hv7 hv8
        have HR7 := Lib.hid hr7
        have HR8 := Lib.hid hr8
        have HPL := Lib.hid hpl2
        have hpl20 : pl ≤ 20 := by omega
        clear hr7 hr8 hpl2 hpl hk7 hk8 hsA hsm
        go_wp2
        go_loopw [65] (fun t65 wv => ∃ (j nb2 : Nat) (es2 : Array MapEntry), t65 = .int .i64 j ∧ j ≤ pl ∧ Hid (Good num l es2) ∧ Hid (∀ i (h : i < l.length), (l[i]).id ∈ cur5.take k → Has num es2 i) ∧ Hid (∀ q (h : q < ps.length), q < j → ∀ i, i < l.length → (ps[q]).1 = num + (i : Int) → Has num es2 i) ∧ Sm w wv gm es2 nb2 ((R8 ++ R7) ++ [⟨g1, recC num unit ao n cap, 29⟩, ⟨g5, cs5, 3⟩])) (fun t65 _ => pl - (intOf t65).toNat)
        case atStart => exact ⟨0, nb, es, rfl, Nat.zero_le _, HG, HH, fun q _ hq => absurd hq (by omega), hsB⟩
        case round =>
          clear hsB HG HH
          obtain ⟨j, nb2, es2, rfl, hj, HG, HH, HQ, hsm⟩ := hrel
          by_cases hjlt : j < pl
          · have hjl : j < ps.length := by rw [← HPL.out]; exact hjlt
            obtain ⟨g7, cap7', cs7, rfl, hv7, qcs7⟩ := row_cells6 (by rw [← HPL.out]; exact HR7.out) (by omega)
            obtain ⟨g8, cap8', cs8, rfl, hv8, qcs8⟩ := row_cells6 (by rw [← HPL.out]; exact HR8.out) (by omega)
            have hv7' := (Value.slice.inj hv7).1
            have hv8' := (Value.slice.inj hv8).1
            clear hv7 hv8
            subst hv7' hv8'
            obtain ⟨i, hil, hpi, hii⟩ := ofS_get (by rw [← HPS.out]; exact List.getElem_mem hjl : ps[j] ∈ ofS num id l)
            obtain ⟨c, hcc⟩ : ∃ c, c = l[i] := ⟨_, rfl⟩
            have hpj : ps[j] = (num + (i : Int), c) := by rw [hpi, hcc]
            have a0 : wr.cell? ⟨g7, j * 6, none⟩ = some (.int .i64 (num + (i : Int))) := by
              have h := (St.cM (L1 := [_]) hsm.st).1 (j * 6 + 0)
              dsimp only at h
              rw [qcs7 j hjl 0 (by omega), hpj] at h
              exact h
            have a1 : wr.cell? ⟨g7, j * 6 + 1, none⟩ = some (.int .i64 c.kind) := by
              have h := (St.cM (L1 := [_]) hsm.st).1 (j * 6 + 1)
              dsimp only at h
              rw [qcs7 j hjl 1 (by omega), hpj] at h
              exact h
            have a2 : wr.cell? ⟨g7, j * 6 + 2, none⟩ = some (.int .i64 c.id) := by
              have h := (St.cM (L1 := [_]) hsm.st).1 (j * 6 + 2)
              dsimp only at h
              rw [qcs7 j hjl 2 (by omega), hpj] at h
              exact h
            have a3 : wr.cell? ⟨g7, j * 6 + 3, none⟩ = some (.string c.key) := by
              have h := (St.cM (L1 := [_]) hsm.st).1 (j * 6 + 3)
              dsimp only at h
              rw [qcs7 j hjl 3 (by omega), hpj] at h
              exact h
            have a4 : wr.cell? ⟨g7, j * 6 + 4, none⟩ = some (.string c.rcd) := by
              have h := (St.cM (L1 := [_]) hsm.st).1 (j * 6 + 4)
              dsimp only at h
              rw [qcs7 j hjl 4 (by omega), hpj] at h
              exact h
            have a5 : wr.cell? ⟨g7, j * 6 + 5, none⟩ = some (.string c.vol) := by
              have h := (St.cM (L1 := [_]) hsm.st).1 (j * 6 + 5)
              dsimp only at h
              rw [qcs7 j hjl 5 (by omega), hpj] at h
              exact h
            have b0 : wr.cell? ⟨g8, j * 6, none⟩ = some (.int .i64 (num + (i : Int))) := by
              have h := hsm.st.c0.1 (j * 6 + 0)
              dsimp only at h
              rw [qcs8 j hjl 0 (by omega), hpj] at h
              exact h
            have b1 : wr.cell? ⟨g8, j * 6 + 1, none⟩ = some (.int .i64 c.kind) := by
              have h := hsm.st.c0.1 (j * 6 + 1)
              dsimp only at h
              rw [qcs8 j hjl 1 (by omega), hpj] at h
              exact h
            have b2 : wr.cell? ⟨g8, j * 6 + 2, none⟩ = some (.int .i64 c.id) := by
              have h := hsm.st.c0.1 (j * 6 + 2)
              dsimp only at h
              rw [qcs8 j hjl 2 (by omega), hpj] at h
              exact h
            have b3 : wr.cell? ⟨g8, j * 6 + 3, none⟩ = some (.string c.key) := by
              have h := hsm.st.c0.1 (j * 6 + 3)
              dsimp only at h
              rw [qcs8 j hjl 3 (by omega), hpj] at h
              exact h
            have b4 : wr.cell? ⟨g8, j * 6 + 4, none⟩ = some (.string c.rcd) := by
              have h := hsm.st.c0.1 (j * 6 + 4)
              dsimp only at h
              rw [qcs8 j hjl 4 (by omega), hpj] at h
              exact h
            have b5 : wr.cell? ⟨g8, j * 6 + 5, none⟩ = some (.string c.vol) := by
              have h := hsm.st.c0.1 (j * 6 + 5)
              dsimp only at h
              rw [qcs8 j hjl 5 (by omega), hpj] at h
              exact h
            have HCC := Lib.hid hcc
            have HPJ := Lib.hid hpj
            have QCS8 := Lib.hid qcs8
            clear hpi hii hcc hpj qcs7 qcs8
            go_wp2_with (first | ((with_reducible refine at_dst (N := 10) rfl ?_); refine wpList_boxM hsm 56 #[.int .i64 0, .int .i64 0, .int .i64 0, .string ⟨#[]⟩, .string ⟨#[]⟩, .string ⟨#[]⟩] rfl ?hr ?_; (case hr => first | (go_simp; done) | (go_simp; rfl)); clear hsm; intro g10 w10 hsm)  | ((with_reducible refine at_store (p := 10) rfl ?_); refine wpList_putM hsm rfl _ _ rfl #[.int .i64 (num + (i : Int)), .int .i64 c.kind, .int .i64 c.id, .string c.key, .string c.rcd, .string c.vol] rfl rfl (by kernel_rfl) rfl (by simp [Value.oneCell']) ?_; clear hsm; intro wp hsm))
            have d0 := hsm.st.c0.1
            obtain ⟨e0, e1, e2, e3, e4, e5⟩ : wp.cell? ⟨g10, 0, none⟩ = some (.int .i64 (num + (i : Int))) ∧ wp.cell? ⟨g10, 1, none⟩ = some (.int .i64 c.kind) ∧ wp.cell? ⟨g10, 2, none⟩ = some (.int .i64 c.id) ∧ wp.cell? ⟨g10, 3, none⟩ = some (.string c.key) ∧ wp.cell? ⟨g10, 4, none⟩ = some (.string c.rcd) ∧ wp.cell? ⟨g10, 5, none⟩ = some (.string c.vol) := ⟨d0 0, d0 1, d0 2, d0 3, d0 4, d0 5⟩
            clear d0
            have f0 : wp.cell? ⟨g8, j * 6, none⟩ = some (.int .i64 (num + (i : Int))) := by
              have h := hsm.st.c1.1 (j * 6 + 0)
              dsimp only at h
              rw [QCS8.out j hjl 0 (by omega), HPJ.out] at h
              exact h
            have f1 : wp.cell? ⟨g8, j * 6 + 1, none⟩ = some (.int .i64 c.kind) := by
              have h := hsm.st.c1.1 (j * 6 + 1)
              dsimp only at h
              rw [QCS8.out j hjl 1 (by omega), HPJ.out] at h
              exact h
            have f2 : wp.cell? ⟨g8, j * 6 + 2, none⟩ = some (.int .i64 c.id) := by
              have h := hsm.st.c1.1 (j * 6 + 2)
              dsimp only at h
              rw [QCS8.out j hjl 2 (by omega), HPJ.out] at h
              exact h
            have f3 : wp.cell? ⟨g8, j * 6 + 3, none⟩ = some (.string c.key) := by
              have h := hsm.st.c1.1 (j * 6 + 3)
              dsimp only at h
              rw [QCS8.out j hjl 3 (by omega), HPJ.out] at h
              exact h
            have f4 : wp.cell? ⟨g8, j * 6 + 4, none⟩ = some (.string c.rcd) := by
              have h := hsm.st.c1.1 (j * 6 + 4)
              dsimp only at h
              rw [QCS8.out j hjl 4 (by omega), HPJ.out] at h
              exact h
            have f5 : wp.cell? ⟨g8, j * 6 + 5, none⟩ = some (.string c.vol) := by
              have h := hsm.st.c1.1 (j * 6 + 5)
              dsimp only at h
              rw [QCS8.out j hjl 5 (by omega), HPJ.out] at h
              exact h
            clear a0 a1 a2 a3 a4 a5 b0 b1 b2 b3 b4 b5
            have hjI : (j : Int) < (pl : Int) := by omega
            have ne := run_neqNum (num + (i : Int), c)
            dsimp only at ne
            go_quiet (fail)
            replace hsm := hsm.drewN nq
            clear e0 e1 e2 e3 e4 e5 f0 f1 f2 f3 f4 f5 ne hjI
            generalize wp.drewN nq = wq at hsm
            have d0 := hsm.st.c0.1
            obtain ⟨e0, e1, e2, e3, e4, e5⟩ : wq.cell? ⟨g10, 0, none⟩ = some (.int .i64 (num + (i : Int))) ∧ wq.cell? ⟨g10, 1, none⟩ = some (.int .i64 c.kind) ∧ wq.cell? ⟨g10, 2, none⟩ = some (.int .i64 c.id) ∧ wq.cell? ⟨g10, 3, none⟩ = some (.string c.key) ∧ wq.cell? ⟨g10, 4, none⟩ = some (.string c.rcd) ∧ wq.cell? ⟨g10, 5, none⟩ = some (.string c.vol) := ⟨d0 0, d0 1, d0 2, d0 3, d0 4, d0 5⟩
            clear d0
            go_wp2_with (first | ((with_reducible refine at_upd rfl ?_); refine wpList_update_good (num := num) (l := l) (i := i) hsm hil HG.out 52 3 23 (.tmp 76) (.tmp 78) (.tmp 80) rfl rfl rfl rfl c HCC.out rfl (Tryd.underlying52) (Tryd.underlying3) ?_; clear hsm e0 e1 e2 e3 e4 e5; intro es3 nb3 w11 hsm hg3 hm3 hh3; have HG3 := Lib.hid hg3; have HM3 := Lib.hid hm3; have HH3 := Lib.hid hh3; clear hg3 hm3 hh3))
            go_roundw
            case measure => simp [intOf]; omega
            case rel =>
              refine ⟨j + 1, nb3, es3, by go_num, by omega, HG3.out, fun i' h' hm' => HM3.out i' (HH.out i' h' hm'), fun q hq hqj i' hi' he' => ?_, hsm.sub ((List.Sublist.refl _).cons _)⟩
              by_cases e : q = j
              · subst e
                rw [HPJ.out] at he'
                have : i' = i := by
                  have he2 : num + (i : Int) = num + (i' : Int) := he'
                  omega
                subst this
                exact HH3.out
              · exact HM3.out i' (HQ.out q hq (by omega) i' hi' he')
          · have hjp : j = pl := by omega
            go_wp2
            go_roundw
            case measure => simp [intOf]; omega
            case rel =>
              refine ⟨k + 1, nb2, es2, by go_num, by omega, HG.out, fun i h hm => ?_, hsm.sub (List.sublist_append_right _ _)⟩
              rw [List.take_succ_eq_append_getElem hkl, List.mem_append, List.mem_singleton, ← HID.out] at hm
              rcases hm with hm | hm
              · exact HH.out i h hm
              · have hp := ofS_all (num := num) h hm
                rw [← HPS.out] at hp
                obtain ⟨q, hq, hqe⟩ := List.getElem_of_mem hp
                exact HQ.out q hq (by rw [hjp, HPL.out]; exact hq) i h (by rw [hqe])
      · have hall : ∀ i (h : i < l.length), Has num es i := fun i h => HH.out i h (by rw [List.take_of_length_le (by rw [← HM1.out]; omega)]; exact HM5.out i h)
        have HALL := Lib.hid hall
        clear hall HH
        replace hsm := hsm.sub (L' := [⟨g1, recC num unit ao n cap, 29⟩]) (by simp)
        obtain ⟨hc1, hf1, hl1⟩ := hsm.st.c0
        go_wp2
        clear hc1 hf1 hl1
        go_loopw [86] (fun t86 wv => ∃ i : Nat, t86 = .int .i64 i ∧ i ≤ n ∧ Sm w wv gm es nb [⟨g1, recC num unit ao n cap, 29⟩]) (fun t86 _ => n - (intOf t86).toNat)
        case atStart => exact ⟨0, rfl, Nat.zero_le _, hsm⟩
        case round =>
          clear hsm
          obtain ⟨i, rfl, hi, hsm⟩ := hrel
          by_cases hilt : i < n
          · have hil : i < l.length := by rw [← HN.out]; exact hilt
            obtain ⟨c, hcc⟩ : ∃ c, c = l[i] := ⟨_, rfl⟩
            obtain ⟨b, off, rfl, hb, hat⟩ : ∃ b off, ao = some ⟨b, off, none⟩ ∧ b < w.heap.size ∧ ChgsAt w b off l := by
              rcases HC.out with h | h
              · rw [h] at hil; simp at hil
              · exact h
            obtain ⟨c0, c1, c2, c3, c4⟩ := (hat.below hb hsm.st.base).get hil hcc
            have HCC := Lib.hid hcc
            have hwr : IntKind.i64.wrap (num + (i : Int)) = num + (i : Int) := IntWalk.i64_in _ (by omega)
            have e1 : decide (c = c) = true := decide_eq_true rfl
            have LK := Lib.hid (fun (w' : World) (h : w'.heap[gm]? = some (.map es nb)) => lookup_good (P := Tryd.prog) (mty := 52) (kt := 3) (et := 23) hil HG.out (HALL.out i hil) (Tryd.underlying52) (Tryd.underlying3) h)
            rw [← HCC.out] at LK
            clear hcc hat
            by_cases h5 : c.id = -5
            · have x5 : (c.id == -5) = true := by simp [h5]
              have x6 : (c.id != -5) = false := by simp [h5]
              clear h5
              go_wp2_with (first | ((with_reducible refine at_dst (N := 12) rfl ?_); refine wpList_boxM hsm 23 #[.int .i64 0, .int .i64 0, .string ⟨#[]⟩, .string ⟨#[]⟩, .string ⟨#[]⟩] rfl ?hr ?_; (case hr => first | (go_simp; done) | (go_simp; rfl)); clear hsm; intro g12 w12 hsm)  | ((with_reducible refine at_store (p := 12) rfl ?_); refine wpList_putM hsm rfl _ _ rfl c.cells rfl rfl (by kernel_rfl) rfl (by simp [Value.oneCell']) ?_; clear hsm c0 c1 c2 c3 c4; intro wp hsm; have lk := LK.out _ hsm.map; obtain ⟨hc1, hf1, hl1⟩ := hsm.st.c1)  | ((with_reducible refine at_dst (N := 13) rfl ?_); refine wpList_boxM hsm 23 #[.int .i64 0, .int .i64 0, .string ⟨#[]⟩, .string ⟨#[]⟩, .string ⟨#[]⟩] rfl ?hr ?_; (case hr => first | (go_simp; done) | (go_simp; rfl)); clear hsm lk hc1 hf1 hl1; intro g13 w13 hsm)  | ((with_reducible refine at_store (p := 13) rfl ?_); refine wpList_putM hsm rfl _ _ rfl c.cells rfl rfl (by kernel_rfl) rfl (by simp [Value.oneCell']) ?_; clear hsm; intro wp2 hsm; have hst := hsm.st; obtain ⟨hc12, hf12, hl12⟩ := hst.c1)  | ((with_reducible refine at_dst (N := 107) rfl ?_); refine wpList_load_g hst ⟨g13, c.cells, 23⟩ (by simp) rfl _ rfl rfl rfl Tryd.underlying23 (by kernel_rfl) ?_) | ((with_reducible refine at_dst (N := 108) rfl ?_); refine wpList_load_g hst ⟨g12, c.cells, 23⟩ (by simp) rfl _ rfl rfl rfl Tryd.underlying23 (by kernel_rfl) ?_))
              go_roundw
              case measure => simp [intOf]; omega
              case rel => exact ⟨i + 1, by go_num, by omega, hsm.sub (by simp)⟩
            · have x5 : (c.id == -5) = false := by simp [h5]
              have x6 : (c.id != -5) = true := by simp [h5]
              clear h5
              go_wp2_with (first | ((with_reducible refine at_dst (N := 12) rfl ?_); refine wpList_boxM hsm 23 #[.int .i64 0, .int .i64 0, .string ⟨#[]⟩, .string ⟨#[]⟩, .string ⟨#[]⟩] rfl ?hr ?_; (case hr => first | (go_simp; done) | (go_simp; rfl)); clear hsm; intro g12 w12 hsm)  | ((with_reducible refine at_store (p := 12) rfl ?_); refine wpList_putM hsm rfl _ _ rfl c.cells rfl rfl (by kernel_rfl) rfl (by simp [Value.oneCell']) ?_; clear hsm c0 c1 c2 c3 c4; intro wp hsm; have lk := LK.out _ hsm.map; obtain ⟨hc1, hf1, hl1⟩ := hsm.st.c1)  | ((with_reducible refine at_dst (N := 13) rfl ?_); refine wpList_boxM hsm 23 #[.int .i64 0, .int .i64 0, .string ⟨#[]⟩, .string ⟨#[]⟩, .string ⟨#[]⟩] rfl ?hr ?_; (case hr => first | (go_simp; done) | (go_simp; rfl)); clear hsm lk hc1 hf1 hl1; intro g13 w13 hsm)  | ((with_reducible refine at_store (p := 13) rfl ?_); refine wpList_putM hsm rfl _ _ rfl c.cells rfl rfl (by kernel_rfl) rfl (by simp [Value.oneCell']) ?_; clear hsm; intro wp2 hsm; have hst := hsm.st; obtain ⟨hc12, hf12, hl12⟩ := hst.c1)  | ((with_reducible refine at_dst (N := 107) rfl ?_); refine wpList_load_g hst ⟨g13, c.cells, 23⟩ (by simp) rfl _ rfl rfl rfl Tryd.underlying23 (by kernel_rfl) ?_) | ((with_reducible refine at_dst (N := 108) rfl ?_); refine wpList_load_g hst ⟨g12, c.cells, 23⟩ (by simp) rfl _ rfl rfl rfl Tryd.underlying23 (by kernel_rfl) ?_))
              go_roundw
              case measure => simp [intOf]; omega
              case rel => exact ⟨i + 1, by go_num, by omega, hsm.sub (by simp)⟩
          · go_wp2_with (first | (go_at_call 10; refine (awake47_any _).mono ?_; rintro e w' ⟨rfl, hb⟩; have hbb := below_next hsm.st.base hb))
            go_ret
            exact ⟨rfl, hbb⟩
  · cases hfew : fewB l 20 with
    | false =>
      rw [hfew] at k1
      rw [← hn]
      have K1 := Lib.hid k1
      clear k1 hfew hok hn
      go_enter Tryd.func9, Tryd.ntmps9
      go_wp2_with (first | ((with_reducible refine at_dst (N := 1) rfl ?_); refine wpList_box hst 29 (recC num unit ao n cap) rfl ?hr ?_; (case hr => first | (go_simp; done) | (go_simp; rfl)); clear hst; intro g1 w1 hst; obtain ⟨hc1, hf1, hl1⟩ := hst.c0) | ((with_reducible refine at_dst (N := 15) rfl ?_); (refine wpList_load_own hst ⟨g1, (recC num unit ao n cap), 29⟩ (by simp) rfl _ rfl rfl _ rfl Tryd.underlying29 (by kernel_rfl) ?_))  | (go_at_call 21; refine (K1.out _ (HC.out.below hst.base) HSZ.out).mono ?_; rintro e w' ⟨rfl, hb⟩; replace hst := hst.below hb; clear hb; clear hc1 hf1; obtain ⟨hc1, hf1, hl1⟩ := hst.c0)  | (go_at_call 10; refine (awake47_any _).mono ?_; rintro e w' ⟨rfl, hb⟩; replace hst := hst.below hb; clear hb; clear hc1 hf1; obtain ⟨hc1, hf1, hl1⟩ := hst.c0))
      all_goals (go_ret; exact ⟨rfl, hst.base⟩)
    | true =>
      rw [hfew] at k1
      rw [← hn]
      have K1 := Lib.hid k1
      have hor : num < 0 ∨ 1099511627776 < num := by
        by_cases h0 : 0 ≤ num
        · refine Or.inr ?_
          have : ¬ num ≤ 1099511627776 := fun h => hok ⟨hfew, h0, h⟩
          omega
        · exact Or.inl (by omega)
      clear k1 hfew hok hn
      go_enter Tryd.func9, Tryd.ntmps9
      go_wp2_with (first | ((with_reducible refine at_dst (N := 1) rfl ?_); refine wpList_box hst 29 (recC num unit ao n cap) rfl ?hr ?_; (case hr => first | (go_simp; done) | (go_simp; rfl)); clear hst; intro g1 w1 hst; obtain ⟨hc1, hf1, hl1⟩ := hst.c0) | ((with_reducible refine at_dst (N := 15) rfl ?_); (refine wpList_load_own hst ⟨g1, (recC num unit ao n cap), 29⟩ (by simp) rfl _ rfl rfl _ rfl Tryd.underlying29 (by kernel_rfl) ?_))  | (go_at_call 21; refine (K1.out _ (HC.out.below hst.base) HSZ.out).mono ?_; rintro e w' ⟨rfl, hb⟩; replace hst := hst.below hb; clear hb; clear hc1 hf1; obtain ⟨hc1, hf1, hl1⟩ := hst.c0)  | (go_at_call 10; refine (awake47_any _).mono ?_; rintro e w' ⟨rfl, hb⟩; replace hst := hst.below hb; clear hb; clear hc1 hf1; obtain ⟨hc1, hf1, hl1⟩ := hst.c0))
      all_goals (go_ret; exact ⟨rfl, hst.base⟩)
end Go.Proofs.YtklpamhhbigjfaaDoor
