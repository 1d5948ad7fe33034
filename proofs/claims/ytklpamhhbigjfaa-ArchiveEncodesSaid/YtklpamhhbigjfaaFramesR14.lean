/- The reference of chapter 14: Frames, Encode, Size. -/
import Derived.Test.YtklpamhhbigjfaaItemsR14
import Derived.Test.YtklpamhhbigjfaaEncW14
import Derived.Test.YtklpamhhbigjfaaFrameR14
namespace Go.Proofs.Ytklpamhhbigjfaa
open Go.RowKit
set_option linter.unusedSimpArgs false
set_option linter.unusedVariables false

theorem frC_E {s : ByteArray} {i m M N E : Nat} (hi : i = 56 * m) (hM : M = N + m) (hE : E = min s.size (i + 56)) : frS (M : Int) ((i : Int) == 0) (decide ((s.size : Int) ≤ (i : Int) + 56)) (s.extract i E) = frC N s m := by
  have e1 : ((i : Int) == 0) = decide (m = 0) := by rw [Bool.eq_iff_iff]; simp; omega
  have e2 : decide ((s.size : Int) ≤ (i : Int) + 56) = decide (s.size ≤ 56 * m + 56) := by rw [Bool.eq_iff_iff]; simp; omega
  rw [e1, e2, frC, chS, hM, hE, hi]

theorem frA_le : ∀ (L : List ByteArray) (n : Nat), ∀ s ∈ frA n L, s.size ≤ 64
  | [], _, s, h => by simp [frA] at h
  | x :: L, n, s, h => by
    rcases List.mem_append.1 h with h | h
    · obtain ⟨j, _, rfl⟩ := List.mem_map.1 h
      exact frS_le _ _ _ _
    · exact frA_le L _ s h
def FramesP (L : List ByteArray) (w : World) (e : Ending) (w' : World) : Prop := ∃ (v : Value) (R : List BK), e = .returned v ∧ St w w' R ∧ RowIs 9 1 v (frT L) ((frA 0 L).map Value.string) R
set_option maxHeartbeats 2000000 in
set_option maxRecDepth 100000 in
theorem framesR_any (d : DS) (num : Int) (l : List Pr) (ao : Option Addr) (cap : Nat) (w : World) (hok : arcOk d num l = true) (hc : Prs w ao l) :
    Calls Try.prog 35 #[.agg (arcC d num ao l.length cap)] w (FramesP (itemsL d num l) w) := by
  have hst := St.start w
  have k2 := fun w (h : Prs w ao l) => itemsR_any d num l ao cap w hok h
  have sz := items_sizes hok
  have nn := (arcOk_facts hok).2.2.2.1
  obtain ⟨n, hn⟩ : ∃ n, n = l.length := ⟨_, rfl⟩
  obtain ⟨L, hL⟩ : ∃ L, L = itemsL d num l := ⟨_, rfl⟩
  have hLn : L.length = n + 1 := by rw [hL, hn]; simp [itemsL]
  rw [← hn] at k2 nn ⊢
  rw [← hL] at k2 sz ⊢
  have HC := Lib.hid hc
  have K2 := Lib.hid k2
  have SZ := Lib.hid sz
  have HL := Lib.hid hLn
  clear k2 sz hc hn hL hLn hok
  go_enter Try.func35, Try.ntmps35
  go_wp2_with (first | ((with_reducible refine at_dst (N := 1) rfl ?_); refine wpList_box hst 37 (arcC d num ao n cap) rfl ?hr ?_; (case hr => first | (go_simp; done) | (go_simp; rfl)); clear hst; intro g1 w1 hst; obtain ⟨hc1, hf1, hl1⟩ := hst.c0) | (((with_reducible refine at_dst (N := 7) rfl ?_); refine wpList_boxS hst 9 #[] 0 0 rfl ?hr ?_; (case hr => first | (go_simp; done) | (go_simp; rfl)); clear hst; intro g7 w7 hst; obtain ⟨hc7, hf7, hl7⟩ := hst.c0); clear hc7 hf7 hl7 hc1 hf1; obtain ⟨hc1, hf1, hl1⟩ := hst.c1) | ((with_reducible refine at_dst (N := 8) rfl ?_); (refine wpList_load_own hst ⟨g1, (arcC d num ao n cap), 37⟩ (by simp) rfl _ rfl rfl _ rfl Try.underlying37 (by kernel_rfl) ?_))  | (go_at_call 61; refine (K2.out _ (HC.out.below hst.base)).mono ?_; rintro e wI ⟨gI, icap, cI, rfl, hk, r3⟩; rw [HL.out]; replace hst := (hst.call hk).sub (L' := [⟨gI, cI, 9⟩] ++ [⟨g7, #[], 9⟩]) (by simp); have R3 := Lib.hid r3; clear r3 hc1 hf1 hl1 hk))
  go_loopw [3, 5] (fun t3 t5 wr => ∃ (k N : Nat) (R : List BK), t5 = .int .i64 k ∧ k ≤ n + 1 ∧ Hid (N = frT (L.take k)) ∧ N ≤ 19 * k ∧ Hid (RowIs 9 1 t3 N ((frA 0 (L.take k)).map Value.string) R) ∧ St w wr ([⟨gI, cI, 9⟩] ++ R)) (fun _ t5 _ => n + 1 - (intOf t5).toNat)
  case atStart => exact ⟨0, 0, [⟨g7, #[], 9⟩], rfl, Nat.zero_le _, rfl, Nat.le_refl _, ⟨rfl, Or.inr ⟨g7, 0, #[], rfl, rfl, Nat.le_refl _, by unfold maxLen; omega, rfl, rfl⟩⟩, hst⟩
  case round =>
    clear hst
    obtain ⟨k, N, R, rfl, hk, HNN, hN, HR, hst⟩ := hrel
    by_cases hlt : k < n + 1
    · have hkl : k < L.length := by rw [HL.out]; exact hlt
      obtain ⟨s, hs⟩ : ∃ s, s = L[k] := ⟨_, rfl⟩
      have hss : s.size ≤ 1052 := by rw [hs]; exact SZ.out _ (List.getElem_mem _)
      have hcI : cI[k]? = some (.string s) := by rw [hs]; exact R3.out k hkl
      have mk : ∀ (w' : World) (L1 L2 : List BK), St w w' (L1 ++ ⟨gI, cI, 9⟩ :: L2) → w'.cell? ⟨gI, k, none⟩ = some (.string s) := fun w' L1 L2 h => (h.cM.1 k).trans hcI
      have MK := Lib.hid mk
      have HS := Lib.hid hs
      clear hs hcI mk
      have c0 := MK.out _ [] _ hst
      have hltd : decide ((k : Int) < (n : Int) + 1) = true := decide_eq_true (by omega)
      go_wp2
      clear c0
      go_loopw [3, 6] (fun t3 t6 wv => ∃ (m i M : Nat) (R2 : List BK), t6 = .int .i64 (i : Nat) ∧ Hid (i = 56 * m) ∧ i ≤ s.size + 55 ∧ Hid (M = N + m) ∧ M ≤ 20000 + i ∧ Hid (m ≤ chN s) ∧ Hid (RowIs 9 1 t3 M ((frA 0 (L.take k) ++ frI N s m).map Value.string) R2) ∧ St w wv ([⟨gI, cI, 9⟩] ++ R2)) (fun _ t6 _ => s.size + 100 - (intOf t6).toNat)
      case atStart => exact ⟨0, 0, N, R, rfl, rfl, by omega, rfl, by omega, Nat.zero_le _, by simpa [frI] using HR, hst⟩
      case round =>
        clear hst HR
        obtain ⟨m, i, M, R2, rfl, HI, hi, HM, hM, HmC, HR2, hst⟩ := hrel
        have c0 := MK.out _ [] _ hst
        by_cases hin : i < s.size
        · obtain ⟨F, hF⟩ : ∃ F, F = frC N s m := ⟨_, rfl⟩
          obtain ⟨E, hE⟩ : ∃ E, E = min s.size (i + 56) := ⟨_, rfl⟩
          have hmin : (if (s.size : Int) < (i : Int) + 56 then (s.size : Int) else (i : Int) + 56) = (E : Int) := by split <;> omega
          have hw56 : IntKind.i64.wrap ((i : Int) + 56) = (i : Int) + 56 := IntWalk.i64_in _ (by omega)
          have x1 : (i : Int) ≤ (E : Int) := by omega
          have x2 : (E : Int) ≤ (s.size : Int) := by omega
          have x3 : (0 : Int) ≤ (E : Int) := by omega
          have f1 := frC_E (s := s) HI.out HM.out hE
          rw [← hF] at f1
          have F1 := Lib.hid f1
          have HF := Lib.hid hF
          clear hF f1 hE
          clear hltd
          have hki : (k : Int) < (n : Int) + 1 := by omega
          have hki2 : (k : Int) < ((n + 1 : Nat) : Int) := by omega
          obtain ⟨ao3, cap3, hv3⟩ := row_slice HR2.out
          subst hv3
          go_wp2_with fail
          go_region_held3 (fun w' => w'.cell? ⟨gI, k, none⟩ = some (.string s))
            (first | exact MK.out _ [] _ hst.drew | exact MK.out _ [] _ hstB | exact MK.out _ [_] _ (hstB.box _ _) | exact MK.out _ [_] _ hst2)
            (first
              | (refine step_at (N := 50) rfl ?_; refine step_run (v := .int .i64 (E : Nat)) (w1 := wv.drew) rfl (by go_simp) ?_)
              | (go_at_call 14; refine (frameR_any _ _ _ _ _ (by rw [ByteArray.size_extract]; omega)).mono ?_; rw [F1.out]; rintro e wB ⟨rfl, hb1⟩; have hstB := hst.drew.below hb1)
              | (refine step_append_row (L := [⟨wB.heap.size, #[.string F], 9⟩, ⟨gI, cI, 9⟩]) (hstB.box _ _) HR2.out (by rfl) (.tmp 25) (.tmp 53) 61 (by rfl) (.string ⟨#[]⟩) 16 (Try.underlying61) (by kernel_rfl) rfl (by decide) (by rfl) ⟨wB.heap.size, 0, none⟩ 1 1 [.string F] (by rfl) rfl (news_own (hstB.box _ _)) (by simp [Value.oneCell']) (by unfold maxLen; omega) (by omega) ?_; intro v' R' w' hst2 HR3))
          all_goals
            clear hmin hw56 x1 x2 x3 c0 hki hki2
            go_wp2
            go_roundw
            case measure => simp [intOf]; omega
            case rel =>
              refine ⟨m + 1, i + 56, M + 1, R', by go_num, ?_, by omega, ?_, by omega, ?_, ?_, hst2.sub ((List.Sublist.refl _).cons _)⟩
              · show _ = _
                rw [HI.out]; omega
              · show _ = _
                rw [HM.out]; omega
              · show _ ≤ _
                have h1 := HI.out
                have h2 := (chN_lt (s := s) (m := m)).2 (by omega)
                omega
              · show RowIs _ _ _ _ _ _
                rw [frI_succ, ← List.append_assoc, List.map_append, ← HF.out]
                exact HR3
        · have hm : m = chN s := by
            have h1 := HI.out
            have h2 := HmC.out
            have h3 : ¬ m < chN s := fun h => hin (by rw [h1]; exact chN_lt.1 h)
            omega
          go_wp2
          go_roundw
          case measure => simp [intOf]; omega
          case rel =>
            have ht : L.take (k + 1) = L.take k ++ [s] := by rw [List.take_succ_eq_append_getElem hkl, ← HS.out]
            have hMM : M = frT (L.take (k + 1)) := by rw [ht, frT_snoc, ← HNN.out, HM.out, hm]
            refine ⟨k + 1, M, R2, by go_num, by omega, hMM, by rw [hMM]; exact frT_take_le L (k + 1) SZ.out, ?_, hst⟩
            show RowIs _ _ _ _ _ _
            rw [ht, frA_snoc, Nat.zero_add, ← HNN.out, ← hm]
            exact HR2.out
    · have hkn : k = n + 1 := by omega
      have hr := HR.out
      have hN2 := HNN.out
      rw [List.take_of_length_le (by rw [HL.out]; omega)] at hr hN2
      subst hN2
      have HR3 := Lib.hid hr
      clear hr HR
      go_wp2
      go_ret
      exact ⟨_, R, rfl, hst.sub (List.sublist_append_right _ _), HR3.out⟩

set_option maxHeartbeats 2000000 in
set_option maxRecDepth 100000 in
theorem encodeR_any (d : DS) (num : Int) (l : List Pr) (ao : Option Addr) (cap : Nat) (w : World) (hp : Pr14 d l) (hc : Prs w ao l) :
    Calls Try.prog 19 #[.agg (arcC d num ao l.length cap)] w fun e w' => e = .returned (.tuple #[.string (encB d num l), .int .i64 (encErr d num l)]) ∧ Below w.heap.size w w' := by
  obtain ⟨p1, p2, p3, p4⟩ := hp
  have hst := St.start w
  have k1 := fun w (h : Prs w ao l) => validR14_any d num l ao cap w p1 h p2 p3 p4
  have k2 := fun w (ho : arcOk d num l = true) (h : Prs w ao l) => framesR_any d num l ao cap w ho h
  have fz : arcOk d num l = true → frT (itemsL d num l) ≤ 20000 := fun ho => by
    have h1 := frT_take_le (itemsL d num l) (itemsL d num l).length (items_sizes ho)
    have h2 := (arcOk_facts ho).2.2.2.1
    rw [List.take_length] at h1
    have h3 : (itemsL d num l).length = l.length + 1 := by simp [itemsL]
    omega
  obtain ⟨n, hn⟩ : ∃ n, n = l.length := ⟨_, rfl⟩
  obtain ⟨L, hL⟩ : ∃ L, L = itemsL d num l := ⟨_, rfl⟩
  rw [← hn] at k1 k2 ⊢
  rw [← hL] at k2 fz
  have HC := Lib.hid hc
  cases hV : arcOk d num l with
  | false =>
    have e1 : encB d num l = ⟨#[]⟩ := by simp [encB, hV]
    have e2 : encErr d num l = 1 := by simp [encErr, hV]
    rw [e1, e2]
    rw [hV] at k1
    have K1 := Lib.hid k1
    clear k1 k2 fz hc hn e1 e2 hV hL
    go_enter Try.func19, Try.ntmps19
    go_wp2_with (first | ((with_reducible refine at_dst (N := 1) rfl ?_); refine wpList_box hst 37 (arcC d num ao n cap) rfl ?hr ?_; (case hr => first | (go_simp; done) | (go_simp; rfl)); clear hst; intro g1 w1 hst; obtain ⟨hc1, hf1, hl1⟩ := hst.c0) | ((with_reducible refine at_dst (N := 7) rfl ?_); (refine wpList_load_own hst ⟨g1, (arcC d num ao n cap), 37⟩ (by simp) rfl _ rfl rfl _ rfl Try.underlying37 (by kernel_rfl) ?_))  | (go_at_call 21; refine (K1.out _ (HC.out.below hst.base)).mono ?_; rintro e w' ⟨rfl, hb⟩; replace hst := hst.below hb; clear hb; clear hc1 hf1; obtain ⟨hc1, hf1, hl1⟩ := hst.c0))
    go_ret2
    exact ⟨rfl, hst.base⟩
  | true =>
    have e1 : encB d num l = bs (catB (frA 0 L)) := by simp [encB, hV, hL]
    have e2 : encErr d num l = 0 := by simp [encErr, hV]
    rw [e1, e2]
    rw [hV] at k1
    have k2 := fun w => k2 w hV
    have fz := fz hV
    obtain ⟨F, hF⟩ : ∃ F, F = frA 0 L := ⟨_, rfl⟩
    obtain ⟨T, hT⟩ : ∃ T, T = frT L := ⟨_, rfl⟩
    rw [← hT] at fz
    rw [← hF]
    have K1 := Lib.hid k1
    have K2 := Lib.hid k2
    have FZ : Hid (∀ s ∈ F, s.size ≤ 64) := by rw [hF]; exact frA_le L 0
    have HF := Lib.hid hF
    have HT := Lib.hid hT
    clear k1 k2 hc hn e1 e2 hV hL hF hT
    go_enter Try.func19, Try.ntmps19
    go_wp2_with (first | ((with_reducible refine at_dst (N := 1) rfl ?_); refine wpList_box hst 37 (arcC d num ao n cap) rfl ?hr ?_; (case hr => first | (go_simp; done) | (go_simp; rfl)); clear hst; intro g1 w1 hst; obtain ⟨hc1, hf1, hl1⟩ := hst.c0) | ((with_reducible refine at_dst (N := 7) rfl ?_); (refine wpList_load_own hst ⟨g1, (arcC d num ao n cap), 37⟩ (by simp) rfl _ rfl rfl _ rfl Try.underlying37 (by kernel_rfl) ?_)) | ((with_reducible refine at_dst (N := 10) rfl ?_); (refine wpList_load_own hst ⟨g1, (arcC d num ao n cap), 37⟩ (by simp) rfl _ rfl rfl _ rfl Try.underlying37 (by kernel_rfl) ?_))  | (go_at_call 21; refine (K1.out _ (HC.out.below hst.base)).mono ?_; rintro e w' ⟨rfl, hb⟩; replace hst := hst.below hb; clear hb; clear hc1 hf1; obtain ⟨hc1, hf1, hl1⟩ := hst.c0)  | (go_at_call 35; refine (K2.out _ (HC.out.below hst.base)).mono ?_; rintro e wI ⟨v, RF, rfl, hk, hr⟩; rw [← HF.out, ← HT.out] at hr; have hb0 := below_next hst.base hk.base; obtain ⟨aoF, capF, hvF⟩ := row_slice hr; subst hvF; have HRF := Lib.hid hr; have HKF := Lib.hid hk; clear hr hk hst hc1 hf1 hl1; have hst := St.start wI)  | (((with_reducible refine at_dst (N := 12) rfl ?_); refine wpList_boxS hst 5 #[] 0 0 rfl ?hr ?_; (case hr => first | (go_simp; done) | (go_simp; rfl)); clear hst; intro g5 w5 hst; obtain ⟨hc5, hf5, hl5⟩ := hst.c0); clear hc5 hf5 hl5))
    replace HRF := Lib.hid (HRF.out)
    have hFl : F.length = T := by have := HRF.out.1; simpa using this
    have fcell : ∀ (w' : World), Below wI.heap.size wI w' → ∀ j (h : j < F.length), ∃ g, aoF = some ⟨g, 0, none⟩ ∧ w'.cell? ⟨g, j, none⟩ = some (.string F[j]) := by
      intro w' hb j hj
      rcases HRF.out.2 with ⟨q1, q2, _⟩ | ⟨g, cap, cs, hR, q1, q2, q3, q4, q5⟩
      · omega
      · subst hR
        injection q1 with q1 _ _
        refine ⟨g, q1, ?_⟩
        obtain ⟨a1, a2, a3⟩ := HKF.out.at_ ⟨g, cs, 9⟩ (by simp)
        rw [(hb.cell (p := ⟨g, j, none⟩) a2), (St.cM (L1 := []) (L2 := []) HKF.out).1 j]
        have e : cs[j]? = (F.map Value.string)[j]? := by
          rw [← q5, Nat.mul_one, List.getElem?_take_of_lt (by omega)]
          simp
        simp [e, hj]
    have FC := Lib.hid fcell
    clear fcell HRF HKF
    go_loopw [5, 6] (fun t5 t6 wr => ∃ (k len : Nat) (R : List BK), t6 = .int .i64 k ∧ k ≤ T ∧ Hid (RowIs 5 1 t5 len ((catB (F.take k)).map byV) R) ∧ len ≤ 64 * k ∧ St wI wr R) (fun _ t6 _ => T - (intOf t6).toNat)
    case atStart => exact ⟨0, 0, [⟨g5, #[], 5⟩], rfl, Nat.zero_le _, ⟨rfl, Or.inr ⟨g5, 0, #[], rfl, rfl, Nat.le_refl _, by unfold maxLen; omega, rfl, rfl⟩⟩, Nat.le_refl _, hst⟩
    case round =>
      clear hst
      obtain ⟨k, len, R, rfl, hk, HR, hlen, hst⟩ := hrel
      by_cases hlt : k < T
      · have hkF : k < F.length := by omega
        obtain ⟨s, hs⟩ : ∃ s, s = F[k] := ⟨_, rfl⟩
        obtain ⟨g, hao, c0⟩ := FC.out wr hst.base k hkF
        rw [← hs] at c0
        subst hao
        have hsz : s.size ≤ 64 := by rw [hs]; exact FZ.out _ (List.getElem_mem _)
        have HS := Lib.hid hs
        clear hs
        go_wp2_with (first | ((with_reducible refine at_dst (N := 24) rfl ?_); refine wpList_append_str hst HR.out rfl (.tmp 19) (.tmp 23) 57 9 rfl (Try.underlying57) (Try.underlying9) (by kernel_rfl) rfl s rfl (by omega) ?_; clear hst c0; intro v' R' w' hst HR3))
        go_roundw
        case measure => simp [intOf]; omega
        case rel =>
          refine ⟨k + 1, len + s.size, R', by go_num, by omega, ?_, by omega, hst⟩
          show RowIs _ _ _ _ _ _
          rw [List.take_succ_eq_append_getElem hkF, catB_append, ← HS.out, catB_one]
          exact HR3
      · have hkn : k = T := by omega
        have hr := HR.out
        rw [List.take_of_length_le (by omega)] at hr
        have hcv := conv_rowIs (P := Try.prog) (L := []) (src := 57) (dst := 9) hr hst (Try.underlying57) (Try.underlying5) (Try.underlying9)
        have HCV := Lib.hid hcv
        clear hr hcv HR
        go_wp2_with (first | ((with_reducible refine at_dst (N := 26) rfl ?_); refine wpList_run (v := .string (bs (catB F))) rfl (exec_convert rfl rfl HCV.out) ?_))
        go_ret2
        exact ⟨rfl, below_next hb0 hst.base⟩

set_option maxHeartbeats 2000000 in
theorem sizeR_any (d : DS) (num : Int) (l : List Pr) (ao : Option Addr) (cap : Nat) (w : World) (hp : Pr14 d l) (hc : Prs w ao l) (hz : (encB d num l).size ≤ 1000000000) :
    Calls Try.prog 25 #[.agg (arcC d num ao l.length cap)] w fun e w' => e = .returned (.int .i64 ((encB d num l).size : Nat)) ∧ Below w.heap.size w w' := by
  have hst := St.start w
  have K1 := Lib.hid (fun w h => encodeR_any d num l ao cap w hp h)
  have HC := Lib.hid hc
  obtain ⟨n, hn⟩ : ∃ n, n = l.length := ⟨_, rfl⟩
  obtain ⟨E, hE⟩ : ∃ E, E = encB d num l := ⟨_, rfl⟩
  rw [← hn, ← hE] at K1
  rw [← hn, ← hE]
  rw [← hE] at hz
  clear hc hp hn hE
  go_enter Try.func25, Try.ntmps25
  go_wp2_with (first | ((with_reducible refine at_dst (N := 1) rfl ?_); refine wpList_box hst 37 (arcC d num ao n cap) rfl ?hr ?_; (case hr => first | (go_simp; done) | (go_simp; rfl)); clear hst; intro g1 w1 hst; obtain ⟨hc1, hf1, hl1⟩ := hst.c0) | ((with_reducible refine at_dst (N := 6) rfl ?_); (refine wpList_load_own hst ⟨g1, (arcC d num ao n cap), 37⟩ (by simp) rfl _ rfl rfl _ rfl Try.underlying37 (by kernel_rfl) ?_))  | (go_at_call 19; refine (K1.out _ (HC.out.below hst.base)).mono ?_; rintro e w' ⟨rfl, hb⟩; replace hst := hst.below hb; clear hb; clear hc1 hf1; obtain ⟨hc1, hf1, hl1⟩ := hst.c0))
  go_ret
  exact ⟨rfl, hst.base⟩
end Go.Proofs.Ytklpamhhbigjfaa
