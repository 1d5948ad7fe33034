/- Chapter 14: Encode, Size. -/
import Derived.Test.YtklpamhhbigjfaaEnc14
import Derived.Test.YtklpamhhbigjfaaValid14
namespace Go.Proofs.Ytklpamhhbigjfaa
open Go.RowKit
set_option linter.unusedSimpArgs false
set_option linter.unusedVariables false

def Pr14 (d : DS) (l : List Pr) : Prop := l.length ≤ 140737488355328 ∧ (∀ c ∈ l, c.Sz) ∧ d.own.size ≤ 140737488355328 ∧ d.vol.size ≤ 140737488355328
theorem chN_lt {s : ByteArray} {m : Nat} : m < chN s ↔ 56 * m < s.size := by unfold chN; omega

theorem frC_if {s : ByteArray} {i m M N : Nat} (hi : i = 56 * m) (hM : M = N + m) : frS (M : Int) ((i : Int) == 0) (decide ((s.size : Int) ≤ (i : Int) + 56)) (s.extract i (if (i : Int) + 56 < (s.size : Int) then (i : Int) + 56 else (s.size : Int)).toNat) = frC N s m := by
  have e0 : (if (i : Int) + 56 < (s.size : Int) then (i : Int) + 56 else (s.size : Int)).toNat = min s.size (56 * m + 56) := by split <;> omega
  have e1 : ((i : Int) == 0) = decide (m = 0) := by rw [Bool.eq_iff_iff]; simp; omega
  have e2 : decide ((s.size : Int) ≤ (i : Int) + 56) = decide (s.size ≤ 56 * m + 56) := by rw [Bool.eq_iff_iff]; simp; omega
  rw [e0, e1, e2, frC, chS, hM, hi]

set_option maxHeartbeats 2000000 in
set_option maxRecDepth 100000 in
theorem encode_any (d : DS) (num : Int) (l : List Pr) (ao : Option Addr) (cap : Nat) (w : World) (hp : Pr14 d l) (hc : Prs w ao l) :
    Calls Try.prog 18 #[.agg (arcC d num ao l.length cap)] w fun e w' => e = .returned (.tuple #[.string (encB d num l), .int .i64 (encErr d num l)]) ∧ Below w.heap.size w w' := by
  obtain ⟨p1, p2, p3, p4⟩ := hp
  have hst := St.start w
  have k1 := fun w (h : Prs w ao l) => valid14_any d num l ao cap w p1 h p2 p3 p4
  have k2 := fun w (ho : arcOk d num l = true) (h : Prs w ao l) => items_any d num l ao cap w ho h
  have sz := fun (ho : arcOk d num l = true) => items_sizes ho
  have nn := fun (ho : arcOk d num l = true) => (arcOk_facts ho).2.2.2.1
  obtain ⟨n, hn⟩ : ∃ n, n = l.length := ⟨_, rfl⟩
  obtain ⟨L, hL⟩ : ∃ L, L = itemsL d num l := ⟨_, rfl⟩
  have hLn : L.length = n + 1 := by rw [hL, hn]; simp [itemsL]
  rw [← hn] at k1 k2 nn ⊢
  rw [← hL] at k2 sz
  have HC := Lib.hid hc
  cases hV : arcOk d num l with
  | false =>
    have e1 : encB d num l = ⟨#[]⟩ := by simp [encB, hV]
    have e2 : encErr d num l = 1 := by simp [encErr, hV]
    rw [e1, e2]
    rw [hV] at k1
    have K1 := Lib.hid k1
    clear k1 k2 sz nn hc hn e1 e2 hV hL hLn
    go_enter Try.func18, Try.ntmps18
    go_wp2_with (first | ((with_reducible refine at_dst (N := 1) rfl ?_); refine wpList_box hst 37 (arcC d num ao n cap) rfl ?hr ?_; (case hr => first | (go_simp; done) | (go_simp; rfl)); clear hst; intro g1 w1 hst; obtain ⟨hc1, hf1, hl1⟩ := hst.c0) | ((with_reducible refine at_dst (N := 9) rfl ?_); (refine wpList_load_own hst ⟨g1, (arcC d num ao n cap), 37⟩ (by simp) rfl _ rfl rfl _ rfl Try.underlying37 (by kernel_rfl) ?_))  | (go_at_call 20; refine (K1.out _ (HC.out.below hst.base)).mono ?_; rintro e w' ⟨rfl, hb⟩; replace hst := hst.below hb; clear hb; clear hc1 hf1; obtain ⟨hc1, hf1, hl1⟩ := hst.c0))
    go_ret2
    exact ⟨rfl, hst.base⟩
  | true =>
    have e1 : encB d num l = bs (catB (frA 0 L)) := by simp [encB, hV, hL]
    have e2 : encErr d num l = 0 := by simp [encErr, hV]
    rw [e1, e2]
    rw [hV] at k1
    have sz := sz hV
    have nn := nn hV
    have k2 := fun w => k2 w hV
    have K1 := Lib.hid k1
    have K2 := Lib.hid k2
    have SZ := Lib.hid sz
    have HL := Lib.hid hLn
    clear k1 k2 sz hc hn e1 e2 hV hL hLn
    go_enter Try.func18, Try.ntmps18
    go_wp2_with (first | ((with_reducible refine at_dst (N := 1) rfl ?_); refine wpList_box hst 37 (arcC d num ao n cap) rfl ?hr ?_; (case hr => first | (go_simp; done) | (go_simp; rfl)); clear hst; intro g1 w1 hst; obtain ⟨hc1, hf1, hl1⟩ := hst.c0) | ((with_reducible refine at_dst (N := 9) rfl ?_); (refine wpList_load_own hst ⟨g1, (arcC d num ao n cap), 37⟩ (by simp) rfl _ rfl rfl _ rfl Try.underlying37 (by kernel_rfl) ?_)) | ((with_reducible refine at_dst (N := 12) rfl ?_); (refine wpList_load_own hst ⟨g1, (arcC d num ao n cap), 37⟩ (by simp) rfl _ rfl rfl _ rfl Try.underlying37 (by kernel_rfl) ?_))  | (go_at_call 20; refine (K1.out _ (HC.out.below hst.base)).mono ?_; rintro e w' ⟨rfl, hb⟩; replace hst := hst.below hb; clear hb; clear hc1 hf1; obtain ⟨hc1, hf1, hl1⟩ := hst.c0)  | (go_at_call 34; refine (K2.out _ (HC.out.below hst.base)).mono ?_; rintro e wI ⟨gI, icap, rfl, hb, r1, r2, r3⟩; rw [HL.out]; have hb0 := below_next hst.base hb; have R3 := Lib.hid r3; clear r3 hst hc1 hf1 hl1 hb r1; have hst := St.start wI))
    go_loopw [4, 5, 15] (fun t4 t5 t15 wr => ∃ (k N len : Nat) (R : List BK), t15 = .int .i64 k ∧ k ≤ n + 1 ∧ t5 = .int .i64 (N : Nat) ∧ Hid (N = frT (L.take k)) ∧ N ≤ 19 * k ∧ Hid (RowIs 5 1 t4 len ((catB (frA 0 (L.take k))).map byV) R) ∧ len ≤ 64 * N ∧ St wI wr R) (fun _ _ t15 _ => n + 1 - (intOf t15).toNat)
    case atStart => exact ⟨0, 0, 0, [], rfl, Nat.zero_le _, rfl, rfl, Nat.le_refl _, RowIs.nil _ _, Nat.le_refl _, hst⟩
    case round =>
      clear hst
      obtain ⟨k, N, len, R, rfl, hk, rfl, HNN, hN, HR, hlen, hst⟩ := hrel
      by_cases hlt : k < n + 1
      · have hkl : k < L.length := by rw [HL.out]; exact hlt
        obtain ⟨s, hs⟩ : ∃ s, s = L[k] := ⟨_, rfl⟩
        have hss : s.size ≤ 1052 := by rw [hs]; exact SZ.out _ (List.getElem_mem _)
        have c0 : wr.cell? ⟨gI, k, none⟩ = some (.string s) := by rw [hs]; exact (hst.base.cell (p := ⟨gI, k, none⟩) r2).trans (R3.out k hkl)
        have HS := Lib.hid hs
        clear hs
        go_wp2
        clear c0
        go_loopw [4, 5, 8] (fun t4 t5 t8 wv => ∃ (m i M len2 : Nat) (R2 : List BK), t8 = .int .i64 (i : Nat) ∧ Hid (i = 56 * m) ∧ i ≤ s.size + 55 ∧ t5 = .int .i64 (M : Nat) ∧ Hid (M = N + m) ∧ M ≤ 20000 + i ∧ Hid (m ≤ chN s) ∧ Hid (RowIs 5 1 t4 len2 ((catB (frA 0 (L.take k)) ++ catB (frI N s m)).map byV) R2) ∧ len2 ≤ 64 * M ∧ St wI wv R2) (fun _ _ t8 _ => s.size + 100 - (intOf t8).toNat)
        case atStart => exact ⟨0, 0, N, len, R, rfl, rfl, by omega, rfl, rfl, by omega, Nat.zero_le _, by simpa [frI, catB] using HR, hlen, hst⟩
        case round =>
          clear hst hlen HR
          obtain ⟨m, i, M, len2, R2, rfl, HI, hi, rfl, HM, hM, HmC, HR2, hlen2, hst⟩ := hrel
          by_cases hin : i < s.size
          · obtain ⟨F, hF⟩ : ∃ F, F = frC N s m := ⟨_, rfl⟩
            have hFz : F.size ≤ 64 := by rw [hF]; exact frS_le _ _ _ _
            have f1 := frC_if (s := s) HI.out HM.out
            rw [← hF] at f1
            have F1 := Lib.hid f1
            have HF := Lib.hid hF
            clear hF f1
            go_wp2_with (first | (go_at_call 13; refine (frame_any _ _ _ _ _ (by rw [ByteArray.size_extract]; omega)).mono ?_; rw [F1.out]; rintro e w' ⟨rfl, hb⟩; replace hst := hst.below hb; clear hb)  | ((with_reducible refine at_dst (N := 43) rfl ?_); refine wpList_append_str hst HR2.out rfl (.tmp 25) (.tmp 42) 57 9 rfl (Try.underlying57) (Try.underlying9) (by kernel_rfl) rfl F rfl (by omega) ?_; clear hst; intro v' R' w' hst HR3))
            all_goals
              go_roundw
              case measure => simp [intOf]; omega
              case rel =>
                refine ⟨v', .int .i64 ((M + 1 : Nat) : Int), .int .i64 ((i + 56 : Nat) : Int), ⟨m + 1, i + 56, rfl, ?_, by omega, M + 1, rfl, ?_, by omega, ?_, len2 + F.size, R', ?_, by omega, hst⟩, rfl, by go_num, by go_num⟩
                · show _ = _
                  rw [HI.out]; omega
                · show _ = _
                  rw [HM.out]; omega
                · show _ ≤ _
                  have h1 := HI.out
                  have h2 := (chN_lt (s := s) (m := m)).2 (by omega)
                  omega
                · show RowIs _ _ _ _ _ _
                  rw [frI_succ, catB_append, catB_one, ← HF.out, ← List.map_append, ← List.append_assoc]
                  exact HR3
          · have hm : m = chN s := by
              have h1 := HI.out
              have h2 := HmC.out
              have h3 : ¬ m < chN s := fun h => hin (by rw [h1]; exact chN_lt.1 h)
              omega
            go_wp2
            go_roundw
            case measure => simp [intOf]; omega
            case rel =>
              have ht : L.take (k + 1) = L.take k ++ [s] := by rw [List.take_succ_eq_append_getElem hkl, ← HS.out]
              have hMM : M = frT (L.take (k + 1)) := by rw [ht, frT_snoc, ← HNN.out, HM.out, hm]
              refine ⟨k + 1, M, len2, R2, by go_num, by omega, rfl, hMM, by rw [hMM]; exact frT_take_le L (k + 1) SZ.out, ?_, hlen2, hst⟩
              show RowIs _ _ _ _ _ _
              rw [ht, frA_snoc, Nat.zero_add, ← HNN.out, catB_append, ← hm]
              exact HR2.out
      · have hkn : k = n + 1 := by omega
        have hr := HR.out
        rw [List.take_of_length_le (by rw [HL.out]; omega)] at hr
        have hcv := conv_rowIs (P := Try.prog) (L := []) (src := 57) (dst := 9) hr hst (Try.underlying57) (Try.underlying5) (Try.underlying9)
        have HCV := Lib.hid hcv
        clear hr hcv HR
        go_wp2_with (first | ((with_reducible refine at_dst (N := 48) rfl ?_); refine wpList_run (v := .string (bs (catB (frA 0 L)))) rfl (exec_convert rfl rfl HCV.out) ?_))
        go_ret2
        exact ⟨rfl, below_next hb0 hst.base⟩

theorem size_any (d : DS) (num : Int) (l : List Pr) (ao : Option Addr) (cap : Nat) (w : World) (hp : Pr14 d l) (hc : Prs w ao l) (hz : (encB d num l).size ≤ 1000000000) :
    Calls Try.prog 24 #[.agg (arcC d num ao l.length cap)] w fun e w' => e = .returned (.int .i64 ((encB d num l).size : Nat)) ∧ Below w.heap.size w w' := by
  have hst := St.start w
  have K1 := Lib.hid (fun w h => encode_any d num l ao cap w hp h)
  have HC := Lib.hid hc
  obtain ⟨n, hn⟩ : ∃ n, n = l.length := ⟨_, rfl⟩
  obtain ⟨E, hE⟩ : ∃ E, E = encB d num l := ⟨_, rfl⟩
  rw [← hn, ← hE] at K1
  rw [← hn, ← hE]
  rw [← hE] at hz
  clear hc hp hn hE
  go_enter Try.func24, Try.ntmps24
  go_wp2_with (first | ((with_reducible refine at_dst (N := 1) rfl ?_); refine wpList_box hst 37 (arcC d num ao n cap) rfl ?hr ?_; (case hr => first | (go_simp; done) | (go_simp; rfl)); clear hst; intro g1 w1 hst; obtain ⟨hc1, hf1, hl1⟩ := hst.c0) | ((with_reducible refine at_dst (N := 6) rfl ?_); (refine wpList_load_own hst ⟨g1, (arcC d num ao n cap), 37⟩ (by simp) rfl _ rfl rfl _ rfl Try.underlying37 (by kernel_rfl) ?_))  | (go_at_call 18; refine (K1.out _ (HC.out.below hst.base)).mono ?_; rintro e w' ⟨rfl, hb⟩; replace hst := hst.below hb; clear hb; clear hc1 hf1; obtain ⟨hc1, hf1, hl1⟩ := hst.c0))
  go_ret
  exact ⟨rfl, hst.base⟩
end Go.Proofs.Ytklpamhhbigjfaa
