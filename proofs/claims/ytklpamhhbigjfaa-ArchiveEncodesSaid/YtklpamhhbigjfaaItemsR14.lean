/- The reference of chapter 14: items. -/
import Derived.Test.YtklpamhhbigjfaaFirstR14
namespace Go.Proofs.Ytklpamhhbigjfaa
open Go.RowKit
set_option linter.unusedSimpArgs false
set_option linter.unusedVariables false

theorem row_slice {E : TypeId} {size : Nat} {v : Value} {n : Nat} {xs : List Value} {R : List BK} (h : RowIs E size v n xs R) : ∃ ao cap, v = .slice ao n cap := by
  rcases h.2 with ⟨h1, h2, _⟩ | ⟨g, cap, cs, hR, h1, _⟩
  · subst h2; exact ⟨none, 0, h1⟩
  · exact ⟨_, _, h1⟩

/-- The strings of L in a block of the call's own. -/
def ItemsQ (L : List ByteArray) (w : World) (e : Ending) (w' : World) : Prop := ∃ (g cap : Nat) (cs : Array Value), e = .returned (.slice (some ⟨g, 0, none⟩) L.length cap) ∧ St w w' [⟨g, cs, 9⟩] ∧ ∀ j (h : j < L.length), cs[j]? = some (.string L[j])
set_option maxHeartbeats 2000000 in
set_option maxRecDepth 100000 in
theorem itemsR_any (d : DS) (num : Int) (l : List Pr) (ao : Option Addr) (cap : Nat) (w : World) (hok : arcOk d num l = true) (hc : Prs w ao l) :
    Calls Try.prog 61 #[.agg (arcC d num ao l.length cap)] w (ItemsQ (itemsL d num l) w) := by
  have hst := St.start w
  obtain ⟨h1, h2, h3, h4, h5⟩ := arcOk_facts hok
  obtain ⟨n, hn⟩ : ∃ n, n = l.length := ⟨_, rfl⟩
  have k1 := fun w => firstR_any d num n w h1 h2 h3 (by omega)
  obtain ⟨S7, hS7⟩ : ∃ S, S = firstS d num n := ⟨_, rfl⟩
  obtain ⟨L, hL⟩ : ∃ L, L = itemsL d num l := ⟨_, rfl⟩
  have hLe : L = S7 :: l.map pairS := by rw [hL, itemsL, hS7, hn]
  rw [← hS7] at k1
  rw [← hL, ← hn]
  rw [← hn] at h4
  have K1 := Lib.hid k1
  have HC := Lib.hid hc
  have HS := Lib.hid h5
  have HN := Lib.hid hn
  have HL := Lib.hid hLe
  clear k1 hc hn hL hLe hS7 h1 h5 hok
  go_enter Try.func61, Try.ntmps61
  go_wp2_with (first | ((with_reducible refine at_dst (N := 1) rfl ?_); refine wpList_box hst 37 (arcC d num ao n cap) rfl ?hr ?_; (case hr => first | (go_simp; done) | (go_simp; rfl)); clear hst; intro g1 w1 hst; obtain ⟨hc1, hf1, hl1⟩ := hst.c0) | ((with_reducible refine at_dst (N := 6) rfl ?_); refine wpList_load_set hc1 rfl (.tmp 5) rfl rfl Try.underlying34 rfl (by kernel_rfl) ?_)  | (go_at_call 78; refine (K1.out _).mono ?_; rintro e w' ⟨rfl, hb⟩; replace hst := hst.below hb; clear hb; clear hc1 hf1; obtain ⟨hc1, hf1, hl1⟩ := hst.c0) | (((with_reducible refine at_dst (N := 13) rfl ?_); refine wpList_boxS hst 9 #[.string S7] 1 1 rfl ?hr ?_; (case hr => first | (go_simp; done) | (go_simp; rfl)); clear hst; intro g3 w3 hst; obtain ⟨hc3, hf3, hl3⟩ := hst.c0); clear hc3 hf3 hl3 hc1 hf1 hl1))
  replace hst := hst.perm (List.Perm.swap _ _ _)
  go_loopw [3, 4] (fun t3 t4 wr => ∃ (k : Nat) (R : List BK), t4 = .int .i64 k ∧ k ≤ n ∧ Hid (RowIs 9 1 t3 (k + 1) ((S7 :: (l.take k).map pairS).map Value.string) R) ∧ St w wr (⟨g1, arcC d num ao n cap, 37⟩ :: R)) (fun _ t4 _ => n - (intOf t4).toNat)
  case atStart => exact ⟨0, [⟨g3, #[.string S7], 9⟩], rfl, Nat.zero_le _, ⟨rfl, Or.inr ⟨g3, 1, #[.string S7], rfl, rfl, Nat.le_refl _, by unfold maxLen; omega, rfl, rfl⟩⟩, hst⟩
  case round =>
    clear hst
    obtain ⟨k, R, rfl, hk, HR, hst⟩ := hrel
    obtain ⟨hc1, hf1, hl1⟩ := hst.c0
    by_cases hlt : k < n
    · have hkl : k < l.length := by rw [← HN.out]; exact hlt
      obtain ⟨c, hcc⟩ : ∃ c, c = l[k] := ⟨_, rfl⟩
      obtain ⟨b, off, rfl, hb, hat⟩ : ∃ b off, ao = some ⟨b, off, none⟩ ∧ b < w.heap.size ∧ PrsAt w b off l := by
        rcases HC.out with h | h
        · rw [h] at hkl; simp at hkl
        · exact h
      have mk : ∀ (w' : World) (L1 L2 : List BK), St w w' (L1 ++ ⟨g1, arcC d num (some ⟨b, off, none⟩) n cap, 37⟩ :: L2) → w'.cell? ⟨g1, 22, none⟩ = some (.slice (some ⟨b, off, none⟩) n cap) ∧ w'.cell? ⟨b, off + k * 2, none⟩ = some (.string c.key) ∧ w'.cell? ⟨b, off + k * 2 + 1, none⟩ = some (.string c.rcd) :=
        fun w' L1 L2 h => ⟨h.cM.1 22, (hat.below hb h.base).get hkl hcc⟩
      have hck : c.ok = true := by rw [hcc]; exact HS.out _ (List.getElem_mem _)
      simp only [Pr.ok, decide_eq_true_eq] at hck
      obtain ⟨o1, o2⟩ := hck
      have kk1 := fun w => text01_any c.key w (by omega)
      have kk2 := fun w => text01_any c.rcd w (by omega)
      have z1 := txtS_size (s := c.key) (by omega)
      have z2 := txtS_size (s := c.rcd) (by omega)
      obtain ⟨X1, hX1⟩ : ∃ X1, X1 = txtS c.key := ⟨_, rfl⟩
      obtain ⟨X2, hX2⟩ : ∃ X2, X2 = txtS c.rcd := ⟨_, rfl⟩
      rw [← hX1] at kk1 z1
      rw [← hX2] at kk2 z2
      have hp : pairS c = X1 ++ X2 := by rw [hX2, hX1, pairS]
      have J1 := Lib.hid kk1
      have J2 := Lib.hid kk2
      have HP := Lib.hid hp
      have HCC := Lib.hid hcc
      have MK := Lib.hid mk
      have hsum : ¬ (X1.size + X2.size > 9223372036854775807) := by omega
      clear hcc hat kk1 kk2 hX1 hX2 hp mk
      go_wp2
      clear hc1 hf1 hl1
      go_region_held3 (fun w' => w'.cell? ⟨g1, 22, none⟩ = some (.slice (some ⟨b, off, none⟩) n cap) ∧ w'.cell? ⟨b, off + k * 2, none⟩ = some (.string c.key) ∧ w'.cell? ⟨b, off + k * 2 + 1, none⟩ = some (.string c.rcd))
        (first | exact MK.out _ [] _ hst.drew | exact MK.out _ [] _ hstB | exact MK.out _ [] _ hstC | exact MK.out _ [_] _ (hstC.box _ _) | exact MK.out _ [_] _ hst2)
        (first
          | (go_at_call 79; first
              | (refine (J1.out _).mono ?_; clear J1; rintro e wB ⟨rfl, hb1⟩; have hstB := hst.drew.below hb1)
              | (refine (J2.out _).mono ?_; rintro e wC ⟨rfl, hb2⟩; have hstC := hstB.below hb2))
          | (refine step_append_row (L := [⟨wC.heap.size, #[.string (X1 ++ X2)], 9⟩, ⟨g1, arcC d num (some ⟨b, off, none⟩) n cap, 37⟩]) (hstC.box _ _) HR.out (by rfl) (.tmp 21) (.tmp 37) 61 (by rfl) (.string ⟨#[]⟩) 16 (Try.underlying61) (by kernel_rfl) rfl (by decide) (by rfl) ⟨wC.heap.size, 0, none⟩ 1 1 [.string (X1 ++ X2)] (by rfl) rfl (news_own (hstC.box _ _)) (by simp [Value.oneCell']) (by unfold maxLen; omega) (by omega) ?_; intro v' R' w' hst2 HR2))
      all_goals
        clear hsum
        go_wp2
        go_roundw
        case measure => simp [intOf]; omega
        case rel =>
          refine ⟨k + 1, R', by go_num, by omega, ?_, hst2.sub ((List.Sublist.refl _).cons _)⟩
          show RowIs _ _ _ _ _ _
          have e : (S7 :: (l.take (k + 1)).map pairS).map Value.string = (S7 :: (l.take k).map pairS).map Value.string ++ [Value.string (X1 ++ X2)] := by
            rw [List.take_succ_eq_append_getElem hkl, ← HCC.out]
            simp [HP.out]
          rw [e]
          exact HR2
    · have hkn : k = n := by omega
      subst hkn
      have hr := HR.out
      rw [List.take_of_length_le (by have := HN.out; omega), ← HL.out] at hr
      have hLl : k + 1 = L.length := by rw [HL.out, List.length_cons, List.length_map, ← HN.out]
      rw [hLl] at hr
      obtain ⟨g, cap7, cs, rfl, rfl, r3⟩ := row_cells hr (by omega)
      have R3 := Lib.hid r3
      have hst3 := hst.sub (List.sublist_cons_self _ _)
      clear hr r3 HR hst
      go_wp2
      go_ret
      exact ⟨g, cap7, cs, rfl, hst3, fun j hj => by rw [R3.out j hj]; simp [hj]⟩
end Go.Proofs.Ytklpamhhbigjfaa
