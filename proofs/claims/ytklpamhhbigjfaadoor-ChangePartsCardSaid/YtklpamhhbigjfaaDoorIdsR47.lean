/- The reference of chapter 47: Ids. -/
import Derived.Test.YtklpamhhbigjfaaDoorMapK47
namespace Go.Proofs.YtklpamhhbigjfaaDoor
open Go.RowKit
set_option linter.unusedSimpArgs false
set_option linter.unusedVariables false

set_option maxHeartbeats 2000000 in
set_option maxRecDepth 100000 in
theorem idsR_any (num unit : Int) (l : List Chg) (ao : Option Addr) (cap : Nat) (w : World) (hl : l.length ≤ 1000) (hc : Chgs w ao l) :
    Calls Tryd.prog 29 #[.agg (recC num unit ao l.length cap)] w (OwnInts (idsS l) w) := by
  have hst := St.start w
  obtain ⟨n, hn⟩ : ∃ n, n = l.length := ⟨_, rfl⟩
  rw [← hn] at hl ⊢
  have HC := Lib.hid hc
  have HN := Lib.hid hn
  clear hc hn
  go_enter Tryd.func29, Tryd.ntmps29
  go_wp2_with (first | ((with_reducible refine at_dst (N := 1) rfl ?_); refine wpList_box hst 29 (recC num unit ao n cap) rfl ?hr ?_; (case hr => first | (go_simp; done) | (go_simp; rfl)); clear hst; intro g1 w1 hst; obtain ⟨hc1, hf1, hl1⟩ := hst.c0) | (((with_reducible refine at_dst (N := 5) rfl ?_); refine wpList_boxS hst 3 #[] 0 0 rfl ?hr ?_; (case hr => first | (go_simp; done) | (go_simp; rfl)); clear hst; intro g5 w5 hst; obtain ⟨hc5, hf5, hl5⟩ := hst.c0); clear hc5 hf5 hl5 hc1 hf1 hl1))
  replace hst := hst.perm (List.Perm.swap _ _ _)
  go_loopw [3, 4] (fun t3 t4 wr => ∃ (k : Nat) (R : List BK), t4 = .int .i64 k ∧ k ≤ n ∧ Hid (RowIs 3 1 t3 k (((l.take k).map Chg.id).map iV) R) ∧ St w wr (⟨g1, recC num unit ao n cap, 29⟩ :: R)) (fun _ t4 _ => n - (intOf t4).toNat)
  case atStart => exact ⟨0, [⟨g5, #[], 3⟩], rfl, Nat.zero_le _, ⟨rfl, Or.inr ⟨g5, 0, #[], rfl, rfl, Nat.le_refl _, by unfold maxLen; omega, rfl, rfl⟩⟩, hst⟩
  case round =>
    clear hst
    obtain ⟨k, R, rfl, hk, HR, hst⟩ := hrel
    obtain ⟨hc1, hf1, hl1⟩ := hst.c0
    by_cases hlt : k < n
    · have hkl : k < l.length := by rw [← HN.out]; exact hlt
      obtain ⟨c, hcc⟩ : ∃ c, c = l[k] := ⟨_, rfl⟩
      obtain ⟨b, off, rfl, hb, hat⟩ : ∃ b off, ao = some ⟨b, off, none⟩ ∧ b < w.heap.size ∧ ChgsAt w b off l := by
        rcases HC.out with h | h
        · rw [h] at hkl; simp at hkl
        · exact h
      obtain ⟨c0, c1, c2, c3, c4⟩ := (hat.below hb hst.base).get hkl hcc
      have HCC := Lib.hid hcc
      clear hcc hat
      go_wp2_with (first | (((with_reducible refine at_dst (N := 20) rfl ?_); refine wpList_boxS hst 3 #[.int .i64 c.id] 1 1 rfl ?hr ?_; (case hr => first | (go_simp; done) | (go_simp; rfl)); clear hst; intro g6 w6 hst; obtain ⟨hc6, hf6, hl6⟩ := hst.c0); clear hc1 hf1 hl1)  | ((with_reducible refine at_dst (N := 21) rfl ?_); refine wpList_append_row (L := [⟨g6, #[.int .i64 c.id], 3⟩, ⟨g1, recC num unit (some ⟨b, off, none⟩) n cap, 29⟩]) hst HR.out rfl (.tmp 13) (.tmp 20) 48 rfl (.int .i64 0) 8 (Tryd.underlying48) (by kernel_rfl) rfl (by decide) rfl ⟨g6, 0, none⟩ 1 1 [.int .i64 c.id] rfl rfl (news_own hst) (by simp [Value.oneCell']) (by unfold maxLen; omega) (by omega) ?_; clear hst hc6 hf6 hl6 c0 c1 c2 c3 c4; intro v' R' w' hst HR3))
      go_roundw
      case measure => simp [intOf]; omega
      case rel =>
        refine ⟨k + 1, R', by go_num, by omega, ?_, hst.sub ((List.Sublist.refl _).cons _)⟩
        show RowIs _ _ _ _ _ _
        have e : ((l.take (k + 1)).map Chg.id).map iV = ((l.take k).map Chg.id).map iV ++ [.int .i64 c.id] := by
          rw [List.take_succ_eq_append_getElem hkl, ← HCC.out]
          simp
        rw [e]
        exact HR3
    · have hkn : k = n := by omega
      subst hkn
      have hr := HR.out
      obtain ⟨zs, hzs⟩ : ∃ zs, zs = l.map Chg.id := ⟨_, rfl⟩
      have hzl : k = zs.length := by rw [hzs, List.length_map]; exact HN.out
      rw [List.take_of_length_le (by have := HN.out; omega), ← hzs, hzl] at hr
      have hin := intsIn_row (L := [⟨g1, recC num unit ao k cap, 29⟩]) hst hr
      have k1 := set46_any zs _ wr (by omega) hin
      rw [hzs, ← ids_law] at k1
      have K1 := Lib.hid k1
      have HB := Lib.hid hst.base
      clear hr HR hst k1 hzs hzl hin
      go_wp2_with (first | (go_at_call 52; refine K1.out.mono ?_; rintro e w' ⟨v2, R2, rfl, hst, hr2⟩; have HR2 := Lib.hid hr2; clear hr2))
      go_ret
      exact ⟨_, _, rfl, ⟨below_next HB.out hst.base, fun b hb => by have := hst.at_ b hb; exact ⟨Nat.le_trans HB.out.size this.1, this.2⟩, hst.apart⟩, HR2.out⟩

/-- numbered changes, compared -/
theorem run_neqNum (p : Int × Chg) (w : World) :
    (Go.binOp .neq 56 (.agg #[.int .i64 p.1, .int .i64 p.2.kind, .int .i64 p.2.id, .string p.2.key, .string p.2.rcd, .string p.2.vol]) (.agg #[.int .i64 p.1, .int .i64 p.2.kind, .int .i64 p.2.id, .string p.2.key, .string p.2.rcd, .string p.2.vol])).run Tryd.prog w = .ok (.bool false) w := by
  rw [run_neq_struct]
  go_simp
end Go.Proofs.YtklpamhhbigjfaaDoor
