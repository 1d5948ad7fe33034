/- The package change: encode, Encode, ValidRecord. -/
import Derived.Test.YtklpamhhbigjfaaDoorEnc47
import Derived.Test.YtklpamhhbigjfaaDoorWire
namespace Go.Proofs.YtklpamhhbigjfaaDoor
open Go.RowKit
set_option linter.unusedSimpArgs false
set_option linter.unusedVariables false

set_option maxHeartbeats 2000000 in
set_option maxRecDepth 100000 in
theorem encode_any (num unit : Int) (l : List Chg) (ao : Option Addr) (cap : Nat) (w : World) (hso : soundB num unit l = true) (hc : Chgs w ao l) :
    Calls Tryd.prog 47 #[.agg (recC num unit ao l.length cap)] w fun e w' => e = .returned (.string (encR num unit l)) ∧ Below w.heap.size w w' := by
  obtain ⟨⟨r1, r2, r3, r4, r5, r6⟩, hv⟩ := sound_facts hso
  have hst := St.start w
  obtain ⟨n, hn⟩ : ∃ n, n = l.length := ⟨_, rfl⟩
  rw [← hn] at r3 r4 r6 ⊢
  have HC := Lib.hid hc
  have HV := Lib.hid hv
  have HN := Lib.hid hn
  clear hc hv hn hso
  have n1 := numS_size (n := num.toNat) (by omega)
  have n2 := numS_size (n := unit.toNat) (by omega)
  have n3 := numS_size (n := n) (by omega)
  go_enter Tryd.func47, Tryd.ntmps47
  go_wp2_with (first | ((with_reducible refine at_dst (N := 1) rfl ?_); refine wpList_box hst 29 (recC num unit ao n cap) rfl ?hr ?_; (case hr => first | (go_simp; done) | (go_simp; rfl)); clear hst; intro g1 w1 hst; obtain ⟨hc1, hf1, hl1⟩ := hst.c0) | (((with_reducible refine at_dst (N := 17) rfl ?_); refine wpList_boxS hst 3 #[.int .i64 num, .int .i64 unit, .int .i64 n] 3 3 rfl ?hr ?_; (case hr => first | (go_simp; done) | (go_simp; rfl)); clear hst; intro g2 w2 hst; obtain ⟨hc2, hf2, hl2⟩ := hst.c0); clear hc1 hf1 hc2 hf2; obtain ⟨hc2, hf2, hl2⟩ := hst.c0; obtain ⟨hc1, hf1, hl1⟩ := hst.c1))
  refine wp_loop_rounds 4 ?_
  rw [rounds_succ]
  go_wp2_with (first | (go_at_call 64; refine (appendNumber_int _ _ _ (by omega) (by omega) (by first | exact Nat.zero_le _ | (have e0 : (⟨#[]⟩ : ByteArray).size = 0 := rfl; simp only [ByteArray.size_append]; omega) | omega)).mono ?_; rintro e w' ⟨rfl, hb⟩; replace hst := hst.below hb; clear hb; clear hc1 hf1 hc2 hf2; obtain ⟨hc2, hf2, hl2⟩ := hst.c0; obtain ⟨hc1, hf1, hl1⟩ := hst.c1))
  rw [rounds_succ]
  go_wp2_with (first | (go_at_call 64; refine (appendNumber_int _ _ _ (by omega) (by omega) (by first | exact Nat.zero_le _ | (have e0 : (⟨#[]⟩ : ByteArray).size = 0 := rfl; simp only [ByteArray.size_append]; omega) | omega)).mono ?_; rintro e w' ⟨rfl, hb⟩; replace hst := hst.below hb; clear hb; clear hc1 hf1 hc2 hf2; obtain ⟨hc2, hf2, hl2⟩ := hst.c0; obtain ⟨hc1, hf1, hl1⟩ := hst.c1))
  rw [rounds_succ]
  go_wp2_with (first | (go_at_call 64; refine (appendNumber_int _ _ _ (by omega) (by omega) (by first | exact Nat.zero_le _ | (have e0 : (⟨#[]⟩ : ByteArray).size = 0 := rfl; simp only [ByteArray.size_append]; omega) | omega)).mono ?_; rintro e w' ⟨rfl, hb⟩; replace hst := hst.below hb; clear hb; clear hc1 hf1 hc2 hf2; obtain ⟨hc2, hf2, hl2⟩ := hst.c0; obtain ⟨hc1, hf1, hl1⟩ := hst.c1))
  rw [rounds_succ]
  go_wp2
  have hst0 := hst.sub (L' := []) (by simp)
  clear hst hc1 hf1 hl1 hc2 hf2 hl2
  obtain ⟨s0, hs0⟩ : ∃ s0, s0 = (⟨#[]⟩ : ByteArray) ++ numS num.toNat ++ numS unit.toNat ++ numS n := ⟨_, rfl⟩
  have hs0s : s0.size ≤ 30 := by
    have e0 : (⟨#[]⟩ : ByteArray).size = 0 := rfl
    rw [hs0]; simp only [ByteArray.size_append]; omega
  rw [← hs0]
  have HS0 := Lib.hid hs0
  clear hs0 n1 n2 n3
  go_loopw [3, 31] (fun t3 t31 wr => ∃ (k : Nat) (s : ByteArray), t3 = .string s ∧ t31 = .int .i64 k ∧ k ≤ n ∧ Hid (s = encL s0 (l.take k)) ∧ s.size ≤ 30 + 2000 * k ∧ St w wr []) (fun _ t31 _ => n - (intOf t31).toNat)
  case atStart => exact ⟨0, s0, rfl, rfl, Nat.zero_le _, (encL_nil s0 l).symm, by omega, hst0⟩
  case round =>
    clear hst0
    obtain ⟨k, s, rfl, rfl, hk, hs, hss, hst⟩ := hrel
    by_cases hlt : k < n
    · have hkl : k < l.length := by rw [← HN.out]; exact hlt
      obtain ⟨c, hcc⟩ : ∃ c, c = l[k] := ⟨_, rfl⟩
      obtain ⟨b, off, rfl, hb, hat⟩ : ∃ b off, ao = some ⟨b, off, none⟩ ∧ b < w.heap.size ∧ ChgsAt w b off l := by
        rcases HC.out with h | h
        · rw [h] at hkl; simp at hkl
        · exact h
      obtain ⟨c0, c1, c2, c3, c4⟩ := (hat.below hb hst.base).get hkl hcc
      have hval : c.valid = true := by rw [hcc]; exact HV.out _ (List.getElem_mem _)
      obtain ⟨⟨v1, v2⟩, ⟨v3, v4⟩, v5, v6, v7⟩ := valid_bounds hval
      have hes := encC_size hval
      have HCC := Lib.hid hcc
      have a1 := numS_size (n := c.kind.toNat) (by omega)
      have a2 := numS_size (n := c.id.toNat) (by omega)
      have a3 := txtS_size (s := c.key) (by omega)
      have a4 := txtS_size (s := c.rcd) (by omega)
      clear hcc hat hval
      go_wp2_with (first | ((with_reducible refine at_dst (N := 7) rfl ?_); refine wpList_box hst 23 #[.int .i64 0, .int .i64 0, .string ⟨#[]⟩, .string ⟨#[]⟩, .string ⟨#[]⟩] rfl ?hr ?_; (case hr => first | (go_simp; done) | (go_simp; rfl)); clear hst; intro g1 w1 hst; obtain ⟨hc1, hf1, hl1⟩ := hst.c0) | ((with_reducible refine at_store (p := 7) rfl ?_); refine wpList_put0 hst rfl _ _ rfl c.cells rfl rfl (by kernel_rfl) rfl (by simp [rangeV, Value.oneCell']) ?_; clear hst; intro wp hst; (clear hc1 hf1; obtain ⟨hc1, hf1, hl1⟩ := hst.c0)))
      obtain ⟨hne, hq1⟩ := hst.facts1; dsimp only at hq1
      have w1 : IntKind.u64.wrap c.kind = c.kind := IntWalk.u64_in _ (by omega)
      have w2 : IntKind.u64.wrap c.id = c.id := IntWalk.u64_in _ (by omega)
      (refine wp_region_st hst (by kernel_rfl) (by kernel_rfl) ?_; (repeat (first | go_big_quiet_skip | (go_big_quiet_want; first | fail | (go_big_quiet_op; first | go_big_quiet_on | go_big_quiet_call ((first | (go_at_call 64; exact calls_st _ (appendNumber_int _ _ _ (by omega) (by omega) (by first | exact Nat.zero_le _ | (have e0 : (⟨#[]⟩ : ByteArray).size = 0 := rfl; simp only [ByteArray.size_append]; omega) | omega))))))))); refine wpQuiet_nil ?_; clear hst; rintro _ ⟨⟨wq, hst⟩, rfl⟩; try dsimp only)
      obtain ⟨hc1, hf1, hl1⟩ := hst.c0
      clear w1 w2 hne hq1
      go_wp2_with (first | (((with_reducible refine at_dst (N := 50) rfl ?_); refine wpList_boxS hst 9 #[.string c.key, .string c.rcd, .string c.vol] 3 3 rfl ?hr ?_; (case hr => first | (go_simp; done) | (go_simp; rfl)); clear hst; intro g2 w2 hst; obtain ⟨hc2, hf2, hl2⟩ := hst.c0); clear hc1 hf1 hc2 hf2; obtain ⟨hc2, hf2, hl2⟩ := hst.c0; obtain ⟨hc1, hf1, hl1⟩ := hst.c1))
      refine wp_loop_rounds 4 ?_
      rw [rounds_succ]
      go_wp2_with (first | (go_at_call 65; refine (appendText_any _ _ _ (by omega) (by first | exact Nat.zero_le _ | (have e0 : (⟨#[]⟩ : ByteArray).size = 0 := rfl; simp only [ByteArray.size_append]; omega) | omega)).mono ?_; rintro e w' ⟨rfl, hb⟩; replace hst := hst.below hb; clear hb; clear hc1 hf1 hc2 hf2; obtain ⟨hc2, hf2, hl2⟩ := hst.c0; obtain ⟨hc1, hf1, hl1⟩ := hst.c1))
      rw [rounds_succ]
      go_wp2_with (first | (go_at_call 65; refine (appendText_any _ _ _ (by omega) (by first | exact Nat.zero_le _ | (have e0 : (⟨#[]⟩ : ByteArray).size = 0 := rfl; simp only [ByteArray.size_append]; omega) | omega)).mono ?_; rintro e w' ⟨rfl, hb⟩; replace hst := hst.below hb; clear hb; clear hc1 hf1 hc2 hf2; obtain ⟨hc2, hf2, hl2⟩ := hst.c0; obtain ⟨hc1, hf1, hl1⟩ := hst.c1))
      rw [rounds_succ]
      go_wp2_with (first | (go_at_call 65; refine (appendText_any _ _ _ (by omega) (by first | exact Nat.zero_le _ | (have e0 : (⟨#[]⟩ : ByteArray).size = 0 := rfl; simp only [ByteArray.size_append]; omega) | omega)).mono ?_; rintro e w' ⟨rfl, hb⟩; replace hst := hst.below hb; clear hb; clear hc1 hf1 hc2 hf2; obtain ⟨hc2, hf2, hl2⟩ := hst.c0; obtain ⟨hc1, hf1, hl1⟩ := hst.c1))
      rw [rounds_succ]
      go_wp2
      go_roundw
      case measure => simp [intOf]; omega
      case rel =>
        refine ⟨k + 1, s ++ encC c, congrArg Value.string (encC_app s c), by go_num, by omega, ?_, by rw [ByteArray.size_append]; omega, hst.sub (by simp)⟩
        show _ = _
        rw [encL_snoc s0 l k hkl, ← hs.out, ← HCC.out]
    · go_wp2
      go_ret
      exact ⟨ret_str (by rw [hs.out, encL_all s0 l k (by have := HN.out; omega), HS0.out, encR, HN.out, emp_append]), hst.base⟩

/-- what Encode returns -/
def encE (num unit : Int) (l : List Chg) : Int := if soundB num unit l = true then (if (encR num unit l).size ≤ 16384 then 0 else 8) else 1
def encS (num unit : Int) (l : List Chg) : ByteArray := if encE num unit l = 0 then encR num unit l else ⟨#[]⟩

set_option maxHeartbeats 1000000 in
theorem encodeP_any (num unit : Int) (l : List Chg) (ao : Option Addr) (cap : Nat) (w : World) (hl : l.length ≤ 140737488355328) (hc : Chgs w ao l) (hs : ∀ c ∈ l, c.Sz) :
    Calls Tryd.prog 17 #[.agg (recC num unit ao l.length cap)] w fun e w' => e = .returned (.tuple #[.string (encS num unit l), .int .i64 (encE num unit l)]) ∧ Below w.heap.size w w' := by
  have hst := St.start w
  obtain ⟨n, hn⟩ : ∃ n, n = l.length := ⟨_, rfl⟩
  have k1 := fun w => sound_any num unit l ao cap w hl
  rw [← hn] at k1 ⊢
  have HC := Lib.hid hc
  have HS := Lib.hid hs
  cases hso : soundB num unit l with
  | false =>
    rw [hso] at k1
    have K1 := Lib.hid k1
    have e1 : encE num unit l = 1 := by simp [encE, hso]
    have e2 : encS num unit l = ⟨#[]⟩ := by simp [encS, e1]
    rw [e1, e2]
    clear k1 hc hs hn e1 e2 hso
    go_enter Tryd.func17, Tryd.ntmps17
    go_wp2_with (first | ((with_reducible refine at_dst (N := 1) rfl ?_); refine wpList_box hst 29 (recC num unit ao n cap) rfl ?hr ?_; (case hr => first | (go_simp; done) | (go_simp; rfl)); clear hst; intro g1 w1 hst; obtain ⟨hc1, hf1, hl1⟩ := hst.c0) | ((with_reducible refine at_dst (N := 5) rfl ?_); (refine wpList_load_own hst ⟨g1, (recC num unit ao n cap), 29⟩ (by simp) rfl _ rfl rfl _ rfl Tryd.underlying29 (by kernel_rfl) ?_))  | (go_at_call 45; refine (K1.out _ (HC.out.below hst.base) HS.out).mono ?_; rintro e w' ⟨rfl, hb⟩; replace hst := hst.below hb; clear hb; clear hc1 hf1; obtain ⟨hc1, hf1, hl1⟩ := hst.c0))
    go_ret2
    exact ⟨rfl, hst.base⟩
  | true =>
    have k2 := fun w => encode_any num unit l ao cap w hso
    rw [← hn] at k2
    obtain ⟨R, hR⟩ : ∃ R, R = encR num unit l := ⟨_, rfl⟩
    rw [← hR] at k2
    rw [hso] at k1
    have hz : R.size ≤ 1000000 := by
      have h1 := sound_facts hso
      have h2 := encL_size l (numS num.toNat ++ numS unit.toNat ++ numS l.length) h1.2
      obtain ⟨r1, r2, r3, r4, r5, r6⟩ := h1.1
      have n1 := numS_size (n := num.toNat) (by omega)
      have n2 := numS_size (n := unit.toNat) (by omega)
      have n3 := numS_size (n := l.length) (by omega)
      simp only [ByteArray.size_append] at h2
      rw [hR, encR]
      omega
    have K1 := Lib.hid k1
    have K2 := Lib.hid k2
    by_cases hz2 : R.size ≤ 16384
    · have e1 : encE num unit l = 0 := by rw [encE, if_pos hso, ← hR, if_pos hz2]
      have e2 : encS num unit l = R := by rw [encS, if_pos e1, hR]
      rw [e1, e2]
      clear k1 k2 hc hs hn e1 e2 hso hR
      go_enter Tryd.func17, Tryd.ntmps17
      go_wp2_with (first | ((with_reducible refine at_dst (N := 1) rfl ?_); refine wpList_box hst 29 (recC num unit ao n cap) rfl ?hr ?_; (case hr => first | (go_simp; done) | (go_simp; rfl)); clear hst; intro g1 w1 hst; obtain ⟨hc1, hf1, hl1⟩ := hst.c0) | ((with_reducible refine at_dst (N := 5) rfl ?_); (refine wpList_load_own hst ⟨g1, (recC num unit ao n cap), 29⟩ (by simp) rfl _ rfl rfl _ rfl Tryd.underlying29 (by kernel_rfl) ?_)) | ((with_reducible refine at_dst (N := 8) rfl ?_); (refine wpList_load_own hst ⟨g1, (recC num unit ao n cap), 29⟩ (by simp) rfl _ rfl rfl _ rfl Tryd.underlying29 (by kernel_rfl) ?_))  | (go_at_call 45; refine (K1.out _ (HC.out.below hst.base) HS.out).mono ?_; rintro e w' ⟨rfl, hb⟩; replace hst := hst.below hb; clear hb; clear hc1 hf1; obtain ⟨hc1, hf1, hl1⟩ := hst.c0) | (go_at_call 47; refine (K2.out _ (HC.out.below hst.base)).mono ?_; rintro e w' ⟨rfl, hb⟩; replace hst := hst.below hb; clear hb; clear hc1 hf1; obtain ⟨hc1, hf1, hl1⟩ := hst.c0))
      go_ret2
      exact ⟨rfl, hst.base⟩
    · have e1 : encE num unit l = 8 := by rw [encE, if_pos hso, ← hR, if_neg hz2]
      have e2 : encS num unit l = ⟨#[]⟩ := by rw [encS, e1]; rfl
      rw [e1, e2]
      clear k1 k2 hc hs hn e1 e2 hso hR
      go_enter Tryd.func17, Tryd.ntmps17
      go_wp2_with (first | ((with_reducible refine at_dst (N := 1) rfl ?_); refine wpList_box hst 29 (recC num unit ao n cap) rfl ?hr ?_; (case hr => first | (go_simp; done) | (go_simp; rfl)); clear hst; intro g1 w1 hst; obtain ⟨hc1, hf1, hl1⟩ := hst.c0) | ((with_reducible refine at_dst (N := 5) rfl ?_); (refine wpList_load_own hst ⟨g1, (recC num unit ao n cap), 29⟩ (by simp) rfl _ rfl rfl _ rfl Tryd.underlying29 (by kernel_rfl) ?_)) | ((with_reducible refine at_dst (N := 8) rfl ?_); (refine wpList_load_own hst ⟨g1, (recC num unit ao n cap), 29⟩ (by simp) rfl _ rfl rfl _ rfl Tryd.underlying29 (by kernel_rfl) ?_))  | (go_at_call 45; refine (K1.out _ (HC.out.below hst.base) HS.out).mono ?_; rintro e w' ⟨rfl, hb⟩; replace hst := hst.below hb; clear hb; clear hc1 hf1; obtain ⟨hc1, hf1, hl1⟩ := hst.c0) | (go_at_call 47; refine (K2.out _ (HC.out.below hst.base)).mono ?_; rintro e w' ⟨rfl, hb⟩; replace hst := hst.below hb; clear hb; clear hc1 hf1; obtain ⟨hc1, hf1, hl1⟩ := hst.c0))
      go_ret2
      exact ⟨rfl, hst.base⟩
end Go.Proofs.YtklpamhhbigjfaaDoor
