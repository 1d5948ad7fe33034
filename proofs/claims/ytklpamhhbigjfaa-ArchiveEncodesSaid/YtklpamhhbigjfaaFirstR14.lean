/- The reference of chapter 14: first, items. -/
import Derived.Test.YtklpamhhbigjfaaValidR14
import Derived.Test.YtklpamhhbigjfaaEnc14
import Derived.Test.YtklpamhhbigjfaaRefB01
namespace Go.Proofs.Ytklpamhhbigjfaa
open Go.RowKit
set_option linter.unusedSimpArgs false
set_option linter.unusedVariables false

theorem boolR_any (b : Bool) (w : World) : Calls Try.prog 91 #[.bool b] w fun e w' => e = .returned (.string (boolS b)) ∧ w = w' := by
  cases b
  · go_enter Try.func91, Try.ntmps91
    go_wp2
    go_ret
    exact ⟨rfl, rfl⟩
  · go_enter Try.func91, Try.ntmps91
    go_wp2
    go_ret
    exact ⟨rfl, rfl⟩
abbrev n14 (d : DS) : List Int := [d.id, d.org, d.fmt, d.len, d.block, d.keyAt, d.keyLen, d.intv, d.area, d.freeI, d.freeA, d.base, d.altAt, d.altLen]
theorem numC_at (d : DS) (k : Nat) (hk : k < (n14 d).length) : (numC d)[k]? = some (.int .i64 (n14 d)[k]) := by
  have e : numC d = ((n14 d ++ [d.cls, d.created, d.expires]).map (Value.int .i64)).toArray := rfl
  rw [e, List.getElem?_toArray, List.getElem?_map, List.getElem?_append_left hk, List.getElem?_eq_getElem hk]
  rfl
theorem numL_snoc (s : ByteArray) (l : List Int) (k : Nat) (hk : k < l.length) : numL s (l.take (k + 1)) = numL s (l.take k) ++ numS (l[k]).toNat := by
  rw [List.take_succ_eq_append_getElem hk, numL, List.foldl_append]
  rfl

set_option maxHeartbeats 2000000 in
set_option maxRecDepth 100000 in
theorem firstR_any (d : DS) (num : Int) (n : Nat) (w : World) (h1 : ∀ v ∈ nums d num, nOk v = true) (ho : d.own.size ≤ 31) (hv : d.vol.size ≤ 31) (hn : n ≤ 1024) :
    Calls Try.prog 78 #[d.v, .int .i64 num, .int .i64 (n : Nat)] w fun e w' => e = .returned (.string (firstS d num n)) ∧ Below w.heap.size w w' := by
  have hst := St.start w
  have b1 := h1 d.cls (by simp [nums])
  have b2 := h1 d.created (by simp [nums])
  have b3 := h1 d.expires (by simp [nums])
  have b4 := h1 num (by simp [nums])
  simp only [nOk, decide_eq_true_eq] at b1 b2 b3 b4
  have m1 : ∀ v ∈ n14 d, nOk v = true := fun v hv' => h1 v (List.mem_append_left [d.cls, d.created, d.expires, num] hv')
  have M1 := Lib.hid m1
  obtain ⟨NL, hNL⟩ : ∃ x, x = n14 d := ⟨_, rfl⟩
  have hnc := numC_at d
  rw [← hNL] at M1 hnc
  have h14 : NL.length = 14 := by rw [hNL]; rfl
  have HNC := Lib.hid hnc
  obtain ⟨R, hR⟩ : ∃ R, R = firstS d num n := ⟨_, rfl⟩
  have hRe : R = (numL ((numL ⟨#[]⟩ NL ++ boolS d.uniq) ++ numS d.cls.toNat ++ txtS d.vol ++ txtS d.own) [d.created, d.expires] ++ boolS d.arch) ++ numS num.toNat ++ numS n := by rw [hR, firstS, hNL]; rfl
  rw [← hR]
  have HR := Lib.hid hRe
  clear h1 m1 hNL hnc hR hRe
  go_enter Try.func78, Try.ntmps78
  go_wp2_with (first | ((with_reducible refine at_dst (N := 3) rfl ?_); refine wpList_box hst 34 d.cells rfl ?hr ?_; (case hr => first | (go_simp; done) | (go_simp; rfl)); clear hst; intro g3 w3 hst; obtain ⟨hc3, hf3, hl3⟩ := hst.c0) | ((with_reducible refine at_dst (N := 10) rfl ?_); (refine wpList_load_own hst ⟨g3, d.cells, 34⟩ (by simp) rfl _ rfl rfl _ rfl Try.underlying34 (by kernel_rfl) ?_))  | (go_at_call 42; refine (numbersR_any d _).mono ?_; rintro e w' ⟨gn, rfl, hk⟩; replace hst := hst.call hk; clear hk hc3 hf3 hl3; simp only [List.cons_append, List.nil_append] at hst))
  go_loopw [8, 9] (fun t8 t9 wr => ∃ (k : Nat) (s : ByteArray), t9 = .int .i64 k ∧ k ≤ 14 ∧ t8 = .string s ∧ Hid (s = numL ⟨#[]⟩ (NL.take k)) ∧ s.size ≤ 10 * k ∧ St w wr [⟨gn, numC d, 3⟩, ⟨g3, d.cells, 34⟩]) (fun _ t9 _ => 14 - (intOf t9).toNat)
  case atStart => exact ⟨0, ⟨#[]⟩, rfl, Nat.zero_le _, rfl, rfl, Nat.le_refl _, hst⟩
  case round =>
    clear hst
    obtain ⟨k, s, rfl, hk, rfl, HS, hss, hst⟩ := hrel
    by_cases hlt : k < 14
    · obtain ⟨v, hv'⟩ : ∃ v, v = NL[k]'(by omega) := ⟨_, rfl⟩
      have c0 : wr.cell? ⟨gn, k, none⟩ = some (.int .i64 v) := by rw [hst.c0.1 k, HNC.out k (by omega), ← hv']
      have hvo := M1.out v (by rw [hv']; exact List.getElem_mem _)
      simp only [nOk, decide_eq_true_eq] at hvo
      obtain ⟨v1, v2⟩ := hvo
      have w1 : IntKind.u64.wrap v = v := IntWalk.u64_in _ (by omega)
      have nz := numS_size (n := v.toNat) (by omega)
      have HV := Lib.hid hv'
      clear hv'
      go_wp2_with (first | (go_at_call 90; refine (number_int _ _ (by omega) (by omega)).mono ?_; rintro e w' ⟨rfl, hb⟩; replace hst := hst.below hb; clear hb))
      go_roundw
      case measure => simp [intOf]; omega
      case rel =>
        refine ⟨k + 1, s ++ numS v.toNat, by go_num, by omega, rfl, ?_, by rw [ByteArray.size_append]; omega, hst⟩
        show _ = _
        rw [numL_snoc _ NL k (by omega), ← HS.out, HV.out]
    · have hs : s = numL ⟨#[]⟩ NL := by rw [HS.out, List.take_of_length_le (by omega)]
      have HS2 := Lib.hid hs
      clear hs HS
      replace hst := hst.sub (L' := [⟨g3, d.cells, 34⟩]) (by simp)
      have z1 := boolS_size d.uniq
      have z2 := numS_size (n := d.cls.toNat) (by omega)
      have z3 := txtS_size (s := d.vol) (by omega)
      have z4 := txtS_size (s := d.own) (by omega)
      have z5 := numS_size (n := d.created.toNat) (by omega)
      have z6 := numS_size (n := d.expires.toNat) (by omega)
      have z7 := boolS_size d.arch
      have z8 := numS_size (n := num.toNat) (by omega)
      have z9 := numS_size (n := n) (by omega)
      have w1 : IntKind.u64.wrap d.cls = d.cls := IntWalk.u64_in _ (by omega)
      have w2 : IntKind.u64.wrap d.created = d.created := IntWalk.u64_in _ (by omega)
      have w3 : IntKind.u64.wrap d.expires = d.expires := IntWalk.u64_in _ (by omega)
      have w4 : IntKind.u64.wrap num = num := IntWalk.u64_in _ (by omega)
      have w5 : IntKind.u64.wrap (n : Int) = n := IntWalk.u64_in _ (by omega)
      have e0 : (⟨#[]⟩ : ByteArray).size = 0 := rfl
      go_wp2
      obtain ⟨hne, hq3⟩ := hst.facts1; dsimp only at hq3
      (refine wp_region_st hst (by kernel_rfl) (by kernel_rfl) ?_; (repeat (first | go_big_quiet_skip | (go_big_quiet_want; first | fail | (go_big_quiet_op; first | go_big_quiet_on | go_big_quiet_call ((first | (go_at_call 91; exact calls_st_same _ (boolR_any _ _)) | (go_at_call 90; exact calls_st _ (number_int _ _ (by omega) (by omega))) | (go_at_call 79; exact calls_st _ (text01_any _ _ (by omega))))))))); refine wpQuiet_nil ?_; clear hst; rintro _ ⟨⟨wq, hst⟩, rfl⟩; try dsimp only)
      clear hne hq3
      go_wp2
      obtain ⟨hne, hq3⟩ := hst.facts1; dsimp only at hq3
      (refine wp_region_st hst (by kernel_rfl) (by kernel_rfl) ?_; (repeat (first | go_big_quiet_skip | (go_big_quiet_want; first | fail | (go_big_quiet_op; first | go_big_quiet_on | go_big_quiet_call ((first | (go_at_call 91; exact calls_st_same _ (boolR_any _ _)) | (go_at_call 90; exact calls_st _ (number_int _ _ (by omega) (by omega))) | (go_at_call 79; exact calls_st _ (text01_any _ _ (by omega))))))))); refine wpQuiet_nil ?_; clear hst; rintro _ ⟨⟨wq, hst⟩, rfl⟩; try dsimp only)
      clear hne hq3
      go_wp2_with (first | (go_at_call 90; refine (number_int _ _ (by omega) (by omega)).mono ?_; rintro e w' ⟨rfl, hb⟩; replace hst := hst.below hb; clear hb))
      go_ret
      exact ⟨ret_str (by rw [HR.out, ← HS2.out]; rfl), hst.base⟩
end Go.Proofs.Ytklpamhhbigjfaa
