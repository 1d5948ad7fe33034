/- The reference of chapter 1: Number, Text. -/
import Derived.Test.YtklpamhhbigjfaaVarint
import Derived.Deep.RegionWith
namespace Go.Proofs.Ytklpamhhbigjfaa
open Go.RowKit
set_option linter.unusedSimpArgs false
set_option linter.unusedVariables false

set_option maxHeartbeats 1000000 in
set_option maxRecDepth 100000 in
theorem number_lo (n : Nat) (w : World) (hn : n < 128) :
    Calls Try.prog 90 #[.int .u64 n] w fun e w' => e = .returned (.string (numS n)) ∧ Below w.heap.size w w' := by
  have hst := St.start w
  have hx : ((UInt8.ofNat n).toNat : Int) = n := by rw [UInt8.toNat_ofNat']; omega
  have HX := Lib.hid hx
  clear hx
  go_enter Try.func90, Try.ntmps90
  go_wp2_with (first | ((with_reducible refine at_dst (N := 7) rfl ?_); refine wpList_boxS hst 5 #[.int .u8 n] 1 1 rfl ?hr ?_; (case hr => first | (go_simp; done) | (go_simp; rfl)); clear hst; intro g1 w1 hst; obtain ⟨hc1, hf1, hl1⟩ := hst.c0) | ((with_reducible refine at_dst (N := 8) rfl ?_); refine wpList_run (v := .string (bs [UInt8.ofNat n])) rfl (exec_convert rfl rfl (conv_one _ hst HX.out (Try.underlying57) (Try.underlying5) (Try.underlying9))) ?_))
  go_ret
  exact ⟨ret_str (by rw [numS, varint_lo hn]), hst.base⟩

set_option maxHeartbeats 1000000 in
set_option maxRecDepth 100000 in
theorem number_hi (n q : Nat) (x : UInt8) (w : World) (hn : 128 ≤ n) (hm : n < 18446744073709551616) (hq : q = n / 128) (hx : x = UInt8.ofNat (n % 128 + 128))
    (ih : ∀ w, Calls Try.prog 90 #[.int .u64 (q : Int)] w fun e w' => e = .returned (.string (numS q)) ∧ Below w.heap.size w w') :
    Calls Try.prog 90 #[.int .u64 n] w fun e w' => e = .returned (.string (numS n)) ∧ Below w.heap.size w w' := by
  have hst := St.start w
  have IH := Lib.hid ih
  clear ih
  have e1 : IntKind.u8.wrap (IntKind.u64.wrap ((n : Int).tmod 128 + 128)) = ((x.toNat : Nat) : Int) := by
    rw [hx, IntWalk.u64_in _ (by rw [Int.tmod_eq_emod_of_nonneg (by omega)]; omega), Int.tmod_eq_emod_of_nonneg (by omega), IntWalk.u8_in _ (by omega), UInt8.toNat_ofNat']
    omega
  have e2 : IntKind.u64.wrap ((n : Int) / 128) = (q : Int) := by rw [IntWalk.u64_in _ (by omega)]; omega
  have hcv : ∀ (w' : World) (b : Nat), w'.cell? ⟨b, 0, none⟩ = some (.int .u8 (IntKind.u8.wrap (IntKind.u64.wrap ((n : Int).tmod 128 + 128)))) → (convert 57 9 (.slice (some ⟨b, 0, none⟩) 1 1)).run Try.prog w' = .ok (.string (bs [x])) w' := by
    intro w' b h
    rw [e1] at h
    refine run_convert_bytes_back w' _ _ 5 ⟨b, 0, none⟩ 1 [x] (Try.underlying57) (Try.underlying5) (Try.underlying9) (fun j hj => ?_)
    have : j = 0 := by simpa using hj
    subst this
    exact h
  have hqs := numS_size (n := q) (by omega)
  have hb1 : (bs [x]).size = 1 := rfl
  have hfin : bs [x] ++ numS q = numS n := by rw [numS, numS, bs_append, varint_hi hn, hx, hq]; rfl
  have HF := Lib.hid hfin
  clear e1 hx hq hfin
  go_enter Try.func90, Try.ntmps90
  go_wp2_with fail
  go_region_with (first | (go_at_call 90; refine (IH.out _).mono ?_; rintro e w' ⟨rfl, hb⟩; obtain ⟨hcb, hfb⟩ := bcell hb))
  all_goals (go_wp2; go_ret; refine ⟨ret_str HF.out, ?_⟩)
  all_goals first | exact below_a hb | exact below_b hb

theorem numberB_any : ∀ (n : Nat) (w : World), n < 18446744073709551616 →
    Calls Try.prog 90 #[.int .u64 (n : Int)] w fun e w' => e = .returned (.string (numS n)) ∧ Below w.heap.size w w' := by
  intro n
  induction n using Nat.strongRecOn with
  | ind n ih =>
    intro w hn
    by_cases h : n < 128
    · exact number_lo n w h
    · exact number_hi n (n / 128) _ w (by omega) hn rfl rfl (fun w => ih (n / 128) (by omega) w (by omega))

theorem number_int (n : Int) (w : World) (h0 : 0 ≤ n) (hn : n < 18446744073709551616) :
    Calls Try.prog 90 #[.int .u64 n] w fun e w' => e = .returned (.string (numS n.toNat)) ∧ Below w.heap.size w w' := by
  obtain ⟨m, rfl⟩ := Int.eq_ofNat_of_zero_le h0
  exact numberB_any m w (by omega)
theorem text01_any (s : ByteArray) (w : World) (hs : s.size ≤ 140737488355328) :
    Calls Try.prog 79 #[.string s] w fun e w' => e = .returned (.string (txtS s)) ∧ Below w.heap.size w w' := by
  have h1 := numS_size (n := s.size) (by omega)
  go_enter Try.func79, Try.ntmps79
  go_wp2_with (first | (go_at_call 90; refine (numberB_any s.size _ (by omega)).mono ?_; rintro e w' ⟨rfl, hb⟩))
  go_ret
  exact ⟨rfl, hb⟩
end Go.Proofs.Ytklpamhhbigjfaa
