/- Chapter 14: the reference Frame; Padded. -/
import Derived.Test.YtklpamhhbigjfaaFrame14
namespace Go.Proofs.Ytklpamhhbigjfaa
open Go.RowKit
set_option linter.unusedSimpArgs false
set_option linter.unusedVariables false

theorem bs_self (s : ByteArray) : bs s.data.toList = s := by cases s; simp [bs]
theorem bs_snoc (l : List UInt8) (b : UInt8) : bs l ++ (⟨#[b]⟩ : ByteArray) = bs (l ++ [b]) := by
  rw [show (⟨#[b]⟩ : ByteArray) = bs [b] from rfl, bs_append]
set_option maxHeartbeats 1000000 in
theorem padded_any (l : List UInt8) (n : Nat) (w : World) (hl : l.length ≤ 100000) (hn : n ≤ 100000) :
    Calls Try.prog 32 #[.string (bs l), .int .i64 n] w fun e w' => e = .returned (.string (bs (l ++ List.replicate (n - l.length) 0))) ∧ w = w' := by
  go_enter Try.func32, Try.ntmps32
  go_wp2
  go_loopw [0] (fun t0 wr => ∃ (k : Nat) (s : ByteArray), t0 = .string s ∧ k ≤ n - l.length ∧ s.size = l.length + k ∧ Hid (s = bs (l ++ List.replicate k 0)) ∧ Hid (wr = w)) (fun t0 _ => n - (match t0 with | .string s => s.size | _ => 0))
  case atStart => exact ⟨0, bs l, rfl, Nat.zero_le _, by rw [bs_size]; rfl, by show _ = _; simp, rfl⟩
  case round =>
    obtain ⟨k, s, rfl, hk, hs, HS, HW⟩ := hrel
    by_cases hlt : s.size < n
    · have hz : (s ++ (⟨#[0]⟩ : ByteArray)).size = s.size + 1 := by rw [ByteArray.size_append]; rfl
      go_wp2
      go_roundw
      case measure => simp only [hz]; omega
      case rel => exact ⟨k + 1, _, rfl, by omega, by rw [hz]; omega, by show _ = _; rw [HS.out, bs_snoc, List.append_assoc, List.replicate_succ'], HW⟩
    · have hkn : k = n - l.length := by omega
      go_wp2
      go_ret
      exact ⟨congrArg (fun z => Ending.returned (.string z)) (HS.out.trans (by rw [hkn])), HW.out.symm⟩

theorem conv4 {w : World} {g : Nat} {C : Array Value} {l : List UInt8} (hC : Hid (C = rowOf l)) (hl : Hid (l.length = 4)) (hc : ∀ i, w.cell? ⟨g, i, none⟩ = C[i]?) :
    (convert 57 9 (.slice (some ⟨g, 0, none⟩) 4 4)).run Try.prog w = .ok (.string (bs l)) w := by
  rw [hC.out] at hc
  have := conv_rowOf (P := Try.prog) (c := 4) (Try.underlying57) (Try.underlying5) (Try.underlying9) hc
  rw [hl.out] at this
  exact this

set_option maxHeartbeats 1000000 in
set_option maxRecDepth 100000 in
theorem frameR_0 (n : Int) (d : ByteArray) (w : World) (h1 : 0 ≤ n) (h2 : n ≤ 65535) (h3 : 1 ≤ d.size) (h4 : d.size ≤ 56) (H4 : List UInt8) (X0 X Y R : ByteArray) (N : Nat) (hX : X.size = 60) (hY : Y.size = 4) (hHz : (bs H4).size = 4)
    (HH : Hid (#[.int .u8 (n % 256), .int .u8 (n / 256), .int .u8 0, .int .u8 d.size] = rowOf H4)) (HHl : Hid (H4.length = 4))
    (KP : Hid (∀ w, Calls Try.prog 32 #[.string (bs H4 ++ d), .int .i64 60] w fun e w' => e = .returned (.string X) ∧ w = w'))
    (KS : Hid (∀ w, Calls Try.prog 33 #[.string X] w fun e w' => e = .returned (.int .u32 (N : Int)) ∧ w = w'))
    (KB : Hid (∀ w, Calls Try.prog 16 #[.int .u32 (N : Int)] w fun e w' => e = .returned (.string Y) ∧ Below w.heap.size w w')) (E : Hid (X ++ Y = R)) :
    Calls Try.prog 14 #[.int .i64 n, .bool false, .bool false, .string d] w fun e w' => e = .returned (.string R) ∧ Below w.heap.size w w' := by
  have hst := St.start w
  have HCV := fun (w : World) (g : Nat) hc => conv4 (w := w) (g := g) HH HHl hc
  go_enter Try.func14, Try.ntmps14
  go_wp2_with (first | ((with_reducible refine at_dst (N := 43) rfl ?_); refine wpList_boxS hst 5 #[.int .u8 (n % 256), .int .u8 (n / 256), .int .u8 0, .int .u8 d.size] 4 4 rfl ?hr ?_; (case hr => first | (go_simp; done) | (go_simp; rfl)); clear hst; intro g1 w1 hst; obtain ⟨hc1, hf1, hl1⟩ := hst.c0)  | ((with_reducible refine at_dst (N := 44) rfl ?_); refine wpList_run (v := .string (bs H4)) rfl (exec_convert rfl rfl (HCV _ _ hc1)) ?_)  | (go_at_call 32; refine (KP.out _).mono ?_; rintro e w' ⟨rfl, hw⟩; subst hw) | (go_at_call 33; refine (KS.out _).mono ?_; rintro e w' ⟨rfl, hw⟩; subst hw) | (go_at_call 16; refine (KB.out _).mono ?_; rintro e w' ⟨rfl, hb⟩; replace hst := hst.below hb; clear hb hc1 hf1 hl1))
  go_ret
  exact ⟨ret_str E.out, hst.base⟩

set_option maxHeartbeats 1000000 in
set_option maxRecDepth 100000 in
theorem frameR_2 (n : Int) (d : ByteArray) (w : World) (h1 : 0 ≤ n) (h2 : n ≤ 65535) (h3 : 1 ≤ d.size) (h4 : d.size ≤ 56) (H4 : List UInt8) (X0 X Y R : ByteArray) (N : Nat) (hX : X.size = 60) (hY : Y.size = 4) (hHz : (bs H4).size = 4)
    (HH : Hid (#[.int .u8 (n % 256), .int .u8 (n / 256), .int .u8 2, .int .u8 d.size] = rowOf H4)) (HHl : Hid (H4.length = 4))
    (KP : Hid (∀ w, Calls Try.prog 32 #[.string (bs H4 ++ d), .int .i64 60] w fun e w' => e = .returned (.string X) ∧ w = w'))
    (KS : Hid (∀ w, Calls Try.prog 33 #[.string X] w fun e w' => e = .returned (.int .u32 (N : Int)) ∧ w = w'))
    (KB : Hid (∀ w, Calls Try.prog 16 #[.int .u32 (N : Int)] w fun e w' => e = .returned (.string Y) ∧ Below w.heap.size w w')) (E : Hid (X ++ Y = R)) :
    Calls Try.prog 14 #[.int .i64 n, .bool false, .bool true, .string d] w fun e w' => e = .returned (.string R) ∧ Below w.heap.size w w' := by
  have hst := St.start w
  have HCV := fun (w : World) (g : Nat) hc => conv4 (w := w) (g := g) HH HHl hc
  go_enter Try.func14, Try.ntmps14
  go_wp2_with (first | ((with_reducible refine at_dst (N := 43) rfl ?_); refine wpList_boxS hst 5 #[.int .u8 (n % 256), .int .u8 (n / 256), .int .u8 2, .int .u8 d.size] 4 4 rfl ?hr ?_; (case hr => first | (go_simp; done) | (go_simp; rfl)); clear hst; intro g1 w1 hst; obtain ⟨hc1, hf1, hl1⟩ := hst.c0)  | ((with_reducible refine at_dst (N := 44) rfl ?_); refine wpList_run (v := .string (bs H4)) rfl (exec_convert rfl rfl (HCV _ _ hc1)) ?_)  | (go_at_call 32; refine (KP.out _).mono ?_; rintro e w' ⟨rfl, hw⟩; subst hw) | (go_at_call 33; refine (KS.out _).mono ?_; rintro e w' ⟨rfl, hw⟩; subst hw) | (go_at_call 16; refine (KB.out _).mono ?_; rintro e w' ⟨rfl, hb⟩; replace hst := hst.below hb; clear hb hc1 hf1 hl1))
  go_ret
  exact ⟨ret_str E.out, hst.base⟩

set_option maxHeartbeats 1000000 in
set_option maxRecDepth 100000 in
theorem frameR_1 (n : Int) (d : ByteArray) (w : World) (h1 : 0 ≤ n) (h2 : n ≤ 65535) (h3 : 1 ≤ d.size) (h4 : d.size ≤ 56) (H4 : List UInt8) (X0 X Y R : ByteArray) (N : Nat) (hX : X.size = 60) (hY : Y.size = 4) (hHz : (bs H4).size = 4)
    (HH : Hid (#[.int .u8 (n % 256), .int .u8 (n / 256), .int .u8 1, .int .u8 d.size] = rowOf H4)) (HHl : Hid (H4.length = 4))
    (KP : Hid (∀ w, Calls Try.prog 32 #[.string (bs H4 ++ d), .int .i64 60] w fun e w' => e = .returned (.string X) ∧ w = w'))
    (KS : Hid (∀ w, Calls Try.prog 33 #[.string X] w fun e w' => e = .returned (.int .u32 (N : Int)) ∧ w = w'))
    (KB : Hid (∀ w, Calls Try.prog 16 #[.int .u32 (N : Int)] w fun e w' => e = .returned (.string Y) ∧ Below w.heap.size w w')) (E : Hid (X ++ Y = R)) :
    Calls Try.prog 14 #[.int .i64 n, .bool true, .bool false, .string d] w fun e w' => e = .returned (.string R) ∧ Below w.heap.size w w' := by
  have hst := St.start w
  have HCV := fun (w : World) (g : Nat) hc => conv4 (w := w) (g := g) HH HHl hc
  go_enter Try.func14, Try.ntmps14
  go_wp2_with (first | ((with_reducible refine at_dst (N := 43) rfl ?_); refine wpList_boxS hst 5 #[.int .u8 (n % 256), .int .u8 (n / 256), .int .u8 1, .int .u8 d.size] 4 4 rfl ?hr ?_; (case hr => first | (go_simp; done) | (go_simp; rfl)); clear hst; intro g1 w1 hst; obtain ⟨hc1, hf1, hl1⟩ := hst.c0)  | ((with_reducible refine at_dst (N := 44) rfl ?_); refine wpList_run (v := .string (bs H4)) rfl (exec_convert rfl rfl (HCV _ _ hc1)) ?_)  | (go_at_call 32; refine (KP.out _).mono ?_; rintro e w' ⟨rfl, hw⟩; subst hw) | (go_at_call 33; refine (KS.out _).mono ?_; rintro e w' ⟨rfl, hw⟩; subst hw) | (go_at_call 16; refine (KB.out _).mono ?_; rintro e w' ⟨rfl, hb⟩; replace hst := hst.below hb; clear hb hc1 hf1 hl1))
  go_ret
  exact ⟨ret_str E.out, hst.base⟩

set_option maxHeartbeats 1000000 in
set_option maxRecDepth 100000 in
theorem frameR_3 (n : Int) (d : ByteArray) (w : World) (h1 : 0 ≤ n) (h2 : n ≤ 65535) (h3 : 1 ≤ d.size) (h4 : d.size ≤ 56) (H4 : List UInt8) (X0 X Y R : ByteArray) (N : Nat) (hX : X.size = 60) (hY : Y.size = 4) (hHz : (bs H4).size = 4)
    (HH : Hid (#[.int .u8 (n % 256), .int .u8 (n / 256), .int .u8 3, .int .u8 d.size] = rowOf H4)) (HHl : Hid (H4.length = 4))
    (KP : Hid (∀ w, Calls Try.prog 32 #[.string (bs H4 ++ d), .int .i64 60] w fun e w' => e = .returned (.string X) ∧ w = w'))
    (KS : Hid (∀ w, Calls Try.prog 33 #[.string X] w fun e w' => e = .returned (.int .u32 (N : Int)) ∧ w = w'))
    (KB : Hid (∀ w, Calls Try.prog 16 #[.int .u32 (N : Int)] w fun e w' => e = .returned (.string Y) ∧ Below w.heap.size w w')) (E : Hid (X ++ Y = R)) :
    Calls Try.prog 14 #[.int .i64 n, .bool true, .bool true, .string d] w fun e w' => e = .returned (.string R) ∧ Below w.heap.size w w' := by
  have hst := St.start w
  have HCV := fun (w : World) (g : Nat) hc => conv4 (w := w) (g := g) HH HHl hc
  go_enter Try.func14, Try.ntmps14
  go_wp2_with (first | ((with_reducible refine at_dst (N := 43) rfl ?_); refine wpList_boxS hst 5 #[.int .u8 (n % 256), .int .u8 (n / 256), .int .u8 3, .int .u8 d.size] 4 4 rfl ?hr ?_; (case hr => first | (go_simp; done) | (go_simp; rfl)); clear hst; intro g1 w1 hst; obtain ⟨hc1, hf1, hl1⟩ := hst.c0)  | ((with_reducible refine at_dst (N := 44) rfl ?_); refine wpList_run (v := .string (bs H4)) rfl (exec_convert rfl rfl (HCV _ _ hc1)) ?_)  | (go_at_call 32; refine (KP.out _).mono ?_; rintro e w' ⟨rfl, hw⟩; subst hw) | (go_at_call 33; refine (KS.out _).mono ?_; rintro e w' ⟨rfl, hw⟩; subst hw) | (go_at_call 16; refine (KB.out _).mono ?_; rintro e w' ⟨rfl, hb⟩; replace hst := hst.below hb; clear hb hc1 hf1 hl1))
  go_ret
  exact ⟨ret_str E.out, hst.base⟩

theorem frameR_any (n : Int) (a b : Bool) (d : ByteArray) (w : World) (hd : d.size ≤ 140737488355328) :
    Calls Try.prog 14 #[.int .i64 n, .bool a, .bool b, .string d] w fun e w' => e = .returned (.string (frS n a b d)) ∧ Below w.heap.size w w' := by
  by_cases hok : FrOk n d
  · have hS : frS n a b d = sealS (bs (frL n.toNat a b d)) := if_pos hok
    rw [hS]
    obtain ⟨h1, h2, h3, h4⟩ := hok
    have hFl : (frL n.toNat a b d).length = 60 := frL_len h4
    have hX : (bs (frL n.toNat a b d)).size = 60 := by rw [bs_size, hFl]
    have hh := frL_cells (a := a) (b := b) h1 h2 h4
    have hHl : [UInt8.ofNat n.toNat, UInt8.ofNat (n.toNat / 256), UInt8.ofNat (mkN a b), UInt8.ofNat d.size].length = 4 := rfl
    obtain ⟨H4, hH4⟩ : ∃ H, H = [UInt8.ofNat n.toNat, UInt8.ofNat (n.toNat / 256), UInt8.ofNat (mkN a b), UInt8.ofNat d.size] := ⟨_, rfl⟩
    have hfr : frL n.toNat a b d = H4 ++ d.data.toList ++ List.replicate (56 - d.size) 0 := by rw [hH4]; rfl
    rw [← hH4] at hh hHl
    have hcat : bs H4 ++ d = bs (H4 ++ d.data.toList) := by rw [← bs_append, bs_self]
    have hlen : (H4 ++ d.data.toList).length = 4 + d.size := by rw [List.length_append, hHl]; simp
    have kp : Hid (∀ w, Calls Try.prog 32 #[.string (bs H4 ++ d), .int .i64 60] w fun e w' => e = .returned (.string (bs (frL n.toNat a b d))) ∧ w = w') := by
      intro w
      have := padded_any (H4 ++ d.data.toList) 60 w (by omega) (by omega)
      rw [hlen, show 60 - (4 + d.size) = 56 - d.size by omega, ← hfr, ← hcat] at this
      exact this
    have ks : Hid (∀ w, Calls Try.prog 33 #[.string (bs (frL n.toNat a b d))] w fun e w' => e = .returned (.int .u32 ((sumN (bs (frL n.toNat a b d)).data.toList : Nat) : Int)) ∧ w = w') := fun w => sumR_any _ w (by omega)
    have kb : Hid (∀ w, Calls Try.prog 16 #[.int .u32 ((sumN (bs (frL n.toNat a b d)).data.toList : Nat) : Int)] w fun e w' => e = .returned (.string (bs (bytes4 (sumN (bs (frL n.toNat a b d)).data.toList)))) ∧ Below w.heap.size w w') := fun w => bytesR_any _ w (sumN_lt _)
    have hY : (bs (bytes4 (sumN (bs (frL n.toNat a b d)).data.toList))).size = 4 := by rw [bs_size]; rfl
    have hHz : (bs H4).size = 4 := by rw [bs_size, hHl]
    have E : Hid (bs (frL n.toNat a b d) ++ bs (bytes4 (sumN (bs (frL n.toNat a b d)).data.toList)) = sealS (bs (frL n.toNat a b d))) := rfl
    cases a <;> cases b
    · exact frameR_0 n d w h1 h2 h3 h4 H4 ⟨#[]⟩ _ _ _ _ hX hY hHz hh hHl kp ks kb E
    · exact frameR_2 n d w h1 h2 h3 h4 H4 ⟨#[]⟩ _ _ _ _ hX hY hHz hh hHl kp ks kb E
    · exact frameR_1 n d w h1 h2 h3 h4 H4 ⟨#[]⟩ _ _ _ _ hX hY hHz hh hHl kp ks kb E
    · exact frameR_3 n d w h1 h2 h3 h4 H4 ⟨#[]⟩ _ _ _ _ hX hY hHz hh hHl kp ks kb E
  · rw [frS_no hok]
    unfold FrOk at hok
    have hb0 : Below w.heap.size w w := Below.refl _ _
    go_enter Try.func14, Try.ntmps14
    go_wp2
    all_goals (go_ret; exact ⟨rfl, hb0⟩)
end Go.Proofs.Ytklpamhhbigjfaa
