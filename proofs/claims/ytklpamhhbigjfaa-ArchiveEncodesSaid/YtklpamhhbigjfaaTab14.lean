/- The package checksum: table, Update, Sum. -/
import Derived.Test.YtklpamhhbigjfaaCrc14
import Derived.Test.YtklpamhhbigjfaaKit8
import Derived.Test.YtklpamhhbigjfaaVarint
namespace Go.Proofs.Ytklpamhhbigjfaa
open Go.RowKit
set_option linter.unusedSimpArgs false
set_option linter.unusedVariables false

theorem results_cell {P : Program} {fn : Func} {p : Tmp} {ty : TypeId} (h : fn.results = #[.cell p ty]) (tmps : Array Value) (w : World) (g : Nat) (t : TypeId) (cs : Array Value) (fr : Nat × Nat) (d : TypeDesc)
    (hp : tmps.getD p undef = .pointer (some ⟨g, 0, none⟩)) (hg : w.heap[g]? = some (.cells cs t fr))
    (hu : P.underlying ty = some d) (hd : isAggB d = true) (hi : (P.info? ty).map (·.size) = some cs.size) :
    (results fn tmps).run P w = .ok (.agg cs) w := by
  have hp' : tmps[p]?.getD undef = .pointer (some ⟨g, 0, none⟩) := by simpa using hp
  simp [results, h, hp', asAddr, run_loadVar_row w g t ty cs fr d hg hu (by cases d <;> simp_all [isAggB]) hi]

def zero16 : Array Value := #[.int .u32 0, .int .u32 0, .int .u32 0, .int .u32 0, .int .u32 0, .int .u32 0, .int .u32 0, .int .u32 0, .int .u32 0, .int .u32 0, .int .u32 0, .int .u32 0, .int .u32 0, .int .u32 0, .int .u32 0, .int .u32 0]
def tabC : Array Value := Array.ofFn fun i : Fin 16 => .int .u32 (shn 4 i.val : Nat)
theorem tabC_at (i : Nat) (h : i < 16) : tabC[i]? = some (.int .u32 (shn 4 i : Nat)) := by simp [tabC, h]
theorem tabC_size : tabC.size = 16 := by simp [tabC]
theorem tabC_one : tabC.all (·.oneCell') = true := by decide +kernel
theorem tab_all {cs : Array Value} (hs : cs.size = 16) (h : ∀ j, j < 16 → cs[j]? = some (.int .u32 (shn 4 j : Nat))) : cs = tabC := by
  refine Array.ext (by rw [hs, tabC_size]) fun i h1 h2 => ?_
  have a := h i (by omega)
  have b := tabC_at i (by omega)
  rw [Array.getElem?_eq_getElem h1] at a
  rw [Array.getElem?_eq_getElem h2] at b
  exact Option.some.inj (a.trans b.symm)

set_option maxHeartbeats 1000000 in
theorem table_any (w : World) :
    Calls Try.prog 88 #[] w fun e w' => e = .returned (.agg tabC) ∧ Below w.heap.size w w' := by
  have hst := St.start w
  go_enter Try.func88, Try.ntmps88
  go_wp2_with (first | ((with_reducible refine at_dst (N := 0) rfl ?_); refine wpList_box hst 136 zero16 rfl ?hr ?_; (case hr => first | (go_simp; done) | (go_simp; rfl)); clear hst; intro g1 w1 hst; obtain ⟨hc1, hf1, hl1⟩ := hst.c0) | (((with_reducible refine at_dst (N := 1) rfl ?_); refine wpList_box hst 136 zero16 rfl ?hr ?_; (case hr => first | (go_simp; done) | (go_simp; rfl)); clear hst; intro g2 w2 hst; obtain ⟨hc2, hf2, hl2⟩ := hst.c0); clear hc1 hf1 hc2 hf2; obtain ⟨hc2, hf2, hl2⟩ := hst.c0; obtain ⟨hc1, hf1, hl1⟩ := hst.c1))
  go_loopw [3] (fun t3 wr => ∃ (k : Nat) (cs : Array Value), t3 = .int .i64 k ∧ k ≤ 16 ∧ Hid (cs.size = 16) ∧ Hid (∀ j, j < k → cs[j]? = some (.int .u32 (shn 4 j : Nat))) ∧ St w wr [⟨g2, cs, 136⟩, ⟨g1, zero16, 136⟩]) (fun t3 _ => 16 - (intOf t3).toNat)
  case atStart => exact ⟨0, zero16, rfl, Nat.zero_le _, rfl, fun j h => absurd h (by omega), hst⟩
  case round =>
    clear hst hc1 hf1 hl1 hc2 hf2 hl2
    obtain ⟨k, cs, rfl, hk, hcs, hcp, hst⟩ := hrel
    obtain ⟨hc2, hf2, hl2⟩ := hst.c0
    by_cases hlt : k < 16
    · obtain ⟨old, hold⟩ : ∃ old, cs[k]? = some old := ⟨cs[k]'(by rw [hcs.out]; omega), Array.getElem?_eq_getElem _⟩
      have hck := (hc2 k).trans hold
      go_wp2_with (go_at_call 105; refine (shift_any k 4 _ (by omega) (by omega)).mono ?_; rintro e w' ⟨rfl, rfl⟩)
      go_roundw
      case measure => simp [intOf]; omega
      case rel =>
        refine ⟨k + 1, _, by go_num, by omega, ?_, ?_, hst.set0 k _⟩
        · show _ = _
          rw [Array.size_setIfInBounds]; exact hcs.out
        · intro j hj
          by_cases e : j = k
          · subst e; simp [Array.getElem?_setIfInBounds, hcs.out, hlt]
          · rw [Array.getElem?_setIfInBounds_ne (Ne.symm e)]; exact hcp.out j (by omega)
    · have hk16 : k = 16 := by omega
      subst hk16
      have hT : cs = tabC := tab_all hcs.out hcp.out
      subst hT
      go_wp2_with (first | ((with_reducible refine at_dst (N := 12) rfl ?_); (refine wpList_load_own hst ⟨g2, tabC, 136⟩ (by simp) rfl _ rfl rfl _ rfl Try.underlying136 (by kernel_rfl) ?_)) | ((with_reducible refine at_store (p := 0) rfl ?_); refine wpList_putB hst rfl _ _ rfl tabC rfl rfl (by kernel_rfl) rfl tabC_one ?_; clear hst; intro wp hst))
      exact bodyPost_ret (results_cell rfl _ _ g1 _ tabC _ _ rfl (hst.blk ⟨g1, tabC, 136⟩ (by simp)) (Try.underlying136) rfl (by kernel_rfl)) rfl ⟨rfl, hst.base⟩

attribute [local irreducible] shn crcU sumN
theorem and15_u32 (x b : Nat) (h : x < 4294967296) (hb : b < 4294967296) : bits BinOp.and IntKind.u32 (bits BinOp.xor IntKind.u32 (x : Int) (b : Int)) 15 = (((x ^^^ b) % 16 : Nat) : Int) := by
  rw [u32_xor_nat x b h hb, show (15 : Int) = ((15 : Nat) : Int) from rfl, u32_and_nat _ 15 (xor_lt h hb) (by omega)]
  congr 1
  exact Nat.and_two_pow_sub_one_eq_mod (x ^^^ b) 4

set_option maxHeartbeats 1000000 in
/-- the step over 4 bits: frame style -/
theorem step_any {w0 w : World} {L : List BK} {gx gt : Nat} (x b : Nat) (hx : x < 4294967296) (hb : b < 16) (hst : St w0 w (⟨gx, #[.int .u32 x], 29⟩ :: ⟨gt, tabC, 136⟩ :: L)) :
    Calls Try.prog 89 #[.int .u32 b, .pointer (some ⟨gx, 0, none⟩), .pointer (some ⟨gt, 0, none⟩)] w fun e w' => e = .returned (.tuple #[]) ∧ St w0 w' (⟨gx, #[.int .u32 (shn 4 (x ^^^ b) : Nat)], 29⟩ :: ⟨gt, tabC, 136⟩ :: L) := by
  obtain ⟨hcx, hfx, hlx⟩ := hst.c0
  obtain ⟨hct, hft, hlt⟩ := hst.c1
  have hx0 : w.cell? ⟨gx, 0, none⟩ = some (.int .u32 x) := hcx 0
  have hfx0 := hfx 0
  have ht0 := (hct ((x ^^^ b) % 16)).trans (tabC_at _ (by omega))
  have e1 := and15_u32 x b hx (by omega)
  have e2 := u32_xor_nat (x / 16) (shn 4 ((x ^^^ b) % 16)) (by omega) (shn_lt 4 (by omega))
  rw [nib_step x b hb] at e2
  have hs := shn_lt 4 (xor_lt hx (show b < 4294967296 by omega))
  obtain ⟨i, hi⟩ : ∃ i, i = (x ^^^ b) % 16 := ⟨_, rfl⟩
  have hi16 : i < 16 := by omega
  rw [← hi] at e1 ht0 e2
  obtain ⟨T, hT⟩ : ∃ T, T = shn 4 i := ⟨_, rfl⟩
  rw [← hT] at ht0 e2
  obtain ⟨Y, hY⟩ : ∃ Y, Y = shn 4 (x ^^^ b) := ⟨_, rfl⟩
  rw [← hY] at e2 ⊢
  have e3 : bits BinOp.xor IntKind.u32 ((x : Int) / 16) (T : Int) = (Y : Int) := by simpa using e2
  clear hi hT hY e2 hs hct hcx hft hfx
  go_enter Try.func89, Try.ntmps89
  go_wp2
  go_region
  go_end0
  exact ⟨rfl, (hst.set0 0 (.int .u32 Y)).drew⟩

theorem and15_byte (b : UInt8) : bits BinOp.and IntKind.u32 ((b.toNat : Int) % 4294967296) 15 = ((b.toNat % 16 : Nat) : Int) := by
  have := b.toNat_lt
  rw [show ((b.toNat : Int) % 4294967296) = (b.toNat : Int) by omega, show (15 : Int) = ((15 : Nat) : Int) from rfl, u32_and_nat _ 15 (by omega) (by omega)]
  congr 1
  exact Nat.and_two_pow_sub_one_eq_mod b.toNat 4
set_option maxHeartbeats 1000000 in
theorem update_any (x : Nat) (s : ByteArray) (w : World) (hx : x < 4294967296) (hs : s.size ≤ 140737488355328) :
    Calls Try.prog 76 #[.int .u32 x, .string s] w fun e w' => e = .returned (.int .u32 (4294967295 - crcU (4294967295 - x) s.data.toList : Nat)) ∧ Below w.heap.size w w' := by
  have hst := St.start w
  have hsg : IntKind.u32.signed = false := rfl
  have hno := not_u32 x hx
  obtain ⟨X, hX⟩ : ∃ X, X = 4294967295 - x := ⟨_, rfl⟩
  have hXl : X < 4294967296 := by omega
  rw [← hX] at hno ⊢
  clear hX
  go_enter Try.func76, Try.ntmps76
  go_wp2_with (first | (go_at_call 88; refine (table_any _).mono ?_; rintro e w' ⟨rfl, hb⟩; replace hst := hst.below hb; clear hb)  | ((with_reducible refine at_dst (N := 5) rfl ?_); refine wpList_box hst 136 zero16 rfl ?hr ?_; (case hr => first | (go_simp; done) | (go_simp; rfl)); clear hst; intro g1 w1 hst; obtain ⟨hc1, hf1, hl1⟩ := hst.c0) | ((with_reducible refine at_store (p := 5) rfl ?_); refine wpList_put0 hst rfl _ _ rfl tabC rfl rfl (by kernel_rfl) rfl tabC_one ?_; clear hst; intro wp hst; clear hc1 hf1; obtain ⟨hc1, hf1, hl1⟩ := hst.c0)  | (((with_reducible refine at_dst (N := 6) rfl ?_); refine wpList_box hst 29 #[.int .u32 0] rfl ?hr ?_; (case hr => first | (go_simp; done) | (go_simp; rfl)); clear hst; intro g2 w2 hst; obtain ⟨hc2, hf2, hl2⟩ := hst.c0); clear hc1 hf1 hc2 hf2; obtain ⟨hc2, hf2, hl2⟩ := hst.c0; obtain ⟨hc1, hf1, hl1⟩ := hst.c1) | ((with_reducible refine at_store (p := 6) rfl ?_); refine wpList_cell0 hst 0 (.int .u32 X) #[.int .u32 X] rfl rfl ?hr ?_; (case hr => first | (go_simp; done) | (go_simp; rfl)); clear hst; intro wp hst; clear hc1 hf1 hc2 hf2; obtain ⟨hc2, hf2, hl2⟩ := hst.c0; obtain ⟨hc1, hf1, hl1⟩ := hst.c1))
  clear hno
  go_loopw [8] (fun t8 wr => ∃ (k y : Nat), t8 = .int .i64 k ∧ k ≤ s.size ∧ Hid (y = crcU X (s.data.toList.take k)) ∧ y < 4294967296 ∧ St w wr [⟨g2, #[.int .u32 y], 29⟩, ⟨g1, tabC, 136⟩]) (fun t8 _ => s.size - (intOf t8).toNat)
  case atStart => exact ⟨0, X, rfl, Nat.zero_le _, by show _ = _; simp [crcU], hXl, hst⟩
  case round =>
    clear hst hc1 hf1 hl1 hc2 hf2 hl2
    obtain ⟨k, y, rfl, hk, HY, hy, hst⟩ := hrel
    by_cases hlt : k < s.size
    · obtain ⟨b, hb⟩ : ∃ b, b = s[k] := ⟨_, rfl⟩
      have hstep := crcU_take X s k hlt
      have hb8 := b.toNat_lt
      rw [← HY.out, ← hb, ← byte_step] at hstep
      have e1 := and15_byte b
      rw [show ((b.toNat : Int) % 4294967296) = (b.toNat : Int) by omega] at e1
      have e2 : (b.toNat : Int) / 16 = ((b.toNat / 16 : Nat) : Int) := by omega
      have hb2 : (s[k]'hlt) = b := hb.symm
      have HS := Lib.hid hstep
      have h16 : b.toNat % 16 < 16 := by omega
      have h17 : b.toNat / 16 < 16 := by omega
      obtain ⟨p, hp⟩ : ∃ p, p = b.toNat % 16 := ⟨_, rfl⟩
      obtain ⟨q, hq⟩ : ∃ q, q = b.toNat / 16 := ⟨_, rfl⟩
      rw [← hp] at e1 h16
      rw [← hq] at e2 h17
      have HPQ := Lib.hid (And.intro hp hq)
      clear hstep hb hp hq
      have hy2 := shn_lt 4 (xor_lt hy (show p < 4294967296 by omega))
      have hy3 := shn_lt 4 (xor_lt hy2 (show q < 4294967296 by omega))
      have HY2 := Lib.hid hy2
      have TK := Lib.hid hy
      clear hy2
      go_wp2_with (go_at_call 89; first | (refine (step_any y p TK.out h16 hst).mono ?_; clear hst TK; rintro e w' ⟨rfl, hst⟩) | (refine (step_any (shn 4 (y ^^^ p)) q HY2.out h17 hst).mono ?_; clear hst; rintro e w' ⟨rfl, hst⟩))
      go_roundw
      case measure => simp [intOf]; omega
      case rel => exact ⟨k + 1, _, by go_num, by omega, by show _ = _; rw [HS.out, ← HPQ.out.1, ← HPQ.out.2], hy3, hst⟩
    · obtain ⟨hc2, hf2, hl2⟩ := hst.c0
      have hno := not_u32 y hy
      go_wp2
      go_ret
      exact ⟨congrArg (fun z : Nat => Ending.returned (.int .u32 ((4294967295 - z : Nat) : Int))) (HY.out.trans (by rw [List.take_of_length_le (by simp; omega)])), hst.base⟩

theorem sum_any (s : ByteArray) (w : World) (hs : s.size ≤ 140737488355328) :
    Calls Try.prog 55 #[.string s] w fun e w' => e = .returned (.int .u32 (sumN s.data.toList : Nat)) ∧ Below w.heap.size w w' := by
  have k1 := fun w => update_any 0 s w (by omega) hs
  rw [show 4294967295 - crcU (4294967295 - 0) s.data.toList = sumN s.data.toList by unfold sumN; rfl] at k1
  have K1 := Lib.hid k1
  clear k1
  go_enter Try.func55, Try.ntmps55
  go_wp2_with (go_at_call 76; refine (K1.out _).mono ?_; rintro e w' ⟨rfl, hb⟩)
  go_ret
  exact ⟨rfl, hb⟩
theorem sumR_any (s : ByteArray) (w : World) (hs : s.size ≤ 140737488355328) :
    Calls Try.prog 33 #[.string s] w fun e w' => e = .returned (.int .u32 (sumN s.data.toList : Nat)) ∧ w = w' := by
  have k1 := fun w => updateR_any 0 s w (by omega) hs
  rw [show 4294967295 - crcU (4294967295 - 0) s.data.toList = sumN s.data.toList by unfold sumN; rfl] at k1
  have K1 := Lib.hid k1
  clear k1
  go_enter Try.func33, Try.ntmps33
  go_wp2_with (go_at_call 56; refine (K1.out _).mono ?_; rintro e w' ⟨rfl, rfl⟩)
  go_ret
  exact ⟨rfl, rfl⟩
abbrev b4C (n : Nat) : Array Value := #[.int .u8 ((n : Int) % 256), .int .u8 ((n : Int) / 256 % 256), .int .u8 ((n : Int) / 65536 % 256), .int .u8 ((n : Int) / 16777216)]
theorem conv_b4 {w : World} {g : Nat} (n : Nat) (hn : n < 4294967296) (hc : ∀ i, w.cell? ⟨g, i, none⟩ = (b4C n)[i]?) :
    (convert 57 9 (.slice (some ⟨g, 0, none⟩) 4 4)).run Try.prog w = .ok (.string (bs (bytes4 n))) w := by
  refine run_convert_bytes_back w _ _ 5 ⟨g, 0, none⟩ 4 (bytes4 n) (Try.underlying57) (Try.underlying5) (Try.underlying9) (fun j hj => ?_)
  have hj4 : j < 4 := hj
  have e : Addr.add ⟨g, 0, none⟩ j = ⟨g, j, none⟩ := by cases j <;> simp [Addr.add]
  rw [e, hc]
  have hj2 : j = 0 ∨ j = 1 ∨ j = 2 ∨ j = 3 := by omega
  rcases hj2 with rfl | rfl | rfl | rfl <;> simp [bytes4] <;> omega
theorem bytesR_any (n : Nat) (w : World) (hn : n < 4294967296) :
    Calls Try.prog 16 #[.int .u32 n] w fun e w' => e = .returned (.string (bs (bytes4 n))) ∧ Below w.heap.size w w' := by
  have hst := St.start w
  have hcv := fun (w : World) (g : Nat) => conv_b4 (w := w) (g := g) n hn
  obtain ⟨B, hB⟩ : ∃ B, B = bs (bytes4 n) := ⟨_, rfl⟩
  rw [← hB] at hcv ⊢
  have HCV := Lib.hid hcv
  clear hcv hB
  go_enter Try.func16, Try.ntmps16
  go_wp2_with (first | ((with_reducible refine at_dst (N := 14) rfl ?_); refine wpList_boxS hst 5 (b4C n) 4 4 rfl ?hr ?_; (case hr => first | (go_simp; done) | (go_simp; rfl)); clear hst; intro g1 w1 hst; obtain ⟨hc1, hf1, hl1⟩ := hst.c0) | ((with_reducible refine at_dst (N := 15) rfl ?_); refine wpList_run (v := .string B) rfl (exec_convert rfl rfl (HCV.out _ _ hc1)) ?_))
  go_ret
  exact ⟨rfl, hst.base⟩
theorem bytes_any (n : Nat) (w : World) (hn : n < 4294967296) :
    Calls Try.prog 54 #[.int .u32 n] w fun e w' => e = .returned (.string (bs (bytes4 n))) ∧ Below w.heap.size w w' := by
  have hst := St.start w
  have hcv := fun (w : World) (g : Nat) => conv_b4 (w := w) (g := g) n hn
  obtain ⟨B, hB⟩ : ∃ B, B = bs (bytes4 n) := ⟨_, rfl⟩
  rw [← hB] at hcv ⊢
  have HCV := Lib.hid hcv
  clear hcv hB
  go_enter Try.func54, Try.ntmps54
  go_wp2_with (first | ((with_reducible refine at_dst (N := 14) rfl ?_); refine wpList_boxS hst 5 (b4C n) 4 4 rfl ?hr ?_; (case hr => first | (go_simp; done) | (go_simp; rfl)); clear hst; intro g1 w1 hst; obtain ⟨hc1, hf1, hl1⟩ := hst.c0) | ((with_reducible refine at_dst (N := 15) rfl ?_); refine wpList_run (v := .string B) rfl (exec_convert rfl rfl (HCV.out _ _ hc1)) ?_))
  go_ret
  exact ⟨rfl, hst.base⟩
def sealS (s : ByteArray) : ByteArray := s ++ bs (bytes4 (sumN s.data.toList))
theorem seal_any (s : ByteArray) (w : World) (hs : s.size ≤ 100000000) :
    Calls Try.prog 31 #[.string s] w fun e w' => e = .returned (.string (sealS s)) ∧ Below w.heap.size w w' := by
  have hst := St.start w
  have k1 := fun w => sum_any s w (by omega)
  have hN := sumN_lt s.data.toList
  have hS : sealS s = s ++ bs (bytes4 (sumN s.data.toList)) := rfl
  obtain ⟨N, hNN⟩ : ∃ N, N = sumN s.data.toList := ⟨_, rfl⟩
  rw [← hNN] at k1 hN hS
  have hz : (bs (bytes4 N)).size = 4 := by rw [bs_size]; rfl
  have k2 := fun w => bytes_any N w hN
  obtain ⟨B, hB⟩ : ∃ B, B = bs (bytes4 N) := ⟨_, rfl⟩
  rw [← hB] at k2 hz hS
  rw [hS]
  have K1 := Lib.hid k1
  have K2 := Lib.hid k2
  clear k1 k2 hNN hS hB
  go_enter Try.func31, Try.ntmps31
  go_wp2_with (first | (go_at_call 55; refine (K1.out _).mono ?_; rintro e w' ⟨rfl, hb⟩; replace hst := hst.below hb; clear hb) | (go_at_call 54; refine (K2.out _).mono ?_; rintro e w' ⟨rfl, hb⟩; replace hst := hst.below hb; clear hb))
  go_ret
  exact ⟨rfl, hst.base⟩
end Go.Proofs.Ytklpamhhbigjfaa
