/- The package wire: AppendNumber, AppendText. -/
import Derived.Test.YtklpamhhbigjfaaDoorVarint
namespace Go.Proofs.YtklpamhhbigjfaaDoor
open Go.RowKit
set_option linter.unusedSimpArgs false
set_option linter.unusedVariables false

def zero10 : Array Value := #[.int .u8 0, .int .u8 0, .int .u8 0, .int .u8 0, .int .u8 0, .int .u8 0, .int .u8 0, .int .u8 0, .int .u8 0, .int .u8 0]
theorem bits_or128_fin : ∀ x : Fin 256, bits BinOp.or IntKind.u8 (x.val : Int) 128 = ((x.val % 128 + 128 : Nat) : Int) := by decide +kernel
theorem bits_or128 (m : Nat) : bits BinOp.or IntKind.u8 ((m : Int) % 256) 128 = ((UInt8.ofNat (m % 128 + 128)).toNat : Int) := by
  have h := bits_or128_fin ⟨m % 256, Nat.mod_lt _ (by omega)⟩
  rw [show (((⟨m % 256, Nat.mod_lt _ (by omega)⟩ : Fin 256).val : Nat) : Int) = (m : Int) % 256 by simp] at h
  rw [h]
  simp only [UInt8.toNat_ofNat']
  omega
theorem cells_snoc {cs : Array Value} {p : List UInt8} {k : Nat} (hs : cs.size = 10) (hp : p.length = k) (h : ∀ j (h : j < p.length), cs[j]? = some (.int .u8 (p[j].toNat : Int))) (hk : k < 10) (b : UInt8) :
    ∀ j (h : j < (p ++ [b]).length), (cs.setIfInBounds k (.int .u8 (b.toNat : Int)))[j]? = some (.int .u8 ((p ++ [b])[j].toNat : Int)) := by
  intro j hj
  by_cases e : j = k
  · subst e
    subst hp
    simp [Array.getElem?_setIfInBounds, hs, hk]
  · have hj' : j < p.length := by simp at hj; omega
    rw [Array.getElem?_setIfInBounds_ne (Ne.symm e), h j hj', List.getElem_append_left hj']
set_option maxHeartbeats 1000000 in
set_option maxRecDepth 100000 in
theorem appendNumber_any (s : ByteArray) (n : Nat) (w : World) (hn : n < 18446744073709551616) (hs : s.size ≤ 4611686018427387904) :
    Calls Tryd.prog 64 #[.string s, .int .u64 n] w fun e w' => e = .returned (.string (s ++ numS n)) ∧ Below w.heap.size w w' := by
  have hst := St.start w
  go_enter Tryd.func64, Tryd.ntmps64
  go_wp2_with (first | ((with_reducible refine at_dst (N := 5) rfl ?_); refine wpList_box hst 94 zero10 rfl ?hr ?_; (case hr => first | (go_simp; done) | (go_simp; rfl)); clear hst; intro g1 w1 hst; obtain ⟨hc1, hf1, hl1⟩ := hst.c0))
  go_loopw [1, 6] (fun t1 t6 wr => ∃ (m k : Nat) (cs : Array Value) (p : List UInt8), t1 = .int .u64 m ∧ t6 = .int .i64 k ∧ k ≤ 9 ∧ m ≤ n ∧ Hid (m * 128 ^ k ≤ n) ∧ Hid (p.length = k) ∧ Hid (p ++ varint m = varint n) ∧ Hid (cs.size = 10) ∧ Hid (∀ j (h : j < p.length), cs[j]? = some (.int .u8 (p[j].toNat : Int))) ∧ St w wr [⟨g1, cs, 94⟩])
    (fun t1 _ _ => (intOf t1).toNat)
  case atStart => exact ⟨n, 0, zero10, [], rfl, rfl, by omega, by omega, by show _ ≤ _; omega, rfl, rfl, rfl, fun j h => absurd h (by simp), hst⟩
  case round =>
    clear hst
    obtain ⟨m, k, cs, p, rfl, rfl, hk, hmn, hpow, hpl, hpv, hcs, hcp, hst⟩ := hrel
    obtain ⟨hc1, hf1, hl1⟩ := hst.c0
    by_cases hm : 128 ≤ m
    · have hk8 := pow128 k m n hpow.out hn hm
      obtain ⟨old, hold⟩ : ∃ old, cs[k]? = some old := ⟨cs[k]'(by rw [hcs.out]; omega), Array.getElem?_eq_getElem _⟩
      have hck := (hc1 k).trans hold
      go_wp2
      go_roundw
      case rel =>
        rw [bits_or128]
        refine ⟨m / 128, k + 1, _, p ++ [UInt8.ofNat (m % 128 + 128)], by go_num, by go_num, by omega, by omega, pow128_next k m n hpow.out, by show _ = _; rw [List.length_append, hpl.out]; rfl, ?_, ?_, ?_, hst.set0 k _⟩
        · show _ = _
          rw [List.append_assoc, ← hpv.out]
          congr 1
          exact (varint_hi hm).symm
        · show _ = _
          rw [Array.size_setIfInBounds]; exact hcs.out
        · exact cells_snoc hcs.out hpl.out hcp.out (by omega) _
      case measure => simp [intOf]; omega
    · obtain ⟨old, hold⟩ : ∃ old, cs[k]? = some old := ⟨cs[k]'(by rw [hcs.out]; omega), Array.getElem?_eq_getElem _⟩
      have hck := (hc1 k).trans hold
      have hcell := cells_snoc hcs.out hpl.out hcp.out (show k < 10 by omega) (UInt8.ofNat m)
      have hvar : p ++ [UInt8.ofNat m] = varint n := by rw [← hpv.out, varint_lo (by omega)]
      rw [hvar] at hcell
      have hlen : (varint n).length = k + 1 := by rw [← hvar, List.length_append, hpl.out]; rfl
      have hmb : ((UInt8.ofNat m).toNat : Int) = (m : Int) := by rw [UInt8.toNat_ofNat']; omega
      rw [hmb] at hcell
      have HM := Lib.hid hmb
      have hcv : ∀ w', St w w' [⟨g1, cs.setIfInBounds k (.int .u8 (m : Int)), 94⟩] → (convert 74 9 (.slice (some ⟨g1, 0, none⟩) (k + 1) 10)).run Tryd.prog w' = .ok (.string (numS n)) w' := by
        intro w' h'
        rw [← hlen]
        refine run_convert_bytes_back w' _ _ 5 ⟨g1, 0, none⟩ 10 (varint n) (Tryd.underlying74) (Tryd.underlying5) (Tryd.underlying9) (fun j hj => ?_)
        have := h'.c0.1 j
        have e : Addr.add ⟨g1, 0, none⟩ j = ⟨g1, j, none⟩ := by cases j <;> simp [Addr.add]
        rw [e]
        exact this.trans (hcell j hj)
      have HCV := Lib.hid hcv
      clear hcell hvar hlen hmb hcv
      have hsz := numS_size hn
      go_wp2_with (first | ((with_reducible refine at_dst (N := 25) rfl ?_); refine wpList_run (v := .slice (some ⟨g1, 0, none⟩) (k + 1) 10) rfl (exec_slice rfl rfl (run_slice_array _ 94 5 10 ⟨g1, 0, none⟩ _ _ (Tryd.underlying94) (fun _ => by kernel_rfl) (by rfl) (by omega) (by omega))) ?_)  | ((with_reducible refine at_dst (N := 26) rfl ?_); refine wpList_run (v := .string (numS n)) rfl (exec_convert rfl rfl (HCV.out _ (hst.set0 k _))) ?_))
      go_ret
      exact ⟨rfl, (hst.set0 k _).base⟩

theorem appendNumber_int (s : ByteArray) (n : Int) (w : World) (h0 : 0 ≤ n) (hn : n < 18446744073709551616) (hs : s.size ≤ 4611686018427387904) :
    Calls Tryd.prog 64 #[.string s, .int .u64 n] w fun e w' => e = .returned (.string (s ++ numS n.toNat)) ∧ Below w.heap.size w w' := by
  obtain ⟨m, rfl⟩ := Int.eq_ofNat_of_zero_le h0
  exact appendNumber_any s m w (by omega) hs
theorem appendText_any (s t : ByteArray) (w : World) (ht : t.size ≤ 140737488355328) (hs : s.size ≤ 1000000000000000000) :
    Calls Tryd.prog 65 #[.string s, .string t] w fun e w' => e = .returned (.string (s ++ txtS t)) ∧ Below w.heap.size w w' := by
  have h1 := numS_size (n := t.size) (by omega)
  have h2 : (s ++ numS t.size).size = s.size + (numS t.size).size := ByteArray.size_append
  go_enter Tryd.func65, Tryd.ntmps65
  go_wp2_with (first | (go_at_call 64; refine (appendNumber_any s t.size _ (by omega) (by omega)).mono ?_; rintro e w' ⟨rfl, hb⟩))
  go_ret
  exact ⟨ret_str (by rw [txtS, ByteArray.append_assoc]), hb⟩
end Go.Proofs.YtklpamhhbigjfaaDoor
