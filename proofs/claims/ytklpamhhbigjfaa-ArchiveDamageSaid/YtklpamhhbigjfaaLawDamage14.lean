/- ArchiveDamage: the walk of the law. -/
import Derived.Test.YtklpamhhbigjfaaAwake14
import Derived.Test.YtklpamhhbigjfaaXor02
namespace Go.Proofs.Ytklpamhhbigjfaa
open Go.RowKit
set_option linter.unusedSimpArgs false
set_option linter.unusedVariables false

set_option maxHeartbeats 1000000 in
set_option maxRecDepth 100000 in
theorem lawDamage_walk (n : Nat) (a b : Bool) (d : ByteArray) (k v : Nat) (w : World) (hn : n ≤ 65535) (hd : d.size ≤ 140737488351232) (hk : k ≤ 65535) (hv : v < 4294967296) :
    Calls Try.prog 4 #[.int .u16 (n : Nat), .bool a, .bool b, .string d, .int .u16 (k : Nat), .int .u32 (v : Nat)] w fun e w' => e = .returned (.bool true) ∧ Below w.heap.size w w' := by
  have hb0 : Below w.heap.size w w := Below.refl _ _
  by_cases hz : 1 ≤ d.size ∧ d.size ≤ 56 ∧ v ≠ 0
  · obtain ⟨z1, z2, z3⟩ := hz
    have hok : FrOk (n : Int) d := ⟨by omega, by omega, z1, z2⟩
    obtain ⟨F, hF⟩ : ∃ F, F = frS (n : Int) a b d := ⟨_, rfl⟩
    have hFz : F.size = 64 := by rw [hF]; exact frS_size hok
    have r1 := rf_fr (a := a) (b := b) hok
    have r2 := rf_damage (a := a) (b := b) hok (k % 61) v hv z3 (by omega)
    have k1 := fun w => frame_any n a b d w (by omega)
    rw [← hF] at k1 r1 r2
    have hV : rfV F = .tuple #[.int .i64 n, .bool a, .bool b, .string d, .int .i64 0] := by
      obtain ⟨q1, q2, q3, q4, q5⟩ := r1
      rw [rfV, if_pos q1, q2, q3, q4, q5]
    have k2 := fun w => readFrame_any F w (by omega)
    rw [hV] at k2
    have b4z : (bs (bytes4 v)).size = 4 := rfl
    have k3 := fun w => bytesR_any v w hv
    have k4 := fun w => xor_any F (bs (bytes4 v)) (k % 61) w (by rw [b4z]; omega) (by omega)
    rw [bs_toList] at k4
    obtain ⟨G, hG⟩ : ∃ G, G = bs (xorAt F.data.toList (k % 61) (bytes4 v)) := ⟨_, rfl⟩
    rw [← hG] at k4 r2
    have hGz : G.size = 64 := by
      rw [hG, bs_size, xorAt_len _ _ _ (by rw [show (bytes4 v).length = 4 from rfl]; simp; omega)]
      simp; omega
    have k5 := fun w => readFrame_any G w (by omega)
    rw [rfV, if_neg r2] at k5
    obtain ⟨B4, hB4⟩ : ∃ B4, B4 = bs (bytes4 v) := ⟨_, rfl⟩
    rw [← hB4] at k3 k4
    have hmod : ((k : Int)).tmod 61 = ((k % 61 : Nat) : Int) := by
      rw [Int.tmod_eq_emod_of_nonneg (by omega)]
      omega
    obtain ⟨km, hkm⟩ : ∃ km, km = k % 61 := ⟨_, rfl⟩
    rw [← hkm] at k4 hmod
    have K1 := Lib.hid k1
    have K2 := Lib.hid k2
    have K3 := Lib.hid k3
    have K4 := Lib.hid k4
    have K5 := Lib.hid k5
    have z3' : ((v : Int) == 0) = false := by simp; omega
    clear k1 k2 k3 k4 k5 hF hV hG hGz r1 r2 b4z hB4 hkm hok
    go_enter Try.func4, Try.ntmps4
    go_wp2_with (first | (go_at_call 10; refine (awake14_any _).mono ?_; rintro e w' ⟨rfl, hb⟩; replace hb0 := below_next hb0 hb; clear hb)  | (go_at_call 13; refine (K1.out _).mono ?_; rintro e w' ⟨rfl, hb⟩; replace hb0 := below_next hb0 hb; clear hb)  | (go_at_call 16; refine (K3.out _).mono ?_; rintro e w' ⟨rfl, hb⟩; replace hb0 := below_next hb0 hb; clear hb)  | (go_at_call 15; refine (K4.out _).mono ?_; rintro e w' ⟨rfl, hb⟩; replace hb0 := below_next hb0 hb; clear hb)  | (go_at_call 11; refine (K2.out _).mono ?_; clear K2; rintro e w' ⟨rfl, hb⟩; replace hb0 := below_next hb0 hb; clear hb)  | (go_at_call 11; refine (K5.out _).mono ?_; rintro e w' ⟨rfl, hb⟩; replace hb0 := below_next hb0 hb; clear hb))
    all_goals (go_ret; exact ⟨ret_bool (by simp), hb0⟩)
  · by_cases hv0 : v = 0
    · subst hv0
      go_enter Try.func4, Try.ntmps4
      go_wp2_with (first | (go_at_call 10; refine (awake14_any _).mono ?_; rintro e w' ⟨rfl, hb⟩; replace hb0 := below_next hb0 hb; clear hb))
      all_goals (go_ret; exact ⟨rfl, hb0⟩)
    have z3' : ((v : Int) == 0) = false := by simp; omega
    have hz2 : d.size < 1 ∨ 56 < d.size := by omega
    clear hz
    go_enter Try.func4, Try.ntmps4
    go_wp2_with (first | (go_at_call 10; refine (awake14_any _).mono ?_; rintro e w' ⟨rfl, hb⟩; replace hb0 := below_next hb0 hb; clear hb))
    all_goals (go_ret; exact ⟨rfl, hb0⟩)
theorem wf_u16 {n : Int} (h : (Lit.int .u16 n).wf = true) : ∃ m : Nat, n = (m : Int) ∧ m ≤ 65535 := by
  have h1 : 0 ≤ n ∧ n ≤ 65535 := by
    simp only [Lit.wf, Bool.and_eq_true, decide_eq_true_eq] at h
    exact h
  exact ⟨n.toNat, by omega, by omega⟩
theorem wf_u32 {n : Int} (h : (Lit.int .u32 n).wf = true) : ∃ m : Nat, n = (m : Int) ∧ m < 4294967296 := by
  have h1 : 0 ≤ n ∧ n ≤ 4294967295 := by
    simp only [Lit.wf, Bool.and_eq_true, decide_eq_true_eq] at h
    exact h
  exact ⟨n.toNat, by omega, by omega⟩
theorem lawDamage_int (n : Int) (a b : Bool) (d : ByteArray) (k v : Int) (w : World) (h0 : (Lit.int .u16 n).wf = true) (hd : d.size ≤ 140737488351232) (h4 : (Lit.int .u16 k).wf = true) (h5 : (Lit.int .u32 v).wf = true) :
    Calls Try.prog 4 #[.int .u16 n, .bool a, .bool b, .string d, .int .u16 k, .int .u32 v] w fun e w' => e = .returned (.bool true) ∧ Below w.heap.size w w' := by
  obtain ⟨n, rfl, q0⟩ := wf_u16 h0
  obtain ⟨k, rfl, q4⟩ := wf_u16 h4
  obtain ⟨v, rfl, q5⟩ := wf_u32 h5
  exact lawDamage_walk n a b d k v w q0 hd q4 q5
end Go.Proofs.Ytklpamhhbigjfaa
