/- Chapter 14: ReadFrame, of the program and of the reference. -/
import Derived.Test.YtklpamhhbigjfaaFrameR14
import Derived.BigQuiet
namespace Go.Proofs.Ytklpamhhbigjfaa
open Go.RowKit
set_option linter.unusedSimpArgs false
set_option linter.unusedVariables false

theorem toList_iff (a b : ByteArray) : a.toList = b.toList ↔ a = b := by
  constructor
  · intro h
    rw [ByteArray.toList_eq, ByteArray.toList_eq] at h
    obtain ⟨⟨x⟩⟩ := a
    obtain ⟨⟨y⟩⟩ := b
    simp_all
  · rintro rfl; rfl
/-- the byte at a place, 0 behind the end -/
def byB (s : ByteArray) (i : Nat) : Nat := (s.data.toList.getD i 0).toNat
theorem byB_at {s : ByteArray} {i : Nat} (h : i < s.size) : byB s i = (s[i]).toNat := by
  have : i < s.data.toList.length := by simpa using h
  have e : s.data.toList.getD i 0 = s.data.toList[i] := by rw [List.getD, List.getElem?_eq_getElem this]; rfl
  rw [byB, e]
  simp
  rfl
def rfN (s : ByteArray) : Nat := byB s 0 + 256 * byB s 1
def rfA (s : ByteArray) : Bool := decide (byB s 2 % 2 = 1)
def rfB (s : ByteArray) : Bool := decide (2 ≤ byB s 2)
def rfD (s : ByteArray) : ByteArray := s.extract 4 (4 + byB s 3)
def RfShape (s : ByteArray) : Prop := s.size = 64 ∧ byB s 2 ≤ 3 ∧ 1 ≤ byB s 3 ∧ byB s 3 ≤ 56
instance (s : ByteArray) : Decidable (RfShape s) := by unfold RfShape; infer_instance
def RfOk (s : ByteArray) : Prop := RfShape s ∧ frS (rfN s) (rfA s) (rfB s) (rfD s) = s
instance (s : ByteArray) : Decidable (RfOk s) := by unfold RfOk; infer_instance
def rfV (s : ByteArray) : Value := if RfOk s then .tuple #[.int .i64 (rfN s : Nat), .bool (rfA s), .bool (rfB s), .string (rfD s), .int .i64 0] else .tuple #[.int .i64 0, .bool false, .bool false, .string ⟨#[]⟩, .int .i64 11]

theorem and_bits_fin : ∀ x : Fin 4, bits BinOp.and IntKind.u8 (x.val : Int) 1 = ((x.val % 2 : Nat) : Int) ∧ bits BinOp.and IntKind.u8 (x.val : Int) 2 = (if 2 ≤ x.val then 2 else 0 : Int) := by decide +kernel
theorem or_bytes (x y : Nat) (hx : x < 256) (hy : y < 256) : bits BinOp.or IntKind.i64 (x : Int) ((y : Int) * 256) = ((x + 256 * y : Nat) : Int) := by
  have h1 : ∀ z : Nat, z < 9223372036854775808 → (BitVec.ofInt 64 (z : Int)).toNat = z := fun z hz => by
    rw [BitVec.toNat_ofInt]; omega
  have h2 : x ||| y * 256 = x + 256 * y := by
    have := Nat.two_pow_add_eq_or_of_lt (i := 8) (show x < 2 ^ 8 from hx) y
    rw [Nat.or_comm, Nat.mul_comm y, show (256 : Nat) = 2 ^ 8 from rfl, ← this, Nat.add_comm]
  have h3 : ((y : Int) * 256) = ((y * 256 : Nat) : Int) := by omega
  rw [h3]
  show IntKind.i64.wrap ((BitVec.ofInt 64 (x : Int) ||| BitVec.ofInt 64 ((y * 256 : Nat) : Int)).toNat : Int) = _
  rw [BitVec.toNat_or, h1 x (by omega), h1 (y * 256) (by omega), h2, IntKind.wrap_i64]
  omega

set_option maxHeartbeats 1000000 in
set_option maxRecDepth 100000 in
theorem readFrame_any (s : ByteArray) (w : World) (hs : s.size ≤ 140737488355328) :
    Calls Try.prog 11 #[.string s] w fun e w' => e = .returned (rfV s) ∧ Below w.heap.size w w' := by
  have hb0 : Below w.heap.size w w := Below.refl _ _
  by_cases hz : s.size = 64
  · have q0 : (s[0]'(by omega)).toNat = byB s 0 := (byB_at (by omega)).symm
    have q1 : (s[1]'(by omega)).toNat = byB s 1 := (byB_at (by omega)).symm
    have q2 : (s[2]'(by omega)).toNat = byB s 2 := (byB_at (by omega)).symm
    have q3 : (s[3]'(by omega)).toNat = byB s 3 := (byB_at (by omega)).symm
    have l0 := (s[0]'(by omega)).toNat_lt
    have l1 := (s[1]'(by omega)).toNat_lt
    have l3 := (s[3]'(by omega)).toNat_lt
    rw [q0] at l0
    rw [q1] at l1
    rw [q3] at l3
    by_cases hsh : RfShape s
    · obtain ⟨_, h2, h3, h4⟩ := hsh
      obtain ⟨b0, e0⟩ : ∃ b, b = byB s 0 := ⟨_, rfl⟩
      obtain ⟨b1, e1⟩ : ∃ b, b = byB s 1 := ⟨_, rfl⟩
      obtain ⟨b2, e2⟩ : ∃ b, b = byB s 2 := ⟨_, rfl⟩
      obtain ⟨b3, e3⟩ : ∃ b, b = byB s 3 := ⟨_, rfl⟩
      rw [← e0] at q0 l0
      rw [← e1] at q1 l1
      rw [← e2] at q2 h2
      rw [← e3] at q3 l3 h3 h4
      have HE := Lib.hid (And.intro e0 (And.intro e1 (And.intro e2 e3)))
      clear e0 e1 e2 e3
      obtain ⟨a1, a2⟩ := and_bits_fin ⟨b2, by omega⟩
      simp only at a1 a2
      have ho := or_bytes b0 b1 (by omega) (by omega)
      obtain ⟨N, hN⟩ : ∃ N, N = b0 + 256 * b1 := ⟨_, rfl⟩
      rw [← hN] at ho
      have eN : rfN s = N := by rw [rfN, ← HE.out.1, ← HE.out.2.1, hN]
      have hNl : N < 65536 := by omega
      have eA : rfA s = ((b2 : Int) % 2 == 1) := by
        rw [rfA, ← HE.out.2.2.1, Bool.eq_iff_iff]; simp only [decide_eq_true_eq, beq_iff_eq]; omega
      have eB : rfB s = ((if 2 ≤ b2 then (2 : Int) else 0) == 2) := by
        rw [rfB, ← HE.out.2.2.1]
        by_cases h : 2 ≤ b2
        · rw [if_pos h, decide_eq_true h]; rfl
        · rw [if_neg h, decide_eq_false h]; rfl
      obtain ⟨A, hA⟩ : ∃ A, A = rfA s := ⟨_, rfl⟩
      obtain ⟨B, hB⟩ : ∃ B, B = rfB s := ⟨_, rfl⟩
      obtain ⟨D, hD⟩ : ∃ D, D = rfD s := ⟨_, rfl⟩
      have eD : s.extract 4 (4 + b3) = D := by rw [hD, rfD, ← HE.out.2.2.2]
      have hDs : D.size ≤ 64 := by rw [← eD, ByteArray.size_extract]; omega
      rw [← hA] at eA
      rw [← hB] at eB
      obtain ⟨B1, hB1⟩ : ∃ B1, B1 = (if 2 ≤ b2 then (2 : Int) else 0) := ⟨_, rfl⟩
      rw [← hB1] at a2 eB
      have eA2 := eA.symm
      have eB2 := eB.symm
      have k1 := fun w => frame_any N A B D w (by omega)
      obtain ⟨F, hF⟩ : ∃ F, F = frS N A B D := ⟨_, rfl⟩
      rw [← hF] at k1
      have K1 := Lib.hid k1
      have hsh2 : RfShape s := ⟨hz, by rw [← HE.out.2.2.1]; exact h2, by rw [← HE.out.2.2.2]; exact h3, by rw [← HE.out.2.2.2]; exact h4⟩
      have hrf : RfOk s ↔ F = s := by rw [RfOk, eN, ← hA, ← hB, ← hD, ← hF]; exact ⟨fun h => h.2, fun h => ⟨hsh2, h⟩⟩
      have hV : rfV s = if F = s then .tuple #[.int .i64 (N : Nat), .bool A, .bool B, .string D, .int .i64 0] else .tuple #[.int .i64 0, .bool false, .bool false, .string ⟨#[]⟩, .int .i64 11] := by
        rw [rfV, eN, ← hA, ← hB, ← hD]
        by_cases h : F = s
        · rw [if_pos h, if_pos (hrf.2 h)]
        · rw [if_neg h, if_neg (fun h' => h (hrf.1 h'))]
      rw [hV]
      clear hB1 hN eN eA eB hA hB hD k1 hF hsh2 hrf hV
      by_cases hfs : F = s
      · rw [if_pos hfs]
        rw [hfs] at K1
        clear hfs
        go_enter Try.func11, Try.ntmps11
        go_wp2
        go_quiet (fail)
        have hb1 : Below w.heap.size w (w.drewN nq) := below_drewN hb0 nq
        go_wp2_with (go_at_call 13; refine (K1.out _).mono ?_; rintro e w' ⟨rfl, hb⟩; have hb2 := below_next hb1 hb)
        exact bodyPost_ret (v := .tuple #[.int .i64 (N : Nat), .bool A, .bool B, .string D, .int .i64 0]) (by simp [results, Try.results11, go_sem]) rfl ⟨rfl, hb2⟩
      · rw [if_neg hfs]
        have hfl : (F.toList == s.toList) = false := beq_eq_false_iff_ne.2 fun h => hfs ((toList_iff _ _).1 h)
        go_enter Try.func11, Try.ntmps11
        go_wp2
        go_quiet (fail)
        have hb1 : Below w.heap.size w (w.drewN nq) := below_drewN hb0 nq
        go_wp2_with (go_at_call 13; refine (K1.out _).mono ?_; rintro e w' ⟨rfl, hb⟩; have hb2 := below_next hb1 hb)
        exact bodyPost_ret (v := .tuple #[.int .i64 0, .bool false, .bool false, .string ⟨#[]⟩, .int .i64 11]) (by simp [results, Try.results11, go_sem]) rfl ⟨rfl, hb2⟩
    · have hV : rfV s = .tuple #[.int .i64 0, .bool false, .bool false, .string ⟨#[]⟩, .int .i64 11] := if_neg (fun h => hsh h.1)
      rw [hV]
      have hsh2 : ¬ (byB s 2 ≤ 3 ∧ 1 ≤ byB s 3 ∧ byB s 3 ≤ 56) := fun h => hsh ⟨hz, h⟩
      clear hV hsh
      obtain ⟨b2, e2⟩ : ∃ b, b = byB s 2 := ⟨_, rfl⟩
      obtain ⟨b3, e3⟩ : ∃ b, b = byB s 3 := ⟨_, rfl⟩
      rw [← e2] at q2 hsh2
      rw [← e3] at q3 l3 hsh2
      clear e2 e3
      go_enter Try.func11, Try.ntmps11
      go_wp2
      all_goals exact bodyPost_ret (v := .tuple #[.int .i64 0, .bool false, .bool false, .string ⟨#[]⟩, .int .i64 11]) (by simp [results, Try.results11, go_sem]) rfl ⟨rfl, hb0⟩
  · have hV : rfV s = .tuple #[.int .i64 0, .bool false, .bool false, .string ⟨#[]⟩, .int .i64 11] := if_neg (fun h => hz h.1.1)
    rw [hV]
    clear hV
    go_enter Try.func11, Try.ntmps11
    go_wp2
    exact bodyPost_ret (v := .tuple #[.int .i64 0, .bool false, .bool false, .string ⟨#[]⟩, .int .i64 11]) (by simp [results, Try.results11, go_sem]) rfl ⟨rfl, hb0⟩
end Go.Proofs.Ytklpamhhbigjfaa
