/- The package wire: the reader: Count, Text, End. -/
import Derived.Test.YtklpamhhbigjfaaDoorReader
namespace Go.Proofs.YtklpamhhbigjfaaDoor
open Go.RowKit
set_option linter.unusedSimpArgs false
set_option linter.unusedVariables false

/-- a reader: what is left, the error -/
abbrev RS := ByteArray × Int
abbrev RS.cs (r : RS) : Array Value := rdC r.1 r.2
def rCnt (most : Int) (r : RS) : Nat × RS :=
  if r.2 ≠ 0 then (0, r) else if decK r.1 = 0 then (0, (⟨#[]⟩, 11)) else if most < (decN r.1 : Int) then (0, (⟨#[]⟩, 8)) else (decN r.1, (r.1.extract (decK r.1) r.1.size, 0))
def rTxt (most : Int) (r : RS) : ByteArray × RS :=
  if (rCnt most r).2.2 ≠ 0 then (⟨#[]⟩, (rCnt most r).2) else if (rCnt most r).2.1.size < (rCnt most r).1 then (⟨#[]⟩, (⟨#[]⟩, 11))
  else ((rCnt most r).2.1.extract 0 (rCnt most r).1, ((rCnt most r).2.1.extract (rCnt most r).1 (rCnt most r).2.1.size, 0))
def rEnd (r : RS) : Int := if r.2 = 0 ∧ r.1.size ≠ 0 then 11 else r.2
theorem rCnt_size (most : Int) (r : RS) : (rCnt most r).2.1.size ≤ r.1.size := by
  unfold rCnt
  split
  · exact Nat.le_refl _
  split
  · exact Nat.zero_le _
  split
  · exact Nat.zero_le _
  · simp only [ByteArray.size_extract]; omega
theorem rTxt_size (most : Int) (r : RS) : (rTxt most r).2.1.size ≤ r.1.size ∧ (rTxt most r).1.size ≤ r.1.size := by
  have h := rCnt_size most r
  unfold rTxt
  split
  · exact ⟨h, Nat.zero_le _⟩
  split
  · exact ⟨Nat.zero_le _, Nat.zero_le _⟩
  · simp only [ByteArray.size_extract]; omega
theorem rCnt_le {most : Int} (h : 0 ≤ most) (r : RS) : ((rCnt most r).1 : Int) ≤ most := by
  unfold rCnt
  split
  · exact h
  split
  · exact h
  split
  · exact h
  · omega

section
variable {w0 w : World} {L1 L2 : List BK} {g : Nat}

set_option maxHeartbeats 1000000 in
theorem count_rd (r : RS) (most : Int) (h0 : 0 ≤ most) (h1 : most ≤ 4611686018427387904) (hs : r.1.size ≤ 140737488355328) (hst : St w0 w (L1 ++ ⟨g, r.cs, 76⟩ :: L2)) :
    Calls Tryd.prog 42 #[.pointer (some ⟨g, 0, none⟩), .int .i64 most] w fun en w' => en = .returned (.int .i64 (rCnt most r).1) ∧ St w0 w' (L1 ++ ⟨g, (rCnt most r).2.cs, 76⟩ :: L2) := by
  obtain ⟨s, e⟩ := r
  by_cases he : e = 0
  · subst he
    by_cases hk : decK s = 0
    · have e1 : rCnt most (s, 0) = (0, (⟨#[]⟩, 11)) := by simp [rCnt, hk]
      have e2 : rdNum s 0 = rdC ⟨#[]⟩ 11 := by simp [rdNum, numRest, numErr, hk]
      have k1 := fun w hst => number_rd (w0 := w0) (w := w) (L1 := L1) (L2 := L2) (g := g) (s := s) (e := 0) hs hst
      rw [if_pos rfl, e2] at k1
      rw [e1]
      have K1 := Lib.hid k1
      clear e1 e2 k1
      go_enter Tryd.func42, Tryd.ntmps42
      go_wp2_with (first | (go_at_call 59; refine (K1.out _ hst).mono ?_; rintro e w' ⟨rfl, hst2⟩; obtain ⟨hc, hf, hl⟩ := hst2.cM; dsimp only at hc hf hl))
      go_ret
      exact ⟨rfl, hst2⟩
    · have e2 : rdNum s 0 = rdC (s.extract (decK s) s.size) 0 := by simp [rdNum, numRest, numErr, hk]
      have k1 := fun w hst => number_rd (w0 := w0) (w := w) (L1 := L1) (L2 := L2) (g := g) (s := s) (e := 0) hs hst
      rw [if_pos rfl, e2] at k1
      have K1 := Lib.hid k1
      clear e2 k1
      by_cases hm : most < (decN s : Int)
      · have e1 : rCnt most (s, 0) = (0, (⟨#[]⟩, 8)) := by simp [rCnt, hk, hm]
        rw [e1]
        clear e1
        go_enter Tryd.func42, Tryd.ntmps42
        go_wp2_with (first | (go_at_call 59; refine (K1.out _ hst).mono ?_; rintro e w' ⟨rfl, hst2⟩; obtain ⟨hc, hf, hl⟩ := hst2.cM; dsimp only at hc hf hl)  | (go_at_call 60; refine (fail_rd 8 hst2).mono ?_; rintro e w' ⟨rfl, hst3⟩))
        go_ret
        exact ⟨rfl, hst3⟩
      · have e1 : rCnt most (s, 0) = (decN s, (s.extract (decK s) s.size, 0)) := by simp [rCnt, hk, hm]
        rw [e1]
        clear e1
        go_enter Tryd.func42, Tryd.ntmps42
        go_wp2_with (first | (go_at_call 59; refine (K1.out _ hst).mono ?_; rintro e w' ⟨rfl, hst2⟩; obtain ⟨hc, hf, hl⟩ := hst2.cM; dsimp only at hc hf hl))
        go_ret
        exact ⟨rfl, hst2⟩
  · have e1 : rCnt most (s, e) = (0, (s, e)) := by simp [rCnt, he]
    have e2 : rdNum s e = rdC s e := if_neg he
    have k1 := fun w hst => number_rd (w0 := w0) (w := w) (L1 := L1) (L2 := L2) (g := g) (s := s) (e := e) hs hst
    rw [if_neg he, e2] at k1
    rw [e1]
    have K1 := Lib.hid k1
    have heb : (e != 0) = true := by simpa using he
    clear e1 e2 k1 he
    go_enter Tryd.func42, Tryd.ntmps42
    go_wp2_with (first | (go_at_call 59; refine (K1.out _ hst).mono ?_; rintro e w' ⟨rfl, hst2⟩; obtain ⟨hc, hf, hl⟩ := hst2.cM; dsimp only at hc hf hl))
    go_ret
    exact ⟨rfl, hst2⟩

set_option maxHeartbeats 1000000 in
theorem text_rd (r : RS) (most : Int) (h0 : 0 ≤ most) (h1 : most ≤ 4611686018427387904) (hs : r.1.size ≤ 140737488355328) (hst : St w0 w (L1 ++ ⟨g, r.cs, 76⟩ :: L2)) :
    Calls Tryd.prog 43 #[.pointer (some ⟨g, 0, none⟩), .int .i64 most] w fun en w' => en = .returned (.string (rTxt most r).1) ∧ St w0 w' (L1 ++ ⟨g, (rTxt most r).2.cs, 76⟩ :: L2) := by
  have k1 := fun w hst => count_rd (w0 := w0) (w := w) (L1 := L1) (L2 := L2) (g := g) r most h0 h1 hs hst
  have hz := rCnt_size most r
  have hle := rCnt_le h0 r
  obtain ⟨n, s, e, hR⟩ : ∃ n s e, rCnt most r = (n, (s, e)) := ⟨_, _, _, rfl⟩
  rw [hR] at k1 hz hle
  dsimp only at hz hle k1
  have K1 := Lib.hid k1
  have HR := Lib.hid hR
  clear k1 hR
  by_cases he : e = 0
  · subst he
    by_cases hn : s.size < n
    · have e1 : rTxt most r = (⟨#[]⟩, (⟨#[]⟩, 11)) := by simp [rTxt, HR.out, hn]
      rw [e1]
      clear e1
      go_enter Tryd.func43, Tryd.ntmps43
      go_wp2_with (first | (go_at_call 42; refine (K1.out _ hst).mono ?_; rintro e w' ⟨rfl, hst2⟩; obtain ⟨hc, hf, hl⟩ := hst2.cM; dsimp only at hc hf hl)  | (go_at_call 60; refine (fail_rd 11 hst2).mono ?_; rintro e w' ⟨rfl, hst3⟩))
      go_ret
      exact ⟨rfl, hst3⟩
    · have e1 : rTxt most r = (s.extract 0 n, (s.extract n s.size, 0)) := by simp [rTxt, HR.out, hn]
      rw [e1]
      clear e1
      go_enter Tryd.func43, Tryd.ntmps43
      go_wp2_with (first | (go_at_call 42; refine (K1.out _ hst).mono ?_; rintro e w' ⟨rfl, hst2⟩; obtain ⟨hc, hf, hl⟩ := hst2.cM; dsimp only at hc hf hl))
      go_ret
      exact ⟨rfl, hst2.setM 0 _⟩
  · have e1 : rTxt most r = (⟨#[]⟩, (s, e)) := by simp [rTxt, HR.out, he]
    have heb : (e != 0) = true := by simpa using he
    rw [e1]
    clear e1 he
    go_enter Tryd.func43, Tryd.ntmps43
    go_wp2_with (first | (go_at_call 42; refine (K1.out _ hst).mono ?_; rintro e w' ⟨rfl, hst2⟩; obtain ⟨hc, hf, hl⟩ := hst2.cM; dsimp only at hc hf hl))
    go_ret
    exact ⟨rfl, hst2⟩

theorem end_rd (r : RS) (hst : St w0 w (L1 ++ ⟨g, r.cs, 76⟩ :: L2)) :
    Calls Tryd.prog 44 #[.pointer (some ⟨g, 0, none⟩)] w fun en w' => en = .returned (.int .i64 (rEnd r)) ∧ w = w' := by
  obtain ⟨s, e⟩ := r
  obtain ⟨hc, hf, hl⟩ := hst.cM
  dsimp only at hc hf hl
  by_cases he : e = 0
  · subst he
    by_cases hz : s.size = 0
    · have e1 : rEnd (s, 0) = 0 := by simp [rEnd, hz]
      rw [e1]
      have hz2 : s.toList.isEmpty = true := by rw [List.isEmpty_iff, ByteArray.toList_eq]; apply List.length_eq_zero_iff.1; simpa using hz
      clear e1 hz
      go_enter Tryd.func44, Tryd.ntmps44
      go_wp2_with go_in
      go_ret
      exact ⟨rfl, rfl⟩
    · have e1 : rEnd (s, 0) = 11 := by simp [rEnd, hz]
      rw [e1]
      have hz2 : s.toList.isEmpty = false := by
        rw [ByteArray.toList_eq, List.isEmpty_eq_false_iff]
        intro h
        have : s.data.toList.length = 0 := by rw [h]; rfl
        exact hz (by simpa using this)
      clear e1 hz
      go_enter Tryd.func44, Tryd.ntmps44
      go_wp2_with go_in
      go_ret
      exact ⟨rfl, rfl⟩
  · have e1 : rEnd (s, e) = e := by simp [rEnd, he]
    rw [e1]
    have heb : (e == 0) = false := by simpa using he
    clear e1 he
    go_enter Tryd.func44, Tryd.ntmps44
    go_wp2_with go_in
    go_ret
    exact ⟨rfl, rfl⟩
end
end Go.Proofs.YtklpamhhbigjfaaDoor
