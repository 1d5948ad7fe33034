/- AlternateFits: the plain law. -/
import Derived.Test.YtcdlcdibcekahaaSpecDesc
namespace Go.Proofs.Ytcdlcdibcekahaa
open Go.RowKit
set_option linter.unusedSimpArgs false
set_option linter.unusedVariables false

/-- the interval that is found is valid, at least the first, and none before it was -/
theorem ivFrom_some {mk : Int → DS} : ∀ (n : Nat) (iv v : Int), 1 ≤ iv → ivFrom mk n iv = some v → (mk v).kvalid = true ∧ iv ≤ v ∧ v ≤ 512 ∧ (v = iv ∨ (mk (v / 2)).kvalid = false)
  | 0, _, _, _, h => by simp [ivFrom] at h
  | n + 1, iv, v, h0, h => by
    unfold ivFrom at h
    split at h
    · cases h
    · rename_i h1
      split at h
      · rename_i h2
        cases h
        exact ⟨h2, by omega, by omega, Or.inl rfl⟩
      · rename_i h2
        obtain ⟨a, b, c, d⟩ := ivFrom_some n (iv * 2) v (by omega) h
        refine ⟨a, by omega, c, Or.inr ?_⟩
        rcases d with rfl | d
        · rw [show iv * 2 / 2 = iv by omega]
          simpa using h2
        · exact d

theorem descE_cases (b : DS) (id at_ len : Int) (u : Bool) : (descE b id at_ len u = 0 ∧ DescOk b id at_ len ∧ ∃ iv, descIv b id at_ len u = some iv ∧ descV b id at_ len u = mkAlt b id at_ len u iv) ∨ (descV b id at_ len u = zDS ∧ (descE b id at_ len u = 1 ∨ descE b id at_ len u = 8)) := by
  by_cases h : DescOk b id at_ len
  · cases hi : descIv b id at_ len u with
    | some iv => exact Or.inl ⟨by simp [descE, h, hi], h, iv, rfl, by simp [descV, h, hi]⟩
    | none => exact Or.inr ⟨by simp [descV, h, hi], Or.inr (by simp [descE, h, hi])⟩
  · exact Or.inr ⟨by simp [descV, h], Or.inl (by simp [descE, h])⟩

theorem fits_plain {b : DS} {id at_ len iv : Int} {u : Bool} (h : DescOk b id at_ len) (hi : descIv b id at_ len u = some iv) :
    altOf b (mkAlt b id at_ len u iv) = true ∧ (mkAlt b id at_ len u iv).kvalid = true ∧ b.intv ≤ iv ∧ (128 ≤ iv ∧ iv ≤ 512) ∧ (iv ≠ b.intv → altOf b (mkAlt b id at_ len u (iv / 2)) = false) := by
  have hb := h.1.1.bounds
  obtain ⟨a1, a2, a3, a4⟩ := ivFrom_some 4 b.intv iv (by omega) hi
  refine ⟨?_, a1, a2, ⟨by omega, a3⟩, ?_⟩
  · rw [altOf_iff]
    obtain ⟨q1, q2, q3, q4, q5, q6, q7⟩ := h
    refine ⟨q1, rfl, ⟨(DS.kvalid_iff _).1 a1, rfl, q2, q1.2.1, ?_, ?_, rfl, rfl⟩, rfl⟩
    · show b.id ≠ id
      omega
    · show 1 ≤ len ∧ 0 ≤ at_ ∧ len ≤ b.len ∧ at_ ≤ b.len - len
      omega
  · intro hne
    rcases a4 with rfl | a4
    · exact absurd rfl hne
    · cases hc : altOf b (mkAlt b id at_ len u (iv / 2)) with
      | false => rfl
      | true =>
        have := (DS.kvalid_iff _).2 ((altOf_iff _ _).1 hc).2.2.1.1
        rw [a4] at this
        cases this
end Go.Proofs.Ytcdlcdibcekahaa
