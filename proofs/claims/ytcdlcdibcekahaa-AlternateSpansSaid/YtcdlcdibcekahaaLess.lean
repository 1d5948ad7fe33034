/- Plain laws on the order of strings. -/
import Derived.Test.YtcdlcdibcekahaaKit
import Derived.Sort.Walk0
namespace Go.Proofs.Ytcdlcdibcekahaa

theorem bl_self : ∀ l : List UInt8, Op.bytesLess l l = false
  | [] => rfl
  | a :: l => by simp [Op.bytesLess, bl_self l]
theorem bl_app : ∀ (p x y : List UInt8), Op.bytesLess (p ++ x) (p ++ y) = Op.bytesLess x y
  | [], _, _ => rfl
  | a :: p, x, y => by simp [Op.bytesLess, bl_app p x y]
theorem bl_pre : ∀ (p x : List UInt8), Op.bytesLess (p ++ x) p = false
  | [], x => by cases x <;> rfl
  | a :: p, x => by simp [Op.bytesLess, bl_pre p x]
theorem bl_len : ∀ (a k b c : List UInt8), a.length = k.length → a ≠ k → Op.bytesLess (a ++ b) (k ++ c) = Op.bytesLess a k
  | [], [], _, _, _, h => absurd rfl h
  | x :: a, y :: k, b, c, hl, h => by
    simp only [List.cons_append, Op.bytesLess]
    by_cases e : x = y
    · subst e
      rw [bl_len a k b c (by simpa using hl) (fun e => h (by rw [e]))]
    · have : (x == y) = false := by simpa using e
      simp [this]
  | [], _ :: _, _, _, hl, _ => by simp at hl
  | _ :: _, [], _, _, hl, _ => by simp at hl
theorem bl_asymm : ∀ (a k : List UInt8), Op.bytesLess a k = true → Op.bytesLess k a = false
  | _, [], h => by simp [Op.bytesLess] at h
  | [], y :: k, _ => rfl
  | x :: a, y :: k, h => by
    simp only [Op.bytesLess, Bool.or_eq_true, decide_eq_true_eq, Bool.and_eq_true, beq_iff_eq] at h
    simp only [Op.bytesLess, Bool.or_eq_false_iff, decide_eq_false_iff_not, Bool.and_eq_false_iff]
    rcases h with h | ⟨h1, h2⟩
    · refine ⟨fun h' => absurd (UInt8.lt_trans h h') (UInt8.lt_irrefl _), Or.inl ?_⟩
      simp only [beq_eq_false_iff_ne]
      intro e
      rw [e] at h
      exact UInt8.lt_irrefl _ h
    · subst h1
      exact ⟨UInt8.lt_irrefl _, Or.inr (bl_asymm a k h2)⟩
theorem bl_tri : ∀ (a k : List UInt8), a.length = k.length → a ≠ k → Op.bytesLess a k = true ∨ Op.bytesLess k a = true
  | [], [], _, h => absurd rfl h
  | x :: a, y :: k, hl, h => by
    simp only [Op.bytesLess, Bool.or_eq_true, decide_eq_true_eq, Bool.and_eq_true, beq_iff_eq]
    by_cases e : x = y
    · subst e
      rcases bl_tri a k (by simpa using hl) (fun e => h (by rw [e])) with h1 | h1
      · exact Or.inl (Or.inr ⟨rfl, h1⟩)
      · exact Or.inr (Or.inr ⟨rfl, h1⟩)
    · rcases Nat.lt_or_gt_of_ne (fun h : x.toNat = y.toNat => e (UInt8.toNat_inj.1 h)) with h1 | h1
      · exact Or.inl (Or.inl (UInt8.lt_iff_toNat_lt.2 h1))
      · exact Or.inr (Or.inl (UInt8.lt_iff_toNat_lt.2 h1))
  | [], _ :: _, hl, _ => by simp at hl
  | _ :: _, [], hl, _ => by simp at hl
theorem bl_ff : ∀ (b : List UInt8), (Op.bytesLess b (List.replicate b.length 255) || b == List.replicate b.length 255) = true
  | [] => rfl
  | x :: b => by
    have ih := bl_ff b
    simp only [List.length_cons, List.replicate_succ, Op.bytesLess]
    by_cases e : x = 255
    · subst e
      simpa using ih
    · have : x < 255 := by
        rw [UInt8.lt_iff_toNat_lt]
        have h1 := x.toNat_lt
        have h2 : x.toNat ≠ 255 := fun h => e (UInt8.toNat_inj.1 h)
        show x.toNat < 255
        omega
      simp [this]

/-- is a string in a range -/
def inR (lo hi : List UInt8) (e : Bool) (s : List UInt8) : Bool := !Op.bytesLess s lo && (e || (Op.bytesLess s hi || s == hi))
theorem inR_span (k b : List UInt8) : inR k (k ++ List.replicate b.length 255) false (k ++ b) = true := by
  have h := bl_ff b
  simp only [inR, bl_pre, bl_app, Bool.not_false, Bool.true_and, Bool.false_or]
  rw [Bool.or_eq_true] at h ⊢
  rcases h with h | h
  · exact Or.inl h
  · refine Or.inr ?_
    rw [beq_iff_eq] at h ⊢
    rw [← h]
theorem inR_iff (a k b : List UInt8) (hl : a.length = k.length) : inR k (k ++ List.replicate b.length 255) false (a ++ b) = (a == k) := by
  by_cases e : a = k
  · subst e
    rw [inR_span]
    simp
  · have h1 : (a == k) = false := by simpa using e
    rw [h1]
    unfold inR
    have e2 : Op.bytesLess (a ++ b) k = Op.bytesLess a k := by
      have := bl_len a k b [] hl e
      simpa using this
    have e3 := bl_len a k b (List.replicate b.length 255) hl e
    have e4 : (a ++ b == k ++ List.replicate b.length 255) = false := by
      rw [beq_eq_false_iff_ne]
      intro h
      exact e (List.append_inj h hl).1
    rw [e2, e3, e4]
    cases Op.bytesLess a k <;> rfl
end Go.Proofs.Ytcdlcdibcekahaa
