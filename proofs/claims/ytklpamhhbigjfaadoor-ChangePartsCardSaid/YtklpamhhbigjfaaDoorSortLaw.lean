/- Plain: inserting one by one, once each, is sorting and dropping what comes twice. -/
import Derived.Lib.SlicesCompact
namespace Go.Proofs.YtklpamhhbigjfaaDoor

section
variable {α : Type} [DecidableEq α] (lt : α → α → Prop) [DecidableRel lt]

def ltG (cur : List α) (x : α) : Nat := (cur.takeWhile fun y => decide (lt y x)).length
def insG (cur : List α) (x : α) : List α := if cur[ltG lt cur x]? = some x then cur else cur.take (ltG lt cur x) ++ [x] ++ cur.drop (ltG lt cur x)
def setG (zs : List α) : List α := zs.foldl (insG lt) []
def insR : List α → α → List α
  | [], x => [x]
  | y :: cur, x => if lt y x then y :: insR cur x else if y = x then y :: cur else x :: y :: cur
theorem insG_eq : ∀ (cur : List α) (x : α), insG lt cur x = insR lt cur x
  | [], x => by simp [insG, ltG, insR]
  | y :: cur, x => by
    have ih := insG_eq cur x
    by_cases h : lt y x
    · have e : ltG lt (y :: cur) x = ltG lt cur x + 1 := by simp [ltG, h]
      rw [insR, if_pos h, ← ih, insG, insG, e]
      simp only [List.getElem?_cons_succ, List.take_succ_cons, List.drop_succ_cons]
      split <;> simp
    · have e : ltG lt (y :: cur) x = 0 := by simp [ltG, h]
      rw [insR, if_neg h, insG, e]
      by_cases h2 : y = x <;> simp [h2]
theorem mem_insR : ∀ (cur : List α) (x y : α), y ∈ insR lt cur x ↔ y ∈ cur ∨ y = x
  | [], x, y => by simp [insR]
  | z :: cur, x, y => by
    have ih := mem_insR cur x y
    unfold insR
    split
    · simp only [List.mem_cons, ih, or_assoc]
    · split
      · next h => subst h; simp only [List.mem_cons]; constructor
                  · exact Or.inl
                  · rintro (h | h)
                    · exact h
                    · exact Or.inl h
      · simp only [List.mem_cons]
        constructor
        · rintro (h | h | h)
          · exact Or.inr h
          · exact Or.inl (Or.inl h)
          · exact Or.inl (Or.inr h)
        · rintro ((h | h) | h)
          · exact Or.inr (Or.inl h)
          · exact Or.inr (Or.inr h)
          · exact Or.inl h
theorem sorted_insR (htr : ∀ a b c, lt a b → lt b c → lt a c) (htri : ∀ a b, a = b ∨ lt a b ∨ lt b a) : ∀ (cur : List α) (x : α), cur.Pairwise lt → (insR lt cur x).Pairwise lt
  | [], x, _ => by simp [insR]
  | z :: cur, x, h => by
    rw [List.pairwise_cons] at h
    unfold insR
    split
    · next hz =>
      rw [List.pairwise_cons]
      refine ⟨fun y hy => ?_, sorted_insR htr htri cur x h.2⟩
      rcases (mem_insR lt cur x y).1 hy with h1 | h1
      · exact h.1 y h1
      · rw [h1]; exact hz
    · split
      · exact List.pairwise_cons.2 h
      · next hz hne =>
        have hxz : lt x z := by
          rcases htri z x with e | e | e
          · exact absurd e hne
          · exact absurd e hz
          · exact e
        rw [List.pairwise_cons]
        refine ⟨fun y hy => ?_, List.pairwise_cons.2 h⟩
        rcases List.mem_cons.1 hy with e | e
        · rw [e]; exact hxz
        · exact htr _ _ _ hxz (h.1 y e)
theorem setG_spec (htr : ∀ a b c, lt a b → lt b c → lt a c) (htri : ∀ a b, a = b ∨ lt a b ∨ lt b a) (zs : List α) : (setG lt zs).Pairwise lt ∧ ∀ y, y ∈ setG lt zs ↔ y ∈ zs := by
  have key : ∀ (zs cur : List α), cur.Pairwise lt → (zs.foldl (insG lt) cur).Pairwise lt ∧ ∀ y, y ∈ zs.foldl (insG lt) cur ↔ y ∈ cur ∨ y ∈ zs := by
    intro zs
    induction zs with
    | nil => intro cur h; exact ⟨h, fun y => by simp⟩
    | cons x zs ih =>
      intro cur h
      have h1 := ih (insG lt cur x) (by rw [insG_eq]; exact sorted_insR lt htr htri cur x h)
      refine ⟨h1.1, fun y => ?_⟩
      rw [List.foldl_cons, h1.2 y, insG_eq, mem_insR, List.mem_cons, or_assoc]
  have h := key zs [] List.Pairwise.nil
  exact ⟨h.1, fun y => by rw [setG, h.2 y]; simp⟩
end
/-- strictly rising lists with the same members are one -/
theorem rising_eq {α : Type} (lt : α → α → Prop) (htr : ∀ a b c, lt a b → lt b c → lt a c) (hir : ∀ a, ¬ lt a a) : ∀ (a b : List α), a.Pairwise lt → b.Pairwise lt → (∀ y, y ∈ a ↔ y ∈ b) → a = b
  | [], [], _, _, _ => rfl
  | [], y :: b, _, _, h => by have := (h y).2 (by simp); simp at this
  | x :: a, [], _, _, h => by have := (h x).1 (by simp); simp at this
  | x :: a, y :: b, ha, hb, h => by
    rw [List.pairwise_cons] at ha hb
    have hxy : x = y := by
      rcases List.mem_cons.1 ((h x).1 (by simp)) with e | e
      · exact e
      · rcases List.mem_cons.1 ((h y).2 (by simp)) with e2 | e2
        · exact e2.symm
        · exact absurd (htr _ _ _ (hb.1 x e) (ha.1 y e2)) (hir y)
    subst hxy
    rw [rising_eq lt htr hir a b ha.2 hb.2 fun z => ?_]
    constructor
    · intro hz
      rcases List.mem_cons.1 ((h z).1 (by simp [hz])) with e | e
      · subst e; exact absurd (ha.1 z hz) (hir z)
      · exact e
    · intro hz
      rcases List.mem_cons.1 ((h z).2 (by simp [hz])) with e | e
      · subst e; exact absurd (hb.1 z hz) (hir z)
      · exact e
theorem mem_compact_iff {α : Type} [Inhabited α] [DecidableEq α] (zs : List α) (x : α) : x ∈ Lib.compact zs ↔ x ∈ zs := by
  unfold Lib.compact Lib.compactUpTo
  rw [List.mem_map]
  constructor
  · rintro ⟨j, hj, rfl⟩
    have hj2 : j < zs.length := List.mem_range.1 (List.mem_filter.1 hj).1
    rw [getElem!_pos _ j (by simpa using hj2)]
    simp
  · intro hx
    -- the first place that holds x
    have hex : ∃ j, j < zs.length ∧ zs.toArray[j]! = x := by
      obtain ⟨j, hj, rfl⟩ := List.getElem_of_mem hx
      exact ⟨j, hj, by rw [getElem!_pos _ j (by simpa using hj)]; simp⟩
    let p : Nat → Prop := fun j => j < zs.length ∧ zs.toArray[j]! = x
    obtain ⟨j, hj⟩ := hex
    have key : ∀ n, p n → ∃ m, p m ∧ ∀ i, i < m → ¬ p i := by
      intro n
      induction n using Nat.strongRecOn with
      | _ n ih =>
        intro hn
        by_cases hlt : ∃ i, i < n ∧ p i
        · obtain ⟨i, hi, hpi⟩ := hlt
          exact ih i hi hpi
        · exact ⟨n, hn, fun i hi hpi => hlt ⟨i, hi, hpi⟩⟩
    obtain ⟨m, ⟨hm1, hm2⟩, hm3⟩ := key j hj
    refine ⟨m, List.mem_filter.2 ⟨List.mem_range.2 hm1, ?_⟩, hm2⟩
    unfold Lib.keeps
    rw [decide_eq_true_eq]
    by_cases h0 : m = 0
    · exact Or.inl h0
    · refine Or.inr fun he => hm3 (m - 1) (by omega) ⟨by omega, ?_⟩
      rw [← he]; exact hm2
theorem compact_sorted {α : Type} [Inhabited α] [DecidableEq α] (lt : α → α → Prop) (htr : ∀ a b c, lt a b → lt b c → lt a c) (hir : ∀ a, ¬ lt a a) (htri : ∀ a b, a = b ∨ lt a b ∨ lt b a) (zs : List α) (hs : zs.Pairwise fun a b => ¬ lt b a) : (Lib.compact zs).Pairwise lt := by
  have hle : ∀ i j, i ≤ j → j < zs.length → ¬ lt zs.toArray[j]! zs.toArray[i]! := by
    intro i j hij hj
    rw [getElem!_pos _ j (by simpa using hj), getElem!_pos _ i (by simp; omega)]
    simp only [List.getElem_toArray]
    rcases Nat.lt_or_eq_of_le hij with h | h
    · exact List.pairwise_iff_getElem.1 hs i j (by omega) hj h
    · subst h
      intro hh
      rcases htri zs[i] zs[i] with e | e | e <;> exact hir _ hh
  unfold Lib.compact Lib.compactUpTo
  rw [List.pairwise_map]
  have hr : ((List.range zs.length).filter (Lib.keeps zs.toArray)).Pairwise (· < ·) := (List.pairwise_lt_range).sublist List.filter_sublist
  refine List.Pairwise.imp_of_mem ?_ hr
  intro i j hi hj hij
  have hj1 := List.mem_range.1 (List.mem_filter.1 hj).1
  have hj2 := (List.mem_filter.1 hj).2
  unfold Lib.keeps at hj2
  rw [decide_eq_true_eq] at hj2
  have hj3 : zs.toArray[j]! ≠ zs.toArray[j - 1]! := by
    rcases hj2 with h | h
    · omega
    · exact h
  have h1 := hle i (j - 1) (by omega) (by omega)
  have h2 := hle (j - 1) j (by omega) hj1
  have h3 : lt zs.toArray[j - 1]! zs.toArray[j]! := by
    rcases htri zs.toArray[j - 1]! zs.toArray[j]! with e | e | e
    · exact absurd e.symm hj3
    · exact e
    · exact absurd e h2
  rcases htri zs.toArray[i]! zs.toArray[j - 1]! with e | e | e
  · rw [e]; exact h3
  · exact htr _ _ _ e h3
  · exact absurd e h1
end Go.Proofs.YtklpamhhbigjfaaDoor
