/- The kit, more: a block in the midst of the list of blocks; structs behind pointers that a callee writes. -/
import Derived.Test.YtklpamhhbigjfaaDoorKit7
namespace Go.Proofs.YtklpamhhbigjfaaDoor
open Go.RowKit

theorem St.cM {w0 w : World} {L1 L2 : List BK} {b : BK} (h : St w0 w (L1 ++ b :: L2)) : (∀ i, w.cell? ⟨b.g, i, none⟩ = b.cs[i]?) ∧ (∀ i, w.frozen? ⟨b.g, i, none⟩ = false) ∧ b.g < w.heap.size :=
  have k := h.blk b (by simp)
  ⟨fun i => cell_of_row w b.g i b.cs b.t (0, 0) k, fun i => by simp [World.frozen?, k], (h.at_ b (by simp)).2.1⟩
theorem St.setM {w0 w : World} {L1 L2 : List BK} {b : BK} (h : St w0 w (L1 ++ b :: L2)) (i : Nat) (u : Value) : St w0 (w.setCell ⟨b.g, i, none⟩ u) (L1 ++ ⟨b.g, b.cs.setIfInBounds i u, b.t⟩ :: L2) := by
  have hb := h.blk b (by simp)
  rw [setCell_eq_setRow w b.g i b.cs b.t (0, 0) u hb]
  exact h.row _
theorem St.ne0 {w0 w : World} {L1 L2 : List BK} {a b : BK} (h : St w0 w (a :: (L1 ++ b :: L2))) : a.g ≠ b.g := by
  have hp := h.apart
  rw [List.pairwise_cons] at hp
  exact hp.1 b (by simp)
/-- blocks that a callee has made, beside those of before -/
theorem St.call {w0 w w1 : World} {L L' : List BK} (h : St w0 w L) (k : St w w1 L') : St w0 w1 (L' ++ L) := by
  have hb := h.below k.base
  refine ⟨hb.base, fun b hb' => ?_, ?_⟩
  · rcases List.mem_append.1 hb' with h1 | h1
    · obtain ⟨a1, a2, a3⟩ := k.at_ b h1
      exact ⟨Nat.le_trans h.base.size a1, a2, a3⟩
    · exact hb.at_ b h1
  · rw [List.pairwise_append]
    refine ⟨k.apart, h.apart, fun a ha b hb' => ?_⟩
    have h1 := (k.at_ a ha).1
    have h2 := (h.at_ b hb').2.1
    omega
end Go.Proofs.YtklpamhhbigjfaaDoor
