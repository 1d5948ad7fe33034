/- The kit, more: slices laid by the call itself. -/
import Derived.Test.YtklpamhhbigjfaaDoorKit3
namespace Go.Proofs.YtklpamhhbigjfaaDoor
open Go.RowKit

section
variable {P : Program} {ops : Array Oper} {rest : List Oper} {o : Oper} {a : Act} {Q : Exit → Act → World → Prop} {w0 w : World} {L : List BK}

/-- A slice literal is laid: behind it the world is a letter. -/
theorem wpList_boxS (hst : St w0 w L) (t : TypeId) (cs : Array Value) (n c : Nat) (hgd : o.guard = none)
    (hrun : (execOp a.eval o).run P w = .ok (.value (.slice (some ⟨w.heap.size, 0, none⟩) n c)) (w.alloc (.cells cs t (0, 0))))
    (h : ∀ g w1, St w0 w1 (⟨g, cs, t⟩ :: L) → wpList P ops Q rest (a.put o.dst (.slice (some ⟨g, 0, none⟩) n c)) w1) : wpList P ops Q (o :: rest) a w := by
  refine wpList_plain hgd fun K hK => ?_
  unfold Oper.wp
  rw [hrun]
  exact hK _ _ (h _ _ (hst.box cs t))

/-- One cell is stored into one of the call's own blocks. -/
theorem wpList_cell {L1 L2 : List BK} {b : BK} (hst : St w0 w (L1 ++ b :: L2)) (i : Nat) (u : Value) (cs : Array Value) (hcs : b.cs.setIfInBounds i u = cs) (hgd : o.guard = none)
    (hrun : (execOp a.eval o).run P w = .ok .skip (w.setCell ⟨b.g, i, none⟩ u))
    (h : ∀ w1, St w0 w1 (L1 ++ ⟨b.g, cs, b.t⟩ :: L2) → wpList P ops Q rest (a.put o.dst undef) w1) : wpList P ops Q (o :: rest) a w := by
  refine wpList_plain hgd fun K hK => ?_
  unfold Oper.wp
  rw [hrun]
  have hb := hst.blk b (by simp)
  rw [setCell_eq_setRow w b.g i b.cs b.t (0, 0) u hb, hcs]
  exact hK _ _ (h _ (hst.row cs))
theorem wpList_cell0 {L : List BK} {b : BK} (hst : St w0 w (b :: L)) (i : Nat) (u : Value) (cs : Array Value) (hcs : b.cs.setIfInBounds i u = cs) (hgd : o.guard = none)
    (hrun : (execOp a.eval o).run P w = .ok .skip (w.setCell ⟨b.g, i, none⟩ u))
    (h : ∀ w1, St w0 w1 (⟨b.g, cs, b.t⟩ :: L) → wpList P ops Q rest (a.put o.dst undef) w1) : wpList P ops Q (o :: rest) a w :=
  wpList_cell (L1 := []) hst i u cs hcs hgd hrun h
end
end Go.Proofs.YtklpamhhbigjfaaDoor
