/- The kit, more: slices laid by the call itself. -/
import Derived.Test.YtcdlcdibcekahaaKit3
namespace Go.Proofs.Ytcdlcdibcekahaa
open Go.RowKit

section
variable {P : Program} {ops : Array Oper} {rest : List Oper} {o : Oper} {a : Act} {Q : Exit → Act → World → Prop} {w0 w : World} {L : List BK}

/-- A slice literal is laid: behind it the world is a letter. -/
theorem wpList_boxS (hst : St w0 w L) (t : TypeId) (cs : Array Value) (n c : Nat) (hgd : o.guard = none)
    (hrun : (execOp a.eval o).run P w = .ok (.value (.slice (some ⟨w.heap.size, 0, none⟩) n c)) (w.alloc (.cells cs t (0, 0))))
    (h : ∀ g w1, St w0 w1 (⟨g, cs, t⟩ :: L) → wpList P ops Q rest (a.put o.dst (.slice (some ⟨g, 0, none⟩) n c)) w1) : wpList P ops Q (o :: rest) a w := by
  refine wpList_plain hgd fun K hK => ?_
  unfold Oper.wp
  rw [hrun]
  exact hK _ _ (h _ _ (hst.box cs t))
end
end Go.Proofs.Ytcdlcdibcekahaa
