/- The kit, more: the bytes of a string as a slice of the call's own. -/
import Derived.Test.YtklpamhhbigjfaaDoorKit6
import Derived.Laws.IdiomStrings
namespace Go.Proofs.YtklpamhhbigjfaaDoor
open Go.RowKit

def BytesAt (w : World) (g : Nat) (s : ByteArray) : Prop := ∀ j (h : j < s.size), w.cell? ⟨g, j, none⟩ = some (.int .u8 (s[j].toNat : Int))
theorem BytesAt.below {w w1 : World} {g : Nat} {s : ByteArray} (h : BytesAt w g s) (hg : g < w.heap.size) (hb : Below w.heap.size w w1) : BytesAt w1 g s := fun j hj => (hb.cell (p := ⟨g, j, none⟩) hg).trans (h j hj)

section
variable {P : Program} {ops : Array Oper} {rest : List Oper} {o : Oper} {a : Act} {Q : Exit → Act → World → Prop} {w0 w : World} {L : List BK}
theorem wpList_bytes (hst : St w0 w L) (src dst e : TypeId) (s : ByteArray) (x : Operand) (hgd : o.guard = none) (ho : o.op = .convert src dst x) (hx : a.eval x = .string s)
    (hs : P.underlying src = some .string) (hd : P.underlying dst = some (.slice e)) (he : P.underlying e = some (.int .u8))
    (h : ∀ g cap w1, St w0 w1 L → Hid (BytesAt w1 g s) → g < w1.heap.size → wpList P ops Q rest (a.put o.dst (.slice (some ⟨g, 0, none⟩) s.size cap)) w1) : wpList P ops Q (o :: rest) a w := by
  refine wpList_plain hgd fun K hK => ?_
  unfold Oper.wp
  rw [exec_convert ho hx (run_bytes_of_string w src dst e s hs hd he)]
  refine hK _ _ (h _ _ _ ?_ ?_ ?_)
  · exact (hst.drew).alloc _
  · intro j hj
    exact (World.cell?_alloc_mark w.drew _ _ _ j).trans (bytesRow_at s _ j hj)
  · show w.heap.size < (w.heap.push _).size
    simp
end
end Go.Proofs.YtklpamhhbigjfaaDoor
