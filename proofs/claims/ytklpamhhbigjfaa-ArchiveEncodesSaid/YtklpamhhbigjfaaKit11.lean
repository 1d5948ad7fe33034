/- The kit, more: append of a string onto a slice of bytes of the call's own. -/
import Derived.Test.YtklpamhhbigjfaaKit10
import Derived.Lib.AppendStr
namespace Go.Proofs.Ytklpamhhbigjfaa
open Go.RowKit

theorem strCells_byV (s : ByteArray) : Go.Lib.strCells s = s.data.toList.map byV := rfl
theorem RowIs.own1 {E : TypeId} {v : Value} {n : Nat} {xs : List Value} {R : List BK} {w0 w : World} (h : RowIs E 1 v n xs R) (hst : St w0 w R) : w.ownsRow w0.heap.size E 1 v n xs := h.owns (L := []) hst
section
variable {P : Program} {ops : Array Oper} {rest : List Oper} {o : Oper} {a : Act} {Q : Exit → Act → World → Prop} {w0 w : World} {R : List BK}
/-- 'append(b, s...)', b a []byte of the call's own, s a string; no other own block is told -/
theorem wpList_append_str {E : TypeId} {v : Value} {n : Nat} {l : List UInt8} (hst : St w0 w R) (hrow : RowIs E 1 v n (l.map byV) R) (hgd : o.guard = none) (sl x : Operand) (t u : TypeId)
    (ho : o.op = .call { callee := .builtin .append, args := #[sl, x], argTypes := #[t, u] })
    (ht : P.underlying t = some (.slice E)) (hu : P.underlying u = some .string) (hinf : (P.info? E).map (fun i => (i.zero, i.size, i.bytes)) = some (some (.int .u8 0), 1, 1))
    (hs : a.eval sl = v) (s : ByteArray) (hx : a.eval x = .string s) (hb : n + s.size ≤ 140737488355328)
    (h : ∀ v' R' w', St w0 w' R' → RowIs E 1 v' (n + s.size) ((l ++ s.data.toList).map byV) R' → wpList P ops Q rest (a.put o.dst v') w') : wpList P ops Q (o :: rest) a w := by
  obtain ⟨i, hi, hz, hi1, hi2⟩ := info_parts hinf
  refine Go.Lib.wpList_append_own_string w hgd sl x t u ho w0.heap.size E i ht hu hi hz hi1 hi2 v n _ hs (hrow.own1 hst) s hx (by unfold maxLen; omega) hb hst.base.size ?_
  intro v' w' hown hgrow _
  rw [strCells_byV, ← List.map_append] at hown
  have hvB : ∀ k, v.ownBlock = some k → w0.heap.size ≤ k := fun k hk => ((hrow.own1 hst).lt k hk).1
  have hL' : St w0 w' [] := (hst.sub (List.nil_sublist _)).grown hgrow hvB (fun b hb => by simp at hb)
  obtain ⟨R', hR', hst'⟩ := row_back hL' hown (fun b hb => by simp at hb)
  exact h v' R' w' hst' hR'
end
end Go.Proofs.Ytklpamhhbigjfaa
