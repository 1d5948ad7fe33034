/- The kit, more: rows of bytes; copy into a row of the call's own. -/
import Derived.Test.YtklpamhhbigjfaaKit9
import Derived.Test.YtklpamhhbigjfaaVarint
import Derived.Laws.CopyOwn
import Derived.Lib.BufferWrite
namespace Go.Proofs.Ytklpamhhbigjfaa
open Go.RowKit

def rowOf (l : List UInt8) : Array Value := (l.map byV).toArray
theorem rowOf_size (l : List UInt8) : (rowOf l).size = l.length := by simp [rowOf]
theorem rowOf_at (l : List UInt8) (i : Nat) (h : i < l.length) : (rowOf l)[i]? = some (byV l[i]) := by simp [rowOf, h]
theorem rowOf_splice (L l : List UInt8) (o n : Nat) (_hn : n = o + l.length) : ((rowOf L).toList.take o ++ l.map byV ++ (rowOf L).toList.drop n).toArray = rowOf (L.take o ++ l ++ L.drop n) := by
  simp [rowOf, List.map_take, List.map_drop]

section
variable {P : Program} {ops : Array Oper} {Q : Exit → Act → World → Prop} {o : Oper} {rest : List Oper} {a : Act} {w0 w : World} {L1 L2 : List BK} {g : Nat} {t : TypeId} {L : List UInt8}
theorem wpList_copy_str (hst : St w0 w (L1 ++ ⟨g, rowOf L, t⟩ :: L2)) (hgd : o.guard = none) (d s : Operand) (dT sT : TypeId) (ho : o.op = .call { callee := .builtin .copy, args := #[d, s], argTypes := #[dT, sT] })
    (elem : TypeId) (hu : P.underlying dT = some (.slice elem)) (hsz : (P.info? elem).map (·.size) = some 1) (f dLen dCap : Nat) (x : ByteArray) (hd : a.eval d = .slice (some ⟨g, f, none⟩) dLen dCap) (hs : a.eval s = .string x)
    (hle : x.size ≤ dLen) (hfit : f + x.size ≤ L.length)
    (h : ∀ w1, St w0 w1 (L1 ++ ⟨g, rowOf (L.take f ++ x.data.toList ++ L.drop (f + x.size)), t⟩ :: L2) → wpList P ops Q rest (a.put o.dst (goInt x.size)) w1) : wpList P ops Q (o :: rest) a w := by
  have hb := hst.blk ⟨g, rowOf L, t⟩ (by simp)
  have hrun := Go.Lib.run_copy_row_string (P := P) w dT sT o.type elem g f dLen dCap x (rowOf L) t hu hsz hb hle (by rw [rowOf_size]; exact hfit)
  have e : (Go.Lib.byteCells x.data.toList) = x.data.toList.map byV := rfl
  rw [e, rowOf_splice L x.data.toList f (f + x.size) (by simp)] at hrun
  refine wpList_plain hgd fun K hK => ?_
  unfold Oper.wp
  simp [execOp, ho, resolve, invoke, builtin, hd, hs, hrun, Result.andThen]
  rw [← List.append_assoc]
  exact hK _ _ (h _ (St.row (L1 := L1) hst _))
theorem wpList_copy_row (hst : St w0 w (L1 ++ ⟨g, rowOf L, t⟩ :: L2)) (hgd : o.guard = none) (d s : Operand) (dT sT : TypeId) (ho : o.op = .call { callee := .builtin .copy, args := #[d, s], argTypes := #[dT, sT] })
    (elem : TypeId) (hu : P.underlying dT = some (.slice elem)) (hsz : (P.info? elem).map (·.size) = some 1) (f dLen dCap sLen sCap g2 : Nat) (l : List UInt8) (hd : a.eval d = .slice (some ⟨g, f, none⟩) dLen dCap) (hs : a.eval s = .slice (some ⟨g2, 0, none⟩) sLen sCap)
    (hc : ∀ i, w.cell? ⟨g2, i, none⟩ = (rowOf l)[i]?) (hl : l.length = sLen) (hle : sLen ≤ dLen) (hfit : f + sLen ≤ L.length)
    (h : ∀ w1, St w0 w1 (L1 ++ ⟨g, rowOf (L.take f ++ l ++ L.drop (f + sLen)), t⟩ :: L2) → wpList P ops Q rest (a.put o.dst (goInt sLen)) w1) : wpList P ops Q (o :: rest) a w := by
  have hb := hst.blk ⟨g, rowOf L, t⟩ (by simp)
  have hll : (l.map byV).length = sLen := by simp [hl]
  refine wpList_copy_own hgd d s dT sT ho elem hu hsz g f dLen dCap ⟨g2, 0, none⟩ sLen sCap hd hs (rowOf L) t hb (l.map byV) (by rw [hll]; exact (Nat.min_eq_left hle).symm) (fun j v hv => ?_) (by rw [rowOf_size, hll]; exact hfit) (fun v hv => ?_) ?_
  · have e : Addr.add ⟨g2, 0, none⟩ j = ⟨g2, j, none⟩ := by cases j <;> simp [Addr.add]
    rw [e, hc]
    simpa [rowOf] using hv
  · obtain ⟨b, _, rfl⟩ := List.mem_map.1 hv
    rfl
  · rw [hll, ← List.append_assoc, rowOf_splice L l f (f + sLen) (by omega)]
    exact h _ (St.row (L1 := L1) hst _)
end
/-- a row of bytes as a string -/
theorem conv_rowOf {P : Program} {w : World} {g c : Nat} {src dst elem : TypeId} {l : List UInt8} (h1 : P.underlying src = some (.slice elem)) (h2 : P.underlying elem = some (.int .u8)) (h3 : P.underlying dst = some .string)
    (hc : ∀ i, w.cell? ⟨g, i, none⟩ = (rowOf l)[i]?) : (convert src dst (.slice (some ⟨g, 0, none⟩) l.length c)).run P w = .ok (.string (bs l)) w := by
  refine run_convert_bytes_back w _ _ elem ⟨g, 0, none⟩ c l h1 h2 h3 (fun j hj => ?_)
  have e : Addr.add ⟨g, 0, none⟩ j = ⟨g, j, none⟩ := by cases j <;> simp [Addr.add]
  rw [e, hc, rowOf_at l j hj]
  rfl
end Go.Proofs.Ytklpamhhbigjfaa
