/- The kit, more: single operations by their run equations. -/
import Derived.Test.YtklpamhhbigjfaaDoorKit4
import Derived.Laws.IdiomStrings
import Derived.Laws.Slices
namespace Go.Proofs.YtklpamhhbigjfaaDoor
open Go.RowKit

section
variable {P : Program} {ev : Operand → Value} {o : Oper} {w w1 : World} {u v v1 v2 : Value}
theorem exec_convert {s d : TypeId} {x : Operand} (ho : o.op = .convert s d x) (hx : ev x = v) (h : (convert s d v).run P w = .ok u w1) : (execOp ev o).run P w = .ok (.value u) w1 := by
  unfold execOp
  simp only [ho, hx, Sem.run_bind, h, Result.andThen_ok, Sem.run_pure]
theorem exec_slice {t : TypeId} {x : Operand} {l h m : Option Operand} (ho : o.op = .slice t x l h m) (hx : ev x = v) (hr : (Instr.sliceAt t v (l.map ev) (h.map ev) (m.map ev)).run P w = .ok u w1) : (execOp ev o).run P w = .ok (.value u) w1 := by
  unfold execOp
  simp only [ho, hx, Sem.run_bind, hr, Result.andThen_ok, Sem.run_pure]
end

theorem ret_str {a b : ByteArray} (h : a = b) : Ending.returned (.string a) = .returned (.string b) := by rw [h]
theorem run_slice_array {P : Program} (w : World) (t e : TypeId) (n : Nat) (a : Addr) (k : Int) (m : Nat) (hu : P.underlying t = some (.array n e)) (hz : ∀ w, (Go.sizeOf e).run P w = .ok 1 w) (hk : k = (m : Int)) (hm : m ≤ n) (hn : 0 < n) :
    (Instr.sliceAt t (.pointer (some a)) none (some (.int .i64 k)) none).run P w = .ok (.slice (some a) m n) w := by
  have hl : P.arrayLen t = n := by simp [Program.arrayLen, hu]
  have he : P.elem t = e := by simp [Program.elem, hu]
  rw [run_sliceAt_array_h w t a (by rw [hl, he]; exact hu) .i64 k (by omega) (by rw [hl]; omega), he, hz]
  subst hk
  simp only [Result.andThen_ok, slicedAt, hl, Int.toNat_natCast, Nat.sub_zero]
  congr 2
  rw [if_neg (by omega)]
  simp [Addr.add]
theorem emp_append (x : ByteArray) : (⟨#[]⟩ : ByteArray) ++ x = x := by
  apply ByteArray.ext
  simp [ByteArray.data_append]
theorem bcell {W w1 : World} (hb : Below W.heap.size W w1) : (∀ b o, b < W.heap.size → w1.cell? ⟨b, o, none⟩ = W.cell? ⟨b, o, none⟩) ∧ (∀ b o, b < W.heap.size → w1.frozen? ⟨b, o, none⟩ = W.frozen? ⟨b, o, none⟩) :=
  ⟨fun b o h => hb.cell (p := ⟨b, o, none⟩) h, fun b o h => hb.frozen (p := ⟨b, o, none⟩) h⟩
theorem below_a {w w' : World} {o : Obj} (h : Below (w.alloc o).drew.heap.size (w.alloc o).drew w') : Below w.heap.size w w' :=
  (((Below.refl w.heap.size w).alloc (Nat.le_refl _) o).drew).trans (h.mono (by show w.heap.size ≤ (w.heap.push o).size; simp))
theorem below_b {w w' : World} {o : Obj} (h : Below w.drew.heap.size w.drew w') : Below w.heap.size w (w'.alloc o) :=
  (((Below.refl w.heap.size w).drew).trans h).alloc h.size o
def bs (l : List UInt8) : ByteArray := ⟨l.toArray⟩
theorem conv_row {P : Program} {w0 w : World} {b : BK} {L : List BK} (hst : St w0 w (b :: L)) {src dst e : TypeId} (l : List UInt8) (c : Nat) (hc : ∀ j (h : j < l.length), b.cs[j]? = some (.int .u8 (l[j].toNat : Int)))
    (hs : P.underlying src = some (.slice e)) (he : P.underlying e = some (.int .u8)) (hd : P.underlying dst = some .string) :
    (convert src dst (.slice (some ⟨b.g, 0, none⟩) l.length c)).run P w = .ok (.string (bs l)) w := by
  refine run_convert_bytes_back w src dst e ⟨b.g, 0, none⟩ c l hs he hd (fun j hj => ?_)
  have e : Addr.add ⟨b.g, 0, none⟩ j = ⟨b.g, j, none⟩ := by cases j <;> simp [Addr.add]
  rw [e]
  exact (hst.c0.1 j).trans (hc j hj)
theorem conv_one {P : Program} {w0 w : World} {g : Nat} {t : TypeId} {L : List BK} {n : Int} (x : UInt8) (hst : St w0 w (⟨g, #[.int .u8 n], t⟩ :: L)) {src dst e : TypeId} (hn : (x.toNat : Int) = n)
    (hs : P.underlying src = some (.slice e)) (he : P.underlying e = some (.int .u8)) (hd : P.underlying dst = some .string) :
    (convert src dst (.slice (some ⟨g, 0, none⟩) 1 1)).run P w = .ok (.string (bs [x])) w := by
  refine conv_row hst [x] 1 (fun j hj => ?_) hs he hd
  have : j = 0 := by simpa using hj
  subst this
  subst hn
  rfl
end Go.Proofs.YtklpamhhbigjfaaDoor
