/- The kit, more: the bytes of a string as a slice of the call's own that is written. -/
import Derived.Test.YtklpamhhbigjfaaKit11
namespace Go.Proofs.Ytklpamhhbigjfaa
open Go.RowKit

/-- a row of bytes that the call has made out of a string -/
def BO (w0 w : World) (g : Nat) (l : List UInt8) : Prop :=
  Below w0.heap.size w0 w ∧ w0.heap.size ≤ g ∧ ∃ (cs : Array Value) (t : TypeId) (m : Nat), w.heap[g]? = some (.cells cs t (cs.size, m)) ∧ l.length ≤ cs.size ∧ ∀ j (h : j < l.length), cs[j]? = some (byV l[j])
theorem BO.cell {w0 w : World} {g : Nat} {l : List UInt8} (h : BO w0 w g l) (j : Nat) (hj : j < l.length) : w.cell? ⟨g, j, none⟩ = some (byV l[j]) := by
  obtain ⟨_, _, cs, t, m, h1, h2, h3⟩ := h
  rw [cell_of_row w g j cs t _ h1, h3 j hj]
theorem BO.frozen {w0 w : World} {g : Nat} {l : List UInt8} (h : BO w0 w g l) (j : Nat) (hj : j < l.length) : w.frozen? ⟨g, j, none⟩ = false := by
  obtain ⟨_, _, cs, t, m, h1, h2, h3⟩ := h
  have : ¬ cs.size ≤ j := by omega
  simp [World.frozen?, h1, this]
theorem BO.drew {w0 w : World} {g : Nat} {l : List UInt8} (h : BO w0 w g l) : BO w0 w.drew g l := ⟨h.1.drew, h.2⟩
theorem BO.set {w0 w : World} {g : Nat} {l : List UInt8} (h : BO w0 w g l) (j : Nat) (x : UInt8) : BO w0 (w.setCell ⟨g, j, none⟩ (byV x)) g (l.set j x) := by
  obtain ⟨h0, hg, cs, t, m, h1, h2, h3⟩ := h
  rw [setCell_eq_setRow w g j cs t _ _ h1]
  refine ⟨below_setRow h0 hg _, hg, cs.setIfInBounds j (byV x), t, m, ?_, by simpa using h2, fun i hi => ?_⟩
  · have := setRow_heap w g cs (cs.setIfInBounds j (byV x)) t (cs.size, m) h1
    rw [Array.size_setIfInBounds]
    exact this
  · rw [List.length_set] at hi
    by_cases e : j = i
    · subst e
      have : j < cs.size := by omega
      simp [this]
    · simp only [Array.getElem?_setIfInBounds, if_neg e, h3 i hi]
      rw [List.getElem_set_ne e]
section
variable {P : Program} {ops : Array Oper} {rest : List Oper} {o : Oper} {a : Act} {Q : Exit → Act → World → Prop} {w : World}
theorem wpList_bytesOwn (src dst e : TypeId) (s : ByteArray) (x : Operand) (hgd : o.guard = none) (ho : o.op = .convert src dst x) (hx : a.eval x = .string s)
    (hs : P.underlying src = some .string) (hd : P.underlying dst = some (.slice e)) (he : P.underlying e = some (.int .u8))
    (h : ∀ g cap w1, BO w w1 g s.data.toList → wpList P ops Q rest (a.put o.dst (.slice (some ⟨g, 0, none⟩) s.size cap)) w1) : wpList P ops Q (o :: rest) a w := by
  refine wpList_plain hgd fun K hK => ?_
  unfold Oper.wp
  rw [exec_convert ho hx (run_bytes_of_string w src dst e s hs hd he)]
  refine hK _ _ (h _ _ _ ⟨((Below.refl _ _).drew).alloc (Nat.le_refl _) _, Nat.le_refl _, _, _, _, blk_new w.drew _, ?_, fun j hj => ?_⟩)
  · simp [bytesRow]
  · have hj' : j < s.data.size := by simpa using hj
    have := bytesRow_at s (grownCap w s.size 0 e) j hj'
    rw [this]
    simp [byV]
end
theorem conv_BO {P : Program} {w0 w : World} {g c n : Nat} {src dst elem : TypeId} {l : List UInt8} (h : BO w0 w g l) (h1 : P.underlying src = some (.slice elem)) (h2 : P.underlying elem = some (.int .u8)) (h3 : P.underlying dst = some .string) (hn : n = l.length) :
    (convert src dst (.slice (some ⟨g, 0, none⟩) n c)).run P w = .ok (.string (bs l)) w := by
  subst hn
  refine run_convert_bytes_back w _ _ elem ⟨g, 0, none⟩ c l h1 h2 h3 (fun j hj => ?_)
  have e : Addr.add ⟨g, 0, none⟩ j = ⟨g, j, none⟩ := by cases j <;> simp [Addr.add]
  rw [e, h.cell j hj]
  rfl
end Go.Proofs.Ytklpamhhbigjfaa
