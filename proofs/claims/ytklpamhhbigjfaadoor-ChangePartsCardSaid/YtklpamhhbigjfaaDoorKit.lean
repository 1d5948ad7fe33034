/- The kit of this session's texts: what is known of the blocks that a call has laid, laws on boxes and loads. Plain theorems. -/
import Derived.Test.YtklpamhhbigjfaaDoorProg
import Derived.WalkKit
import Derived.WalkSpells
import Derived.WalkLawsBesides
import Derived.Deep.LoopGhost
import Derived.BigQuiet
import Derived.Lib.Hide
import Derived.Handy
import Derived.Deep.Light
import Derived.KernelRfl
namespace Go.Proofs.YtklpamhhbigjfaaDoor
open Go.RowKit

/-- A block as it lies: its number, its cells, its type. -/
structure BK where
  g : Nat
  cs : Array Value
  t : TypeId

/-- What is known of the world in the midst of a call that began in w0: below w0's size nothing has turned, and the call's own blocks (the latest first) hold these cells. -/
structure St (w0 w : World) (L : List BK) : Prop where
  base : Below w0.heap.size w0 w
  at_ : ∀ b ∈ L, w0.heap.size ≤ b.g ∧ b.g < w.heap.size ∧ w.heap[b.g]? = some (.cells b.cs b.t (0, 0))
  apart : L.Pairwise fun a b => a.g ≠ b.g

theorem St.start (w : World) : St w w [] := ⟨Below.refl _ _, fun _ h => by simp at h, List.Pairwise.nil⟩

theorem below_next {w0 w w1 : World} (h : Below w0.heap.size w0 w) (k : Below w.heap.size w w1) : Below w0.heap.size w0 w1 :=
  h.trans (k.mono h.size)

theorem St.below {w0 w w1 : World} {L : List BK} (h : St w0 w L) (k : Below w.heap.size w w1) : St w0 w1 L :=
  ⟨below_next h.base k, fun b hb => by
    obtain ⟨h1, h2, h3⟩ := h.at_ b hb
    exact ⟨h1, Nat.lt_of_lt_of_le h2 k.size, (k.block _ h2).trans h3⟩, h.apart⟩

theorem St.drew {w0 w : World} {L : List BK} (h : St w0 w L) : St w0 w.drew L := h.below (Below.refl _ _).drew
theorem St.drewN {w0 w : World} {L : List BK} (h : St w0 w L) (n : Nat) : St w0 (w.drewN n) L :=
  h.below ⟨rfl, rfl, rfl, Nat.le_refl _, fun _ _ => rfl⟩
theorem St.alloc {w0 w : World} {L : List BK} (h : St w0 w L) (o : Obj) : St w0 (w.alloc o) L := h.below ((Below.refl _ _).alloc (Nat.le_refl _) o)

theorem blk_new (w : World) (o : Obj) : (w.alloc o).heap[w.heap.size]? = some o := by
  show (w.heap.push o)[w.heap.size]? = _
  simp

theorem St.box {w0 w : World} {L : List BK} (h : St w0 w L) (cs : Array Value) (t : TypeId) : St w0 (w.alloc (.cells cs t (0, 0))) (⟨w.heap.size, cs, t⟩ :: L) := by
  have k := h.alloc (.cells cs t (0, 0))
  refine ⟨k.base, ?_, ?_⟩
  · intro b hb
    rcases List.mem_cons.1 hb with rfl | hb
    · exact ⟨h.base.size, by simp, blk_new _ _⟩
    · exact k.at_ b hb
  · refine List.Pairwise.cons (fun b hb => ?_) h.apart
    have := (h.at_ b hb).2.1
    show w.heap.size ≠ b.g
    omega

/-- a store into one of the call's own blocks: the first -/
theorem St.set0 {w0 w : World} {b : BK} {L : List BK} (h : St w0 w (b :: L)) (i : Nat) (u : Value) : St w0 (w.setCell ⟨b.g, i, none⟩ u) (⟨b.g, b.cs.setIfInBounds i u, b.t⟩ :: L) := by
  obtain ⟨hb1, hb2, hb3⟩ := h.at_ b (by simp)
  have hp := h.apart
  rw [List.pairwise_cons] at hp
  refine ⟨h.base.setCell hb1 _, ?_, ?_⟩
  · intro c hc
    rcases List.mem_cons.1 hc with rfl | hc
    · exact ⟨hb1, by simpa [World.setCell] using hb2, by simp [World.setCell, Array.getElem?_modify, hb3]⟩
    · obtain ⟨h1, h2, h3⟩ := h.at_ c (by simp [hc])
      refine ⟨h1, by simpa [World.setCell] using h2, ?_⟩
      rw [Below.heap_setCell _ _ _ _ (by have := hp.1 c hc; show c.g ≠ b.g; omega)]
      exact h3
  · rw [List.pairwise_cons]
    exact ⟨fun c hc => hp.1 c hc, hp.2⟩

/-- a store into the second of the call's own blocks -/
theorem St.set1 {w0 w : World} {b0 b : BK} {L : List BK} (h : St w0 w (b0 :: b :: L)) (i : Nat) (u : Value) : St w0 (w.setCell ⟨b.g, i, none⟩ u) (b0 :: ⟨b.g, b.cs.setIfInBounds i u, b.t⟩ :: L) := by
  obtain ⟨hb1, hb2, hb3⟩ := h.at_ b (by simp)
  have hp := h.apart
  simp only [List.pairwise_cons, List.mem_cons] at hp
  refine ⟨h.base.setCell hb1 _, ?_, ?_⟩
  · intro c hc
    simp only [List.mem_cons] at hc
    rcases hc with rfl | rfl | hc
    · obtain ⟨h1, h2, h3⟩ := h.at_ c (by simp)
      refine ⟨h1, by simpa [World.setCell] using h2, ?_⟩
      rw [Below.heap_setCell _ _ _ _ (by have := hp.1 b (Or.inl rfl); show c.g ≠ b.g; omega)]
      exact h3
    · exact ⟨hb1, by simpa [World.setCell] using hb2, by simp [World.setCell, Array.getElem?_modify, hb3]⟩
    · obtain ⟨h1, h2, h3⟩ := h.at_ c (by simp [hc])
      refine ⟨h1, by simpa [World.setCell] using h2, ?_⟩
      rw [Below.heap_setCell _ _ _ _ (by have := hp.2.1 c hc; show c.g ≠ b.g; omega)]
      exact h3
  · simp only [List.pairwise_cons, List.mem_cons]
    refine ⟨?_, ⟨fun c hc => hp.2.1 c hc, hp.2.2⟩⟩
    rintro c (rfl | hc)
    · exact hp.1 b (Or.inl rfl)
    · exact hp.1 c (Or.inr hc)

theorem St.blk {w0 w : World} {L : List BK} (h : St w0 w L) (b : BK) (hb : b ∈ L) : w.heap[b.g]? = some (.cells b.cs b.t (0, 0)) := (h.at_ b hb).2.2
theorem St.c0 {w0 w : World} {b : BK} {L : List BK} (h : St w0 w (b :: L)) : (∀ i, w.cell? ⟨b.g, i, none⟩ = b.cs[i]?) ∧ (∀ i, w.frozen? ⟨b.g, i, none⟩ = false) ∧ b.g < w.heap.size :=
  have k := h.blk b (by simp)
  ⟨fun i => cell_of_row w b.g i b.cs b.t (0, 0) k, fun i => by simp [World.frozen?, k], (h.at_ b (by simp)).2.1⟩
theorem St.c1 {w0 w : World} {a b : BK} {L : List BK} (h : St w0 w (a :: b :: L)) : (∀ i, w.cell? ⟨b.g, i, none⟩ = b.cs[i]?) ∧ (∀ i, w.frozen? ⟨b.g, i, none⟩ = false) ∧ b.g < w.heap.size :=
  have k := h.blk b (by simp)
  ⟨fun i => cell_of_row w b.g i b.cs b.t (0, 0) k, fun i => by simp [World.frozen?, k], (h.at_ b (by simp)).2.1⟩
theorem St.c2 {w0 w : World} {a a' b : BK} {L : List BK} (h : St w0 w (a :: a' :: b :: L)) : (∀ i, w.cell? ⟨b.g, i, none⟩ = b.cs[i]?) ∧ (∀ i, w.frozen? ⟨b.g, i, none⟩ = false) ∧ b.g < w.heap.size :=
  have k := h.blk b (by simp)
  ⟨fun i => cell_of_row w b.g i b.cs b.t (0, 0) k, fun i => by simp [World.frozen?, k], (h.at_ b (by simp)).2.1⟩
theorem St.c3 {w0 w : World} {a a' a'' b : BK} {L : List BK} (h : St w0 w (a :: a' :: a'' :: b :: L)) : (∀ i, w.cell? ⟨b.g, i, none⟩ = b.cs[i]?) ∧ (∀ i, w.frozen? ⟨b.g, i, none⟩ = false) ∧ b.g < w.heap.size :=
  have k := h.blk b (by simp)
  ⟨fun i => cell_of_row w b.g i b.cs b.t (0, 0) k, fun i => by simp [World.frozen?, k], (h.at_ b (by simp)).2.1⟩

section
variable {P : Program} {ops : Array Oper} {rest : List Oper} {o : Oper} {a : Act} {Q : Exit → Act → World → Prop} {w0 w : World} {L : List BK}

/-- picks the operation that writes slot N -/
theorem at_dst {N : Tmp} (_h : o.dst = some N) (h : wpList P ops Q (o :: rest) a w) : wpList P ops Q (o :: rest) a w := h

/-- A variable in memory is laid: behind it the world is a letter. -/
theorem wpList_box (hst : St w0 w L) (t : TypeId) (cs : Array Value) (hgd : o.guard = none)
    (hrun : (execOp a.eval o).run P w = .ok (.value (.pointer (some ⟨w.heap.size, 0, none⟩))) (w.alloc (.cells cs t (0, 0))))
    (h : ∀ g w1, St w0 w1 (⟨g, cs, t⟩ :: L) → wpList P ops Q rest (a.put o.dst (.pointer (some ⟨g, 0, none⟩))) w1) : wpList P ops Q (o :: rest) a w := by
  refine wpList_plain hgd fun K hK => ?_
  unfold Oper.wp
  rw [hrun]
  exact hK _ _ (h _ _ (hst.box cs t))

/-- A whole struct is read out of one of the call's own blocks. -/
theorem wpList_load_own (hst : St w0 w L) (b : BK) (hb : b ∈ L) (hgd : o.guard = none) (x : Operand) (ho : o.op = .load b.t x)
    (hx : a.eval x = .pointer (some ⟨b.g, 0, none⟩)) (d : TypeDesc)
    (hd : (match d with | .struct _ | .array _ _ => true | _ => false) = true) (hu : P.underlying b.t = some d) (hi : (P.info? b.t).map (·.size) = some b.cs.size)
    (h : wpList P ops Q rest (a.put o.dst (.agg b.cs)) w) : wpList P ops Q (o :: rest) a w :=
  wpList_load_row hgd b.t x ho b.g hx b.t b.cs (0, 0) d (hst.blk b hb) hu (by cases d <;> simp_all) hi h
end

theorem ret_bool {a b : Bool} (h : a = b) : Ending.returned (.bool a) = .returned (.bool b) := by rw [h]
theorem ret_int {k : IntKind} {a b : Int} (h : a = b) : Ending.returned (.int k a) = .returned (.int k b) := by rw [h]
end Go.Proofs.YtklpamhhbigjfaaDoor
