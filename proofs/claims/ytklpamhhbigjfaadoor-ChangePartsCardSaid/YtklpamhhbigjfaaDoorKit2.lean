/- The kit, more: stores into the call's own blocks, results that lie in memory. -/
import Derived.Test.YtklpamhhbigjfaaDoorKit
import Derived.Deep.QuietTactic
import Derived.BigQuiet
namespace Go.Proofs.YtklpamhhbigjfaaDoor
open Go.RowKit

theorem extract_sub (r : ByteArray) (a l : Nat) (h : a + l ≤ r.size) : (r.extract a r.size).extract 0 l = r.extract a (a + l) := by
  apply ByteArray.ext
  simp only [ByteArray.data_extract, Array.extract_extract]
  congr 1
  omega

abbrev rangeV (lo hi : ByteArray) (e : Bool) : Array Value := #[.string lo, .string hi, .bool e]

def isAggB : TypeDesc → Bool | .struct _ => true | .array _ _ => true | _ => false

theorem below_setRow {w0 w : World} {B g : Nat} (h : Below B w0 w) (hB : B ≤ g) (cs : Array Value) : Below B w0 (w.setRow g cs) :=
  h.trans ⟨rfl, rfl, rfl, by simp [World.setRow], fun k hk => by
    simp only [World.setRow, Array.getElem?_modify]
    rw [if_neg (by omega)]⟩

theorem St.row {w0 w : World} {L1 L2 : List BK} {b : BK} (h : St w0 w (L1 ++ b :: L2)) (cs : Array Value) : St w0 (w.setRow b.g cs) (L1 ++ ⟨b.g, cs, b.t⟩ :: L2) := by
  obtain ⟨hb1, hb2, hb3⟩ := h.at_ b (by simp)
  have hp := h.apart
  rw [List.pairwise_append, List.pairwise_cons] at hp
  refine ⟨below_setRow h.base hb1 _, ?_, ?_⟩
  · intro c hc
    have hne : c ∈ L1 ∨ c ∈ L2 → c.g ≠ b.g := by
      rintro (hc | hc)
      · have := hp.2.2 c hc b (by simp)
        omega
      · have := hp.2.1.1 c hc
        omega
    have old : c ∈ L1 ∨ c ∈ L2 → w0.heap.size ≤ c.g ∧ c.g < (w.setRow b.g cs).heap.size ∧ (w.setRow b.g cs).heap[c.g]? = some (.cells c.cs c.t (0, 0)) := by
      intro hc
      have hne' := hne hc
      obtain ⟨h1, h2, h3⟩ := h.at_ c (by simp; rcases hc with hc | hc <;> simp [hc])
      refine ⟨h1, by simpa [World.setRow] using h2, ?_⟩
      simp only [World.setRow, Array.getElem?_modify]
      rw [if_neg (by omega)]
      exact h3
    rw [List.mem_append, List.mem_cons] at hc
    rcases hc with hc | rfl | hc
    · exact old (Or.inl hc)
    · exact ⟨hb1, by simpa [World.setRow] using hb2, setRow_heap w b.g b.cs cs b.t (0, 0) hb3⟩
    · exact old (Or.inr hc)
  · rw [List.pairwise_append, List.pairwise_cons]
    refine ⟨hp.1, ⟨fun c hc => hp.2.1.1 c hc, hp.2.1.2⟩, fun a ha c hc => ?_⟩
    rw [List.mem_cons] at hc
    rcases hc with rfl | hc
    · exact hp.2.2 a ha b (by simp)
    · exact hp.2.2 a ha c (by simp [hc])

section
variable {P : Program} {ops : Array Oper} {rest : List Oper} {o : Oper} {a : Act} {Q : Exit → Act → World → Prop} {w0 w : World}

theorem at_store {t : TypeId} {p : Tmp} {v : Operand} (_ho : o.op = .store t (.tmp p) v) (h : wpList P ops Q (o :: rest) a w) : wpList P ops Q (o :: rest) a w := h

/-- A whole struct is stored into one of the call's own blocks. -/
theorem wpList_put {L1 L2 : List BK} {b : BK} (hst : St w0 w (L1 ++ b :: L2)) (hgd : o.guard = none) (x y : Operand) (ho : o.op = .store b.t x y)
    (cs : Array Value) (hx : a.eval x = .pointer (some ⟨b.g, 0, none⟩)) (hy : a.eval y = .agg cs)
    (hi : (P.info? b.t).map (·.size) = some cs.size) (hs : b.cs.size = cs.size) (h1 : cs.all (·.oneCell') = true)
    (h : ∀ w1, St w0 w1 (L1 ++ ⟨b.g, cs, b.t⟩ :: L2) → wpList P ops Q rest (a.put o.dst undef) w1) : wpList P ops Q (o :: rest) a w :=
  wpList_store_row hgd b.t x y ho b.g cs hx hy b.t b.cs (hst.blk b (by simp)) hi hs h1 (h _ (hst.row cs))

theorem wpList_put0 {L : List BK} {b : BK} (hst : St w0 w (b :: L)) (hgd : o.guard = none) (x y : Operand) (ho : o.op = .store b.t x y)
    (cs : Array Value) (hx : a.eval x = .pointer (some ⟨b.g, 0, none⟩)) (hy : a.eval y = .agg cs)
    (hi : (P.info? b.t).map (·.size) = some cs.size) (hs : b.cs.size = cs.size) (h1 : cs.all (·.oneCell') = true)
    (h : ∀ w1, St w0 w1 (⟨b.g, cs, b.t⟩ :: L) → wpList P ops Q rest (a.put o.dst undef) w1) : wpList P ops Q (o :: rest) a w :=
  wpList_put (L1 := []) hst hgd x y ho cs hx hy hi hs h1 h
theorem wpList_putB {L : List BK} {b0 b : BK} (hst : St w0 w (b0 :: b :: L)) (hgd : o.guard = none) (x y : Operand) (ho : o.op = .store b.t x y)
    (cs : Array Value) (hx : a.eval x = .pointer (some ⟨b.g, 0, none⟩)) (hy : a.eval y = .agg cs)
    (hi : (P.info? b.t).map (·.size) = some cs.size) (hs : b.cs.size = cs.size) (h1 : cs.all (·.oneCell') = true)
    (h : ∀ w1, St w0 w1 (b0 :: ⟨b.g, cs, b.t⟩ :: L) → wpList P ops Q rest (a.put o.dst undef) w1) : wpList P ops Q (o :: rest) a w :=
  wpList_put (L1 := [b0]) hst hgd x y ho cs hx hy hi hs h1 h

/-- One cell is stored into one of the call's own blocks. -/
theorem wpList_put1 {L1 L2 : List BK} {b : BK} (hst : St w0 w (L1 ++ b :: L2)) (i : Nat) (u : Value) (cs : Array Value) (hcs : b.cs.setIfInBounds i u = cs) (hgd : o.guard = none)
    (hrun : (execOp a.eval o).run P w = .ok (.value undef) (w.setCell ⟨b.g, i, none⟩ u))
    (h : ∀ w1, St w0 w1 (L1 ++ ⟨b.g, cs, b.t⟩ :: L2) → wpList P ops Q rest (a.put o.dst undef) w1) : wpList P ops Q (o :: rest) a w := by
  refine wpList_plain hgd fun K hK => ?_
  unfold Oper.wp
  rw [hrun]
  have hb := hst.blk b (by simp)
  rw [setCell_eq_setRow w b.g i b.cs b.t (0, 0) u hb, hcs]
  exact hK _ _ (h _ (hst.row cs))

theorem wpList_putF0 {L : List BK} {b : BK} (hst : St w0 w (b :: L)) (i : Nat) (u : Value) (cs : Array Value) (hcs : b.cs.setIfInBounds i u = cs) (hgd : o.guard = none)
    (hrun : (execOp a.eval o).run P w = .ok (.value undef) (w.setCell ⟨b.g, i, none⟩ u))
    (h : ∀ w1, St w0 w1 (⟨b.g, cs, b.t⟩ :: L) → wpList P ops Q rest (a.put o.dst undef) w1) : wpList P ops Q (o :: rest) a w :=
  wpList_put1 (L1 := []) hst i u cs hcs hgd hrun h

/-- A whole struct is read, under a guard that is decided. -/
theorem wpList_load_g {L : List BK} (hst : St w0 w L) (b : BK) (hb : b ∈ L) (hw : Region.wanted o (yielded ops a.tmps) = true) (x : Operand) (ho : o.op = .load b.t x)
    (hx : a.eval x = .pointer (some ⟨b.g, 0, none⟩)) {d : TypeDesc} (hd : isAggB d = true)
    (hu : P.underlying b.t = some d) (hi : (P.info? b.t).map (·.size) = some b.cs.size)
    (h : wpList P ops Q rest (a.put o.dst (.agg b.cs)) w) : wpList P ops Q (o :: rest) a w := by
  refine wpList_step fun K hK => ?_
  rw [if_pos hw]
  exact wp_load_row b.t x ho b.g hx b.t b.cs (0, 0) d (hst.blk b hb) hu (by cases d <;> simp_all [isAggB]) hi (hK _ _ h)

/-- an operation that leaves a value and a world: each a letter behind it -/
theorem wpList_run {v : Value} {w1 : World} (hgd : o.guard = none) (hrun : (execOp a.eval o).run P w = .ok (.value v) w1)
    (h : wpList P ops Q rest (a.put o.dst v) w1) : wpList P ops Q (o :: rest) a w := by
  refine wpList_plain hgd fun K hK => ?_
  unfold Oper.wp
  rw [hrun]
  exact hK _ _ h
end

/-- results: a struct that lies in memory, and a second one -/
theorem results_cell_tmp {P : Program} {fn : Func} {p q : Tmp} {ty : TypeId} (h : fn.results = #[.cell p ty, .tmp q]) (tmps : Array Value) (w : World) (g : Nat) (t : TypeId) (cs : Array Value) (fr : Nat × Nat) (d : TypeDesc)
    (hp : tmps.getD p undef = .pointer (some ⟨g, 0, none⟩)) (hg : w.heap[g]? = some (.cells cs t fr))
    (hu : P.underlying ty = some d) (hd : isAggB d = true) (hi : (P.info? ty).map (·.size) = some cs.size) :
    (results fn tmps).run P w = .ok (.tuple #[.agg cs, tmps.getD q undef]) w := by
  have hp' : tmps[p]?.getD undef = .pointer (some ⟨g, 0, none⟩) := by simpa using hp
  simp [results, h, hp', asAddr, run_loadVar_row w g t ty cs fr d hg hu (by cases d <;> simp_all [isAggB]) hi]

/-! ### A region that draws its order, whose operations read the call's own blocks and whose callees make memory alone: one walk in the order of the text -/
/-- the worlds in which the call's own blocks lie so -/
structure SW (w0 : World) (L : List BK) where
  val : World
  property : St w0 val L

theorem wp_region_st {P : Program} {id : Nat} {Q : Exit → Act → World → Prop} {a : Act} {w0 w : World} {l : List Oper} {L : List BK} (hst : St w0 w L) (hm : P.follows .mixedOrders = true) (hB : Region.lexB .any l.toArray = true)
    (h : wpQuiet P l.toArray (fun w' => ∃ u : SW w0 L, w' = u.val) (fun a' => ∀ w', (∃ u : SW w0 L, w' = u.val) → Q .normal a' w') l a) : (Code.region id l.toArray true).wp P Q a w :=
  wp_region_quiet (C := fun w' => ∃ u : SW w0 L, w' = u.val) hm hB ⟨⟨w.drew, hst.drew⟩, rfl⟩ (by simpa using h)

theorem quiet_load_st {P : Program} {o : Oper} {a : Act} {w0 : World} {L : List BK} {K : Act → Prop} (b : BK) (hb : b ∈ L) (x : Operand) (ho : o.op = .load b.t x)
    (hx : a.eval x = .pointer (some ⟨b.g, 0, none⟩)) {d : TypeDesc} (hd : isAggB d = true) (hu : P.underlying b.t = some d) (hi : (P.info? b.t).map (·.size) = some b.cs.size)
    (hk : K (a.put o.dst (.agg b.cs))) : o.quiet P a (fun w' => ∃ u : SW w0 L, w' = u.val) K := by
  refine ⟨.agg b.cs, ?_, hk⟩
  rintro w ⟨u, rfl⟩
  unfold Oper.quietAt execOp
  simp only [ho, hx, Instr.loadAt, Instr.sureAddr, Sem.run_bind, Sem.run_pure, Result.andThen_ok, run_loadVar_row u.val b.g b.t b.t b.cs (0, 0) d (u.property.blk b hb) hu (by cases d <;> simp_all [isAggB]) hi]
  exact ⟨rfl, rfl⟩
theorem St.facts1 {w0 w : World} {a : BK} (h : St w0 w [a]) : Nonempty (SW w0 [a]) ∧ ∀ (u : SW w0 [a]) (i : Nat), u.val.cell? ⟨a.g, i, none⟩ = a.cs[i]? :=
  ⟨⟨⟨w, h⟩⟩, fun u => u.property.c0.1⟩
theorem St.facts2 {w0 w : World} {a b : BK} (h : St w0 w [a, b]) : Nonempty (SW w0 [a, b]) ∧ (∀ (u : SW w0 [a, b]) (i : Nat), u.val.cell? ⟨a.g, i, none⟩ = a.cs[i]?) ∧ ∀ (u : SW w0 [a, b]) (i : Nat), u.val.cell? ⟨b.g, i, none⟩ = b.cs[i]? :=
  ⟨⟨⟨w, h⟩⟩, fun u => u.property.c0.1, fun u => u.property.c1.1⟩
theorem St.facts3 {w0 w : World} {a b c : BK} (h : St w0 w [a, b, c]) : Nonempty (SW w0 [a, b, c]) ∧ (∀ (u : SW w0 [a, b, c]) (i : Nat), u.val.cell? ⟨a.g, i, none⟩ = a.cs[i]?) ∧ (∀ (u : SW w0 [a, b, c]) (i : Nat), u.val.cell? ⟨b.g, i, none⟩ = b.cs[i]?) ∧ ∀ (u : SW w0 [a, b, c]) (i : Nat), u.val.cell? ⟨c.g, i, none⟩ = c.cs[i]? :=
  ⟨⟨⟨w, h⟩⟩, fun u => u.property.c0.1, fun u => u.property.c1.1, fun u => u.property.c2.1⟩
theorem calls_st {P : Program} {f : FuncId} {args : Array Value} {w0 : World} {L : List BK} (u : SW w0 L) {v : Value}
    (h : Calls P f args u.val fun e w' => e = .returned v ∧ Below u.val.heap.size u.val w') : Calls P f args u.val fun e w'' => e = .returned v ∧ ∃ u' : SW w0 L, w'' = u'.val :=
  h.mono fun _ _ ⟨he, hb⟩ => ⟨he, ⟨_, u.property.below hb⟩, rfl⟩
theorem calls_st_same {P : Program} {f : FuncId} {args : Array Value} {w0 : World} {L : List BK} (u : SW w0 L) {v : Value}
    (h : Calls P f args u.val fun e w' => e = .returned v ∧ u.val = w') : Calls P f args u.val fun e w'' => e = .returned v ∧ ∃ u' : SW w0 L, w'' = u'.val :=
  h.mono fun _ _ ⟨he, hb⟩ => ⟨he, u, hb.symm⟩
end Go.Proofs.YtklpamhhbigjfaaDoor
