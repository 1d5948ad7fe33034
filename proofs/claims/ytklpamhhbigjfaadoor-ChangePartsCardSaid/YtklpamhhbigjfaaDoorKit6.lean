/- The kit, more: maps with integer keys that the call itself makes, known entry by entry. -/
import Derived.Test.YtklpamhhbigjfaaDoorKit5
import Derived.WideMake
import Derived.ChangeMaps5
namespace Go.Proofs.YtklpamhhbigjfaaDoor
open Go.RowKit Go.ChangeMaps

theorem run_insert_int {P : Program} {w : World} {mty kt et : TypeId} {r clock : Nat} {es : Array MapEntry} (k : IntKind) (n : Int) (val : Value) (hm : P.underlying mty = some (.map kt et)) (hk : P.underlying kt = some (.int k)) (hb : w.heap[r]? = some (.map es clock))
    (hf : Instr.findNow (.int k) (.int k n) es.toList 0 = some none) :
    (Instr.mapUpdate mty (.map (some r)) (.int k n) val).run P w = .ok () (setBlock w r (.map (es.push { key := .int k n, val := val, born := clock }) (clock + 1))) := by
  have hc : (Instr.checkKey false 10000 kt (.int k n)).run P w = .ok () w := MapKept.run_checkKey (k := .int k n) hk (by simp [MapKept.IsKey]) false 9999
  simp [Instr.mapUpdate, run_underlying hm, MapKept.run_getObj_map hb, hc, MapKept.run_findKey hk hf, MapKept.run_setObj_map _ hb, Result.andThen, setBlock]

theorem run_lookup_hit {P : Program} {w : World} {mty kt et : TypeId} {r clock : Nat} {es : Array MapEntry} (k : IntKind) (n : Int) (i : Nat) (v : Value) (hm : P.underlying mty = some (.map kt et)) (hk : P.underlying kt = some (.int k)) (hb : w.heap[r]? = some (.map es clock))
    (hf : Instr.findNow (.int k) (.int k n) es.toList 0 = some (some (i, v))) :
    (Instr.lookup mty (.map (some r)) (.int k n) true).run P w = .ok (.tuple #[v, .bool true]) w := by
  have hc : (Instr.checkKey es.isEmpty 10000 kt (.int k n)).run P w = .ok () w := MapKept.run_checkKey (k := .int k n) hk (by simp [MapKept.IsKey]) _ 9999
  simp [Instr.lookup, run_underlying hm, MapKept.run_getObj_map hb, hc, MapKept.run_findKey hk hf, Result.andThen]

theorem run_lookup_miss {P : Program} {w : World} {mty kt et : TypeId} {r clock : Nat} {es : Array MapEntry} (k : IntKind) (n : Int) (z : Value) (hm : P.underlying mty = some (.map kt et)) (hk : P.underlying kt = some (.int k)) (hz : (zeroValue et).run P w = .ok z w) (hb : w.heap[r]? = some (.map es clock))
    (hf : Instr.findNow (.int k) (.int k n) es.toList 0 = some none) :
    (Instr.lookup mty (.map (some r)) (.int k n) true).run P w = .ok (.tuple #[z, .bool false]) w := by
  have hc : (Instr.checkKey es.isEmpty 10000 kt (.int k n)).run P w = .ok () w := MapKept.run_checkKey (k := .int k n) hk (by simp [MapKept.IsKey]) _ 9999
  simp [Instr.lookup, run_underlying hm, MapKept.run_getObj_map hb, hc, MapKept.run_findKey hk hf, hz, Result.andThen]

theorem below_setBlock {w0 w : World} {B r : Nat} {es : Array MapEntry} {c : Nat} (h : Below B w0 w) (hr : B ≤ r) (hb : w.heap[r]? = some (.map es c)) (o : Obj) : Below B w0 (setBlock w r o) :=
  h.trans ⟨rfl, rfl, rfl, by simp [setBlock], fun k hk => heap_setBlock_other hb o (by omega)⟩

/-- One map of the call's own besides the blocks of cells. -/
structure Sm (w0 w : World) (gm : Nat) (es : Array MapEntry) (n : Nat) (L : List BK) : Prop where
  st : St w0 w L
  map : w.heap[gm]? = some (.map es n)
  ge : w0.heap.size ≤ gm
  ne : ∀ b ∈ L, b.g ≠ gm

theorem Sm.lt {w0 w : World} {gm : Nat} {es : Array MapEntry} {n : Nat} {L : List BK} (h : Sm w0 w gm es n L) : gm < w.heap.size := (Array.getElem?_eq_some_iff.1 h.map).1
theorem Sm.start {w0 w : World} {L : List BK} (h : St w0 w L) : Sm w0 (w.alloc (.map #[] 0)) w.heap.size #[] 0 L :=
  ⟨h.alloc _, blk_new _ _, h.base.size, fun b hb => Nat.ne_of_lt (h.at_ b hb).2.1⟩
theorem Sm.below {w0 w w1 : World} {gm : Nat} {es : Array MapEntry} {n : Nat} {L : List BK} (h : Sm w0 w gm es n L) (k : Below w.heap.size w w1) : Sm w0 w1 gm es n L :=
  ⟨h.st.below k, (k.block _ h.lt).trans h.map, h.ge, h.ne⟩
theorem Sm.put {w0 w : World} {gm : Nat} {es : Array MapEntry} {n : Nat} {L : List BK} (h : Sm w0 w gm es n L) (es' : Array MapEntry) (n' : Nat) : Sm w0 (setBlock w gm (.map es' n')) gm es' n' L := by
  refine ⟨⟨below_setBlock h.st.base h.ge h.map _, fun b hb => ?_, h.st.apart⟩, heap_setBlock_same h.map _, h.ge, h.ne⟩
  obtain ⟨h1, h2, h3⟩ := h.st.at_ b hb
  exact ⟨h1, by simpa [setBlock] using h2, by rw [heap_setBlock_other h.map _ (h.ne b hb)]; exact h3⟩

theorem St.sub {w0 w : World} {L L' : List BK} (h : St w0 w L) (hs : L'.Sublist L) : St w0 w L' := ⟨h.base, fun b hb => h.at_ b (hs.subset hb), h.apart.sublist hs⟩
theorem Sm.sub {w0 w : World} {gm : Nat} {es : Array MapEntry} {n : Nat} {L L' : List BK} (h : Sm w0 w gm es n L) (hs : L'.Sublist L) : Sm w0 w gm es n L' := ⟨h.st.sub hs, h.map, h.ge, fun b hb => h.ne b (hs.subset hb)⟩
section
variable {P : Program} {ops : Array Oper} {rest : List Oper} {o : Oper} {a : Act} {Q : Exit → Act → World → Prop} {w0 w : World} {L : List BK} {gm : Nat} {es : Array MapEntry} {n : Nat}

theorem at_ins {t : TypeId} {m v : Operand} {k : Int} (_ho : o.op = .insert t m (.const (.int .i64 k)) v) (h : wpList P ops Q (o :: rest) a w) : wpList P ops Q (o :: rest) a w := h
theorem wpList_makeMap (hst : St w0 w L) (t : TypeId) (hgd : o.guard = none) (ho : o.op = .makeMap t none)
    (h : ∀ gm w1, Sm w0 w1 gm #[] 0 L → wpList P ops Q rest (a.put o.dst (.map (some gm))) w1) : wpList P ops Q (o :: rest) a w := by
  refine wpList_plain hgd fun K hK => ?_
  unfold Oper.wp
  have e : (execOp a.eval o).run P w = .ok (.value (.map (some w.heap.size))) (w.alloc (.map #[] 0)) := by
    unfold execOp
    simp only [ho, Option.map, Sem.run_bind, run_makeMap_plain, Result.andThen_ok, Sem.run_pure]
  rw [e]
  exact hK _ _ (h _ _ (Sm.start hst))

theorem wpList_insert_new (hsm : Sm w0 w gm es n L) (mty kt et : TypeId) (m x v : Operand) (k : IntKind) (i : Int) (val : Value) (hgd : o.guard = none) (ho : o.op = .insert mty m x v)
    (hm : a.eval m = .map (some gm)) (hx : a.eval x = .int k i) (hv : a.eval v = val) (hu : P.underlying mty = some (.map kt et)) (hk : P.underlying kt = some (.int k))
    (hf : Instr.findNow (.int k) (.int k i) es.toList 0 = some none) (es' : Array MapEntry) (hes : es.push { key := .int k i, val := val, born := n } = es')
    (h : ∀ w1, Sm w0 w1 gm es' (n + 1) L → wpList P ops Q rest (a.put o.dst undef) w1) : wpList P ops Q (o :: rest) a w := by
  refine wpList_plain hgd fun K hK => ?_
  unfold Oper.wp
  have e : (execOp a.eval o).run P w = .ok .skip (setBlock w gm (.map es' (n + 1))) := by
    unfold execOp
    simp only [ho, hm, hx, hv, Sem.run_bind, run_insert_int k i val hu hk hsm.map hf, hes, Result.andThen_ok, Sem.run_pure]
  rw [e]
  exact hK _ _ (h _ (hsm.put es' (n + 1)))
end
end Go.Proofs.YtklpamhhbigjfaaDoor
