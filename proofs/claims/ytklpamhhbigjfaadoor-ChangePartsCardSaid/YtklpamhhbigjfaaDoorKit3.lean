/- The kit, more: 'return a, b' of two structs: a region that draws its order, of two loads and two stores. -/
import Derived.Test.YtklpamhhbigjfaaDoorKit2
import Derived.OrdersHeld
namespace Go.Proofs.YtklpamhhbigjfaaDoor
open Go.RowKit

theorem wpOp_of {P : Program} {ops : Array Oper} {Q : Exit → Act → World → Prop} {i : Nat} {o : Oper} {K : Act → World → Prop} {a : Act} {w : World} (h : ops[i]? = some o) (hg : o.guard = none) (hw : o.wp P a w K Q) : wpOp P ops Q i K a w := by
  unfold wpOp
  rw [h]
  simp only [Region.wanted, hg, if_true]
  exact Or.inl hw

theorem yields_load {P : Program} {ops : Array Oper} {S : World → Prop} {o : Oper} {a : Act} {b : BK} (hS : ∀ w, S w → w.heap[b.g]? = some (.cells b.cs b.t (0, 0))) (hgd : o.guard = none) (x : Operand) (ho : o.op = .load b.t x)
    (hx : a.eval x = .pointer (some ⟨b.g, 0, none⟩)) {d : TypeDesc} (hd : isAggB d = true) (hu : P.underlying b.t = some d) (hi : (P.info? b.t).map (·.size) = some b.cs.size) : YieldsIf P ops S o (.agg b.cs) a := by
  refine Or.inl ⟨by simp [Region.wanted, hgd], fun w hw => ?_⟩
  unfold execOp
  simp only [ho, hx, Instr.loadAt, Instr.sureAddr, Sem.run_bind, Sem.run_pure, Result.andThen_ok, run_loadVar_row w b.g b.t b.t b.cs (0, 0) d (hS w hw) hu (by cases d <;> simp_all [isAggB]) hi]

/-- blocks, the latest first: c (the second value), b (the first value), q (the second result), p (the first result) -/
theorem region_two {P : Program} {id : Nat} {Q : Exit → Act → World → Prop} {a : Act} {w0 w : World} {L : List BK} {c b q p : BK} {l : List Oper} {o0 o1 o2 o3 : Oper} {d0 d1 : Tmp} {x0 x1 y2 y3 : Operand}
    (hl : l = [o0, o1, o2, o3]) (hst : St w0 w (c :: b :: q :: p :: L)) (hm : P.follows .mixedOrders = true)
    (hg0 : o0.guard = none) (hg1 : o1.guard = none) (hg2 : o2.guard = none) (hg3 : o3.guard = none)
    (hn : Region.noSelect l.toArray = true)
    (f0 : Region.free .any l.toArray #[false, false, false, false] 0 = true) (r0 : (Region.ready .any l.toArray #[false, false, false, false]).contains 0 = true)
    (f1 : Region.free .any l.toArray #[true, false, false, false] 1 = true) (r1 : (Region.ready .any l.toArray #[true, false, false, false]).contains 1 = true)
    (r2 : Region.ready .any l.toArray #[true, true, false, false] = [2]) (r3 : Region.ready .any l.toArray #[true, true, true, false] = [3])
    (r5 : Region.ready .any l.toArray #[true, true, true, true] = [])
    (ho0 : o0.op = .load b.t x0) (ho1 : o1.op = .load c.t x1) (ho2 : o2.op = .store p.t y2 (.tmp d0)) (ho3 : o3.op = .store q.t y3 (.tmp d1))
    (hd0 : o0.dst = some d0) (hd1 : o1.dst = some d1) (hd2 : o2.dst = none) (hd3 : o3.dst = none)
    (hx0 : a.eval x0 = .pointer (some ⟨b.g, 0, none⟩)) (hx1 : (a.put (some d0) (.agg b.cs)).eval x1 = .pointer (some ⟨c.g, 0, none⟩))
    {a2 : Act} (ha2 : (a.put (some d0) (.agg b.cs)).put (some d1) (.agg c.cs) = a2)
    (hy2 : a2.eval y2 = .pointer (some ⟨p.g, 0, none⟩)) (hy3 : a2.eval y3 = .pointer (some ⟨q.g, 0, none⟩)) (hv0 : a2.eval (.tmp d0) = .agg b.cs) (hv1 : a2.eval (.tmp d1) = .agg c.cs)
    {db dc : TypeDesc} (hdb : isAggB db = true) (hub : P.underlying b.t = some db) (hib : (P.info? b.t).map (·.size) = some b.cs.size)
    (hdc : isAggB dc = true) (huc : P.underlying c.t = some dc) (hic : (P.info? c.t).map (·.size) = some c.cs.size)
    (hip : (P.info? p.t).map (·.size) = some b.cs.size) (hiq : (P.info? q.t).map (·.size) = some c.cs.size)
    (hsp : p.cs.size = b.cs.size) (hsq : q.cs.size = c.cs.size) (hb1 : b.cs.all (·.oneCell') = true) (hc1 : c.cs.all (·.oneCell') = true)
    (hQ0 : ∀ ch a v w, Q (.panic ch) (Act.put a (some d0) v) w → Q (.panic ch) a w) (hQ1 : ∀ ch a v w, Q (.panic ch) (Act.put a (some d1) v) w → Q (.panic ch) a w)
    (h : ∀ w1, St w0 w1 (c :: b :: ⟨q.g, c.cs, q.t⟩ :: ⟨p.g, b.cs, p.t⟩ :: L) → Q .normal a2 w1) : (Code.region id l.toArray true).wp P Q a w := by
  subst hl
  have S0 : ∀ w', St w0 w' (c :: b :: q :: p :: L) → True := fun _ _ => trivial
  refine wp_region_held (S := fun w' => ∃ u v, St w0 w' (c :: b :: ⟨q.g, u, q.t⟩ :: ⟨p.g, v, p.t⟩ :: L)) hm ?_
  have hst' : St w0 w.drew (c :: b :: q :: p :: L) := hst.drew
  refine wpAnyH_take (i := 0) (oi := o0) (v := .agg b.cs) (fuel := 3) rfl hn f0 r0 (fun ch a w hh => hQ0 ch a _ w (hd0 ▸ hh)) (yields_load (fun w' ⟨u, v, hw⟩ => hw.blk b (by simp)) hg0 x0 ho0 hx0 hdb hub hib) ⟨q.cs, p.cs, hst'⟩ ?_
  rw [hd0]
  refine wpAnyH_take (i := 1) (oi := o1) (v := .agg c.cs) (fuel := 2) rfl hn f1 r1 (fun ch a w hh => hQ1 ch a _ w (hd1 ▸ hh)) (yields_load (fun w' ⟨u, v, hw⟩ => hw.blk c (by simp)) hg1 x1 ho1 hx1 hdc huc hic) ⟨q.cs, p.cs, hst'⟩ ?_
  rw [hd1, ha2]
  refine wpAnyH_all (fuel := 1) (rs := [2]) r2 (by simp) ?_
  intro i hi
  simp only [List.mem_cons, List.not_mem_nil, or_false] at hi
  subst hi
  refine wpOp_of (o := o2) rfl hg2 ?_
  refine wp_store_row p.t y2 (.tmp d0) ho2 p.g b.cs hy2 hv0 p.t p.cs (hst'.blk p (by simp)) hip hsp hb1 ?_
  rw [hd2]
  have h2 : St w0 (w.drew.setRow p.g b.cs) (c :: b :: q :: ⟨p.g, b.cs, p.t⟩ :: L) := St.row (L1 := [c, b, q]) hst' b.cs
  refine ⟨⟨q.cs, b.cs, h2⟩, ?_⟩
  refine wpAnyH_all (fuel := 0) (rs := [3]) r3 (by simp) ?_
  intro i hi
  simp only [List.mem_cons, List.not_mem_nil, or_false] at hi
  subst hi
  refine wpOp_of (o := o3) rfl hg3 ?_
  refine wp_store_row q.t y3 (.tmp d1) ho3 q.g c.cs hy3 hv1 q.t q.cs (h2.blk q (by simp)) hiq hsq hc1 ?_
  rw [hd3]
  have h3 : St w0 ((w.drew.setRow p.g b.cs).setRow q.g c.cs) (c :: b :: ⟨q.g, c.cs, q.t⟩ :: ⟨p.g, b.cs, p.t⟩ :: L) := St.row (L1 := [c, b]) h2 c.cs
  exact ⟨⟨c.cs, b.cs, h3⟩, wpAnyH_done r5 (h _ h3) 0⟩

theorem St.facts4 {w0 w : World} {a b c d : BK} (h : St w0 w [a, b, c, d]) : Nonempty (SW w0 [a, b, c, d]) ∧ (∀ (u : SW w0 [a, b, c, d]) (i : Nat), u.val.cell? ⟨a.g, i, none⟩ = a.cs[i]?) ∧ (∀ (u : SW w0 [a, b, c, d]) (i : Nat), u.val.cell? ⟨b.g, i, none⟩ = b.cs[i]?) ∧ (∀ (u : SW w0 [a, b, c, d]) (i : Nat), u.val.cell? ⟨c.g, i, none⟩ = c.cs[i]?) ∧ ∀ (u : SW w0 [a, b, c, d]) (i : Nat), u.val.cell? ⟨d.g, i, none⟩ = d.cs[i]? :=
  ⟨⟨⟨w, h⟩⟩, fun u => u.property.c0.1, fun u => u.property.c1.1, fun u => u.property.c2.1, fun u => u.property.c3.1⟩

/-- results: two structs that lie in memory -/
theorem results_cell_cell {P : Program} {fn : Func} {p q : Tmp} {ty ty' : TypeId} (h : fn.results = #[.cell p ty, .cell q ty']) (tmps : Array Value) (w : World) (g g' : Nat) (t t' : TypeId) (cs cs' : Array Value) (fr fr' : Nat × Nat) (d d' : TypeDesc)
    (hp : tmps.getD p undef = .pointer (some ⟨g, 0, none⟩)) (hg : w.heap[g]? = some (.cells cs t fr)) (hp2 : tmps.getD q undef = .pointer (some ⟨g', 0, none⟩)) (hg2 : w.heap[g']? = some (.cells cs' t' fr'))
    (hd : isAggB d = true) (hu : P.underlying ty = some d) (hi : (P.info? ty).map (·.size) = some cs.size) (hd2 : isAggB d' = true) (hu2 : P.underlying ty' = some d') (hi2 : (P.info? ty').map (·.size) = some cs'.size) :
    (results fn tmps).run P w = .ok (.tuple #[.agg cs, .agg cs']) w := by
  have hp' : tmps[p]?.getD undef = .pointer (some ⟨g, 0, none⟩) := by simpa using hp
  have hp2' : tmps[q]?.getD undef = .pointer (some ⟨g', 0, none⟩) := by simpa using hp2
  simp [results, h, hp', hp2', asAddr, run_loadVar_row w g t ty cs fr d hg hu (by cases d <;> simp_all [isAggB]) hi, run_loadVar_row w g' t' ty' cs' fr' d' hg2 hu2 (by cases d' <;> simp_all [isAggB]) hi2]
end Go.Proofs.YtklpamhhbigjfaaDoor
