/- A map of the call's own from numbers to changes; blocks of the call's own beside it. -/
import Derived.Test.YtklpamhhbigjfaaDoorOf47
import Derived.Test.YtklpamhhbigjfaaDoorSet46
import Derived.Test.YtklpamhhbigjfaaDoorSortLaw
namespace Go.Proofs.YtklpamhhbigjfaaDoor
open Go.RowKit Go.ChangeMaps
set_option linter.unusedSimpArgs false
set_option linter.unusedVariables false

theorem Sm.row {w0 w : World} {gm : Nat} {es : Array MapEntry} {n : Nat} {L1 L2 : List BK} {b : BK} (h : Sm w0 w gm es n (L1 ++ b :: L2)) (cs : Array Value) : Sm w0 (w.setRow b.g cs) gm es n (L1 ++ ⟨b.g, cs, b.t⟩ :: L2) := by
  have hne : b.g ≠ gm := h.ne b (by simp)
  refine ⟨h.st.row cs, ?_, h.ge, fun c hc => ?_⟩
  · simp only [World.setRow, Array.getElem?_modify]
    rw [if_neg hne]
    exact h.map
  · simp only [List.mem_append, List.mem_cons] at hc
    rcases hc with hc | rfl | hc
    · exact h.ne c (by simp [hc])
    · exact hne
    · exact h.ne c (by simp [hc])
theorem Sm.box {w0 w : World} {gm : Nat} {es : Array MapEntry} {n : Nat} {L : List BK} (h : Sm w0 w gm es n L) (cs : Array Value) (t : TypeId) : Sm w0 (w.alloc (.cells cs t (0, 0))) gm es n (⟨w.heap.size, cs, t⟩ :: L) := by
  have k := h.below ((Below.refl w.heap.size w).alloc (Nat.le_refl _) (.cells cs t (0, 0)))
  refine ⟨h.st.box cs t, k.map, h.ge, fun c hc => ?_⟩
  rcases List.mem_cons.1 hc with rfl | hc
  · have := h.lt
    show w.heap.size ≠ gm
    omega
  · exact h.ne c hc
theorem Sm.call {w0 w w1 : World} {gm : Nat} {es : Array MapEntry} {n : Nat} {L L' : List BK} (h : Sm w0 w gm es n L) (k : St w w1 L') : Sm w0 w1 gm es n (L' ++ L) := by
  have b := h.below k.base
  refine ⟨h.st.call k, b.map, h.ge, fun c hc => ?_⟩
  rcases List.mem_append.1 hc with hc | hc
  · have h1 := (k.at_ c hc).1
    have h2 := h.lt
    omega
  · exact h.ne c hc
theorem Sm.drew {w0 w : World} {gm : Nat} {es : Array MapEntry} {n : Nat} {L : List BK} (h : Sm w0 w gm es n L) : Sm w0 w.drew gm es n L := h.below (Below.refl _ _).drew
theorem Sm.drewN {w0 w : World} {gm : Nat} {es : Array MapEntry} {n : Nat} {L : List BK} (h : Sm w0 w gm es n L) (k : Nat) : Sm w0 (w.drewN k) gm es n L := h.below ⟨rfl, rfl, rfl, Nat.le_refl _, fun _ _ => rfl⟩

section
variable {P : Program} {ops : Array Oper} {rest : List Oper} {o : Oper} {a : Act} {Q : Exit → Act → World → Prop} {w0 w : World} {L : List BK} {gm n : Nat} {es : Array MapEntry}
theorem wpList_boxM (hsm : Sm w0 w gm es n L) (t : TypeId) (cs : Array Value) (hgd : o.guard = none)
    (hrun : (execOp a.eval o).run P w = .ok (.value (.pointer (some ⟨w.heap.size, 0, none⟩))) (w.alloc (.cells cs t (0, 0))))
    (h : ∀ g w1, Sm w0 w1 gm es n (⟨g, cs, t⟩ :: L) → wpList P ops Q rest (a.put o.dst (.pointer (some ⟨g, 0, none⟩))) w1) : wpList P ops Q (o :: rest) a w := by
  refine wpList_plain hgd fun K hK => ?_
  unfold Oper.wp
  rw [hrun]
  exact hK _ _ (h _ _ (hsm.box cs t))
theorem wpList_putM {L : List BK} {b : BK} (hsm : Sm w0 w gm es n (b :: L)) (hgd : o.guard = none) (x y : Operand) (ho : o.op = .store b.t x y)
    (cs : Array Value) (hx : a.eval x = .pointer (some ⟨b.g, 0, none⟩)) (hy : a.eval y = .agg cs)
    (hi : (P.info? b.t).map (·.size) = some cs.size) (hs : b.cs.size = cs.size) (h1 : cs.all (·.oneCell') = true)
    (h : ∀ w1, Sm w0 w1 gm es n (⟨b.g, cs, b.t⟩ :: L) → wpList P ops Q rest (a.put o.dst undef) w1) : wpList P ops Q (o :: rest) a w :=
  wpList_store_row hgd b.t x y ho b.g cs hx hy b.t b.cs (hsm.st.blk b (by simp)) hi hs h1 (h _ (hsm.row (L1 := []) cs))
/-- append onto a slice of the call's own, a map of its own beside it -/
theorem wpList_append_rowM {R : List BK} {E : TypeId} {size : Nat} {v : Value} {m0 : Nat} {xs : List Value} (hsm : Sm w0 w gm es n (L ++ R)) (hrow : RowIs E size v m0 xs R) (hgd : o.guard = none) (s x : Operand) (t : TypeId)
    (ho : o.op = .call { callee := .builtin .append, args := #[s, x], argTypes := #[t, t] })
    (z : Value) (bytes : Nat) (ht : P.underlying t = some (.slice E)) (hinf : (P.info? E).map (fun i => (i.zero, i.size, i.bytes)) = some (some z, size, bytes)) (hzs : z.cells.size = size) (hsz : 0 < size)
    (hs : a.eval s = v) (ad : Addr) (m c : Nat) (news : List Value) (hx : a.eval x = .slice (some ad) m c) (hl : news.length = m * size) (hnews : ∀ j u, news[j]? = some u → w.cell? (ad.add j) = some u) (h1 : ∀ u ∈ news, u.oneCell' = true)
    (h63 : m0 + m ≤ maxLen) (hbytes : (m0 + m) * bytes ≤ 140737488355328) (hpos : 0 < m0 + m)
    (h : ∀ v' R' w', Sm w0 w' gm es n (L ++ R') → RowIs E size v' (m0 + m) (xs ++ news) R' → wpList P ops Q rest (a.put o.dst v') w') : wpList P ops Q (o :: rest) a w := by
  obtain ⟨i, hi, hz, hi1, hi2⟩ := info_parts hinf
  have hst := hsm.st
  refine wpList_append_own_at w hgd s x t ho w0.heap.size E i z size bytes ht hi hz hi1 hi2 hzs hsz v m0 xs hs (hrow.owns hst) ad m c news hx hl hnews h1 h63 hbytes hst.base.size ?_
  intro v' w' hown hgrow _ hat
  have hL : St w0 w L := hst.sub (List.sublist_append_left _ _)
  have hvL : ∀ b ∈ L, v.ownBlock ≠ some b.g := by
    intro b hb e
    rcases hrow.2 with ⟨e1, _, _⟩ | ⟨g, cap, cs, hR, e1, _⟩
    · rw [e1] at e; cases e
    · subst hR
      rw [e1] at e
      have e2 : g = b.g := by simpa [Value.ownBlock] using e
      exact (List.pairwise_append.1 hst.apart).2.2 b hb ⟨g, cs, E⟩ (by simp) e2.symm
  have hvm : v.ownBlock ≠ some gm := by
    intro e
    rcases hrow.2 with ⟨e1, _, _⟩ | ⟨g, cap, cs, hR, e1, _⟩
    · rw [e1] at e; cases e
    · subst hR
      rw [e1] at e
      have e2 : g = gm := by simpa [Value.ownBlock] using e
      exact hsm.ne ⟨g, cs, E⟩ (by simp) e2
  have hvB : ∀ k, v.ownBlock = some k → w0.heap.size ≤ k := fun k hk => ((hrow.owns hst).lt k hk).1
  have hL' : St w0 w' L := hL.grown hgrow hvB hvL
  obtain ⟨R', hR', hst'⟩ := row_back hL' hown (fun b hb e => by
    rcases hat with hat | hat
    · exact hvL b hb (hat ▸ e)
    · rw [hat] at e
      have e2 : w.heap.size = b.g := by simpa using e
      have := (hL.at_ b hb).2.1
      omega)
  refine h v' R' w' ⟨hst', ?_, hsm.ge, fun b hb => ?_⟩ hR'
  · rw [hgrow.block gm hsm.lt (fun e => hvm e.symm)]
    exact hsm.map
  · rcases List.mem_append.1 hb with hb | hb
    · exact hsm.ne b (by simp [hb])
    · rcases hR'.2 with ⟨_, q2, _⟩ | ⟨g, cap, cs, hR, e1, _⟩
      · omega
      · subst hR
        rw [List.mem_singleton] at hb
        subst hb
        intro e
        have e4 : v'.ownBlock = some g := by rw [e1]; rfl
        rw [e4] at hat
        rcases hat with hat | hat
        · exact hvm (by rw [← hat, show g = gm from e])
        · have e2 : g = w.heap.size := by simpa using hat
          have := hsm.lt
          have e3 : g = gm := e
          omega
end

/-- each entry of the map is a change of the record under its number -/
def Good (num : Int) (l : List Chg) (es : Array MapEntry) : Prop := ∀ e ∈ es.toList, ∃ (i : Nat) (h : i < l.length), e.key = .int .i64 (num + i) ∧ e.val = (l[i]).v
def Has (num : Int) (es : Array MapEntry) (i : Nat) : Prop := ∃ e ∈ es.toList, e.key = .int .i64 (num + i)
theorem find_good {num : Int} {l : List Chg} {i : Nat} (hi : i < l.length) : ∀ (E : List MapEntry) (s : Nat), (∀ e ∈ E, ∃ (i : Nat) (h : i < l.length), e.key = .int .i64 (num + i) ∧ e.val = (l[i]).v) →
    ((∃ e ∈ E, e.key = .int .i64 (num + i)) → ∃ j, Instr.findNow (.int .i64) (.int .i64 (num + i)) E s = some (some (s + j, (l[i]).v)) ∧ ∃ h : j < E.length, (E[j]).key = .int .i64 (num + i)) ∧
    (¬ (∃ e ∈ E, e.key = .int .i64 (num + i)) → Instr.findNow (.int .i64) (.int .i64 (num + i)) E s = some none)
  | [], s, _ => ⟨fun h => by obtain ⟨e, he, _⟩ := h; simp at he, fun _ => rfl⟩
  | e :: E, s, hg => by
    obtain ⟨ih1, ih2⟩ := find_good hi E (s + 1) (fun e' he' => hg e' (by simp [he']))
    obtain ⟨k, hk, hkey, hval⟩ := hg e (by simp)
    by_cases hki : k = i
    · subst hki
      have hf : Instr.findNow (.int .i64) (.int .i64 (num + k)) (e :: E) s = some (some (s, (l[k]).v)) := by
        simp [Instr.findNow, Instr.sameNow, hkey, hval]
      exact ⟨fun _ => ⟨0, by simpa using hf, by simp, by simpa using hkey⟩, fun h => absurd ⟨e, by simp, hkey⟩ h⟩
    · have hne : ¬ (num + (i : Int) = num + (k : Int)) := by omega
      have hf : Instr.findNow (.int .i64) (.int .i64 (num + i)) (e :: E) s = Instr.findNow (.int .i64) (.int .i64 (num + i)) E (s + 1) := by
        have hb2 : ((num + (i : Int)) == (num + (k : Int))) = false := beq_eq_false_iff_ne.2 hne
        simp only [Instr.findNow, Instr.sameNow, hkey, hb2]
        simp [hne]
      have hnk : ¬ e.key = .int .i64 (num + i) := by
        rw [hkey]
        intro h
        injection h with _ h
        omega
      rw [hf]
      constructor
      · rintro ⟨e', he', hk'⟩
        rcases List.mem_cons.1 he' with rfl | he'
        · exact absurd hk' hnk
        · obtain ⟨j, h1, h2, h3⟩ := ih1 ⟨e', he', hk'⟩
          exact ⟨j + 1, by rw [h1]; congr 3; omega, by simp; omega, by simpa using h3⟩
      · intro h
        exact ih2 fun ⟨e', he', hk'⟩ => h ⟨e', by simp [he'], hk'⟩
theorem run_keyThatStays_int {P : Program} {w : World} (k : IntKind) (n : Int) : (Instr.keyThatStays (.int k n) (.int k n)).run P w = .ok (.int k n) w := by
  exact MapKept.run_keyThatStays (d := .int k) (by simp [MapKept.IsKey])
theorem get_mem (X : Array MapEntry) (q : Nat) (h : q < X.size) : X[q] ∈ X.toList := by simp
theorem run_update_good {P : Program} {w : World} {mty kt et : TypeId} {r clock : Nat} {es : Array MapEntry} {num : Int} {l : List Chg} {i : Nat} (hi : i < l.length) (hg : Good num l es) (hm : P.underlying mty = some (.map kt et)) (hk : P.underlying kt = some (.int .i64)) (hb : w.heap[r]? = some (.map es clock)) :
    ∃ es' c', (Instr.mapUpdate mty (.map (some r)) (.int .i64 (num + i)) (l[i]).v).run P w = .ok () (setBlock w r (.map es' c')) ∧ Good num l es' ∧ (∀ j, Has num es j → Has num es' j) ∧ Has num es' i := by
  have hc : (Instr.checkKey false 10000 kt (.int .i64 (num + i))).run P w = .ok () w := MapKept.run_checkKey (k := .int .i64 (num + i)) hk (by simp [MapKept.IsKey]) false 9999
  obtain ⟨f1, f2⟩ := find_good (num := num) hi es.toList 0 hg
  by_cases hh : ∃ e ∈ es.toList, e.key = .int .i64 (num + i)
  · obtain ⟨j, h1, h2, h3⟩ := f1 hh
    rw [Nat.zero_add] at h1
    refine ⟨es.modify j fun e => { e with key := .int .i64 (num + i), val := (l[i]).v }, clock, ?_, ?_, ?_, ?_⟩
    · have hj : es[j]? = some es.toList[j] := by simp
      have hkj : (es[j]?.map (·.key)).getD (.int .i64 (num + i)) = .int .i64 (num + i) := by rw [hj]; simpa using h3
      simp [Instr.mapUpdate, run_underlying hm, MapKept.run_getObj_map hb, hc, MapKept.run_findKey hk h1, hkj, run_keyThatStays_int, MapKept.run_setObj_map _ hb, Result.andThen, setBlock]
    · intro e he
      obtain ⟨k, hk', rfl⟩ := List.getElem_of_mem he
      simp only [Array.length_toList, Array.size_modify] at hk'
      simp only [Array.getElem_toList, Array.getElem_modify]
      split
      · exact ⟨i, hi, rfl, rfl⟩
      · exact hg _ (by simp)
    · rintro k ⟨e, he, hk'⟩
      obtain ⟨q, hq, rfl⟩ := List.getElem_of_mem he
      have hq2 : q < (es.modify j fun e => { e with key := .int .i64 (num + i), val := (l[i]).v }).size := by simpa using hq
      refine ⟨_, get_mem _ q hq2, ?_⟩
      rw [Array.getElem_modify]
      split
      · next hjq =>
        subst hjq
        exact h3.symm.trans hk'
      · simpa using hk'
    · have hq2 : j < (es.modify j fun e => { e with key := .int .i64 (num + i), val := (l[i]).v }).size := by simpa using h2
      refine ⟨_, get_mem _ j hq2, ?_⟩
      rw [Array.getElem_modify, if_pos rfl]
  · refine ⟨es.push { key := .int .i64 (num + i), val := (l[i]).v, born := clock }, clock + 1, run_insert_int .i64 _ _ hm hk hb (f2 hh), ?_, ?_, ?_⟩
    · intro e he
      rw [Array.toList_push, List.mem_append, List.mem_singleton] at he
      rcases he with he | rfl
      · exact hg e he
      · exact ⟨i, hi, rfl, rfl⟩
    · rintro j ⟨e, he, hk⟩
      exact ⟨e, by rw [Array.toList_push]; simp [he], hk⟩
    · exact ⟨_, by rw [Array.toList_push]; simp; exact Or.inr rfl, rfl⟩
section
variable {P : Program} {ops : Array Oper} {rest : List Oper} {o : Oper} {a : Act} {Q : Exit → Act → World → Prop} {w0 w : World} {L : List BK} {gm n : Nat} {es : Array MapEntry}
theorem wpList_update_good {num : Int} {l : List Chg} {i : Nat} (hsm : Sm w0 w gm es n L) (hi : i < l.length) (hg : Good num l es) (mty kt et : TypeId) (m x v : Operand) (hgd : o.guard = none) (ho : o.op = .mapUpdate mty m x v)
    (hm : a.eval m = .map (some gm)) (hx : a.eval x = .int .i64 (num + i)) (c : Chg) (hc : c = l[i]) (hv : a.eval v = c.v) (hu : P.underlying mty = some (.map kt et)) (hk : P.underlying kt = some (.int .i64))
    (h : ∀ es' n' w1, Sm w0 w1 gm es' n' L → Good num l es' → (∀ j, Has num es j → Has num es' j) → Has num es' i → wpList P ops Q rest (a.put o.dst undef) w1) : wpList P ops Q (o :: rest) a w := by
  refine wpList_plain hgd fun K hK => ?_
  obtain ⟨es', n', hr, h1, h2, h3⟩ := run_update_good (P := P) hi hg hu hk hsm.map
  subst hc
  unfold Oper.wp
  have e : (execOp a.eval o).run P w = .ok .skip (setBlock w gm (.map es' n')) := by
    unfold execOp
    simp only [ho, hm, hx, hv, Sem.run_bind, hr, Result.andThen_ok, Sem.run_pure]
  rw [e]
  exact hK _ _ (h es' n' _ (hsm.put es' n') h1 h2 h3)
end
theorem lookup_good {P : Program} {w : World} {mty kt et : TypeId} {r clock : Nat} {es : Array MapEntry} {num : Int} {l : List Chg} {i : Nat} (hi : i < l.length) (hg : Good num l es) (hh : Has num es i) (hm : P.underlying mty = some (.map kt et)) (hk : P.underlying kt = some (.int .i64)) (hb : w.heap[r]? = some (.map es clock)) :
    (Instr.lookup mty (.map (some r)) (.int .i64 (num + i)) true).run P w = .ok (.tuple #[(l[i]).v, .bool true]) w := by
  obtain ⟨j, h1, _⟩ := (find_good (num := num) hi es.toList 0 hg).1 hh
  exact run_lookup_hit .i64 _ _ _ hm hk hb h1
/-- the sorted numbers of the data sets, each once -/
theorem ids_law (l : List Chg) : idsS l = setI (l.map Chg.id) := by
  have htr : ∀ a b c : Int, a < b → b < c → a < c := fun a b c h1 h2 => by omega
  have hir : ∀ a : Int, ¬ a < a := fun a h => by omega
  have htri : ∀ a b : Int, a = b ∨ a < b ∨ b < a := fun a b => by omega
  have e : setI (l.map Chg.id) = setG (· < ·) (l.map Chg.id) := rfl
  rw [e, idsS]
  obtain ⟨s1, s2⟩ := setG_spec (fun a b : Int => a < b) htr htri (l.map Chg.id)
  refine rising_eq (fun a b : Int => a < b) htr hir _ _ (compact_sorted _ htr hir htri _ ?_) s1 fun y => ?_
  · have h := List.pairwise_mergeSort (le := fun x y : Int => decide (x ≤ y)) (fun a b c h1 h2 => by simp at *; omega) (fun a b => by simp; omega) (l.map Chg.id)
    exact h.imp fun hab => by simp at hab; omega
  · rw [mem_compact_iff, List.mem_mergeSort, s2]
theorem ids_mem (l : List Chg) (x : Int) : x ∈ idsS l ↔ ∃ c ∈ l, c.id = x := by
  rw [idsS, mem_compact_iff, List.mem_mergeSort, List.mem_map]
theorem ids_len (l : List Chg) : (idsS l).length ≤ l.length := by
  refine Nat.le_trans (Lib.compact_length_le _) ?_
  simp
end Go.Proofs.YtklpamhhbigjfaaDoor
