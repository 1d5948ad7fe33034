/- The kit, more: slices that the call itself makes and appends to. -/
import Derived.Test.YtklpamhhbigjfaaDoorKit8
import Derived.Maps.AppendAt
import Derived.OwnWalk
import Derived.Laws.BytesArg
namespace Go.Proofs.YtklpamhhbigjfaaDoor
open Go.RowKit

theorem St.perm {w0 w : World} {L L' : List BK} (h : St w0 w L) (hp : L.Perm L') : St w0 w L' :=
  ⟨h.base, fun b hb => h.at_ b (hp.mem_iff.2 hb), hp.pairwise h.apart (fun h => Ne.symm h)⟩

/-- A slice value v of n elements (type E, 'size' cells each) whose cells are xs: nil, or at the head of the block R. -/
def RowIs (E : TypeId) (size : Nat) (v : Value) (n : Nat) (xs : List Value) (R : List BK) : Prop :=
  xs.length = n * size ∧ ((v = .slice none 0 0 ∧ n = 0 ∧ R = []) ∨
    ∃ (g cap : Nat) (cs : Array Value), R = [⟨g, cs, E⟩] ∧ v = .slice (some ⟨g, 0, none⟩) n cap ∧ n ≤ cap ∧ cap ≤ maxLen ∧ cs.size = cap * size ∧ cs.toList.take (n * size) = xs)
theorem RowIs.nil (E : TypeId) (size : Nat) : RowIs E size (.slice none 0 0) 0 [] [] := ⟨by simp, Or.inl ⟨rfl, rfl, rfl⟩⟩

theorem RowIs.owns {E size : Nat} {v : Value} {n : Nat} {xs : List Value} {R L : List BK} {w0 w : World} (h : RowIs E size v n xs R) (hst : St w0 w (L ++ R)) : w.ownsRow w0.heap.size E size v n xs := by
  refine ⟨h.1, ?_⟩
  rcases h.2 with ⟨h1, h2, _⟩ | ⟨g, cap, cs, hR, h1, h2, h3, h4, h5⟩
  · exact Or.inl ⟨h1, h2⟩
  · subst hR
    obtain ⟨a1, a2, a3⟩ := hst.at_ ⟨g, cs, E⟩ (by simp)
    exact Or.inr ⟨g, cap, cs, h1, a1, a3, h2, h3, h4, h5⟩

/-- behind writes to the row alone and new blocks -/
theorem St.grown {w0 w w1 : World} {L : List BK} (h : St w0 w L) {row : Option Nat} (hg : w.grownBy w1 row) (hr : ∀ k, row = some k → w0.heap.size ≤ k) (hne : ∀ b ∈ L, row ≠ some b.g) : St w0 w1 L := by
  refine ⟨h.base.trans ⟨hg.os, hg.tape, hg.output, hg.size, fun k hk => ?_⟩, fun b hb => ?_, h.apart⟩
  · exact hg.block k (Nat.lt_of_lt_of_le hk h.base.size) (fun e => by have := hr k e.symm; omega)
  · obtain ⟨h1, h2, h3⟩ := h.at_ b hb
    exact ⟨h1, Nat.lt_of_lt_of_le h2 hg.size, (hg.block _ h2 (fun e => hne b hb e.symm)).trans h3⟩

theorem row_back {E size : Nat} {v : Value} {n : Nat} {xs : List Value} {w0 w : World} {L : List BK} (hst : St w0 w L) (h : w.ownsRow w0.heap.size E size v n xs) (hne : ∀ b ∈ L, v.ownBlock ≠ some b.g) :
    ∃ R, RowIs E size v n xs R ∧ St w0 w (L ++ R) := by
  rcases h.2 with ⟨h1, h2⟩ | ⟨g, cap, cs, h1, hb, hg, h2, h3, h4, h5⟩
  · exact ⟨[], ⟨h.1, Or.inl ⟨h1, h2, rfl⟩⟩, by simpa using hst⟩
  · refine ⟨[⟨g, cs, E⟩], ⟨h.1, Or.inr ⟨g, cap, cs, rfl, h1, h2, h3, h4, h5⟩⟩, ⟨hst.base, fun b hb' => ?_, ?_⟩⟩
    · rcases List.mem_append.1 hb' with hb' | hb'
      · exact hst.at_ b hb'
      · rw [List.mem_singleton] at hb'
        subst hb'
        exact ⟨hb, (Array.getElem?_eq_some_iff.1 hg).1, hg⟩
    · rw [List.pairwise_append]
      refine ⟨hst.apart, List.pairwise_singleton _ _, fun a ha b hb' => ?_⟩
      rw [List.mem_singleton] at hb'
      subst hb'
      intro e
      refine hne a ha ?_
      rw [h1, e]
      rfl

theorem exec_store1 {P : Program} {ev : Operand → Value} {o : Oper} {t : TypeId} {p x : Operand} {w : World} {b i : Nat} {v old : Value} (ho : o.op = .store t p x) (hp : ev p = .pointer (some ⟨b, i, none⟩)) (hx : ev x = v) (hv : v.oneCell' = true)
    (hi : (P.info? t).map (·.size) = some 1) (hc : w.cell? ⟨b, i, none⟩ = some old) (hf : w.frozen? ⟨b, i, none⟩ = false) : (execOp ev o).run P w = .ok .skip (w.setCell ⟨b, i, none⟩ v) := by
  have hcs : v.cells = #[v] := by cases v <;> simp_all [Value.oneCell', Value.cells]
  obtain ⟨inf, h1, h2⟩ := Option.map_eq_some_iff.1 hi
  have hs := run_store P w ⟨b, i, none⟩ v .plain hv
  rw [hc] at hs
  simp only [hf, Bool.false_eq_true, if_false] at hs
  unfold execOp
  simp [ho, hp, hx, Instr.storeAt, Instr.sureAddr, storeVar, sizeOf, typeInfo, h1, h2, hcs, storeCells, Addr.add, hs, Result.andThen]
theorem RowIs.cell {E size : Nat} {v : Value} {n : Nat} {xs : List Value} {R : List BK} (h : RowIs E size v n xs R) : v.oneCell' = true := by
  rcases h.2 with ⟨rfl, _⟩ | ⟨g, cap, cs, _, rfl, _⟩ <;> rfl

def byV (b : UInt8) : Value := .int .u8 (b.toNat : Int)
/-- 'string(out)', out a []byte of the call's own -/
theorem conv_rowIs {P : Program} {w0 w : World} {L R : List BK} {E src dst : TypeId} {v : Value} {n : Nat} {l : List UInt8} (hr : RowIs E 1 v n (l.map byV) R) (hst : St w0 w (L ++ R))
    (hs : P.underlying src = some (.slice E)) (he : P.underlying E = some (.int .u8)) (hd : P.underlying dst = some .string) : (convert src dst v).run P w = .ok (.string (bs l)) w := by
  have hl : l.length = n := by have := hr.1; simpa using this
  rcases hr.2 with ⟨h1, h2, h3⟩ | ⟨g, cap, cs, hR, h1, h2, h3, h4, h5⟩
  · subst h1
    have : l = [] := List.length_eq_zero_iff.1 (by omega)
    subst this
    have := run_convert_bytes_nil (P := P) w src E hs he 0 0 dst hd
    rw [this]
    rfl
  · subst hR
    subst h1
    rw [← hl]
    refine run_convert_bytes_back w src dst E ⟨g, 0, none⟩ cap l hs he hd (fun j hj => ?_)
    have e : Addr.add ⟨g, 0, none⟩ j = ⟨g, j, none⟩ := by cases j <;> simp [Addr.add]
    rw [e, (St.cM (L2 := []) hst).1 j]
    have h6 : (cs.toList.take (n * 1))[j]? = (l.map byV)[j]? := by rw [h5]
    rw [List.getElem?_take_of_lt (by omega)] at h6
    simp only [Array.getElem?_toList] at h6
    rw [h6]
    simp [byV, hj]

section
variable {P : Program} {ops : Array Oper} {rest : List Oper} {o : Oper} {a : Act} {Q : Exit → Act → World → Prop} {w0 w : World} {L R : List BK}
/-- append onto a slice of the call's own -/
theorem wpList_append_row {E : TypeId} {size : Nat} {v : Value} {n : Nat} {xs : List Value} (hst : St w0 w (L ++ R)) (hrow : RowIs E size v n xs R) (hgd : o.guard = none) (s x : Operand) (t : TypeId)
    (ho : o.op = .call { callee := .builtin .append, args := #[s, x], argTypes := #[t, t] })
    (z : Value) (bytes : Nat) (ht : P.underlying t = some (.slice E)) (hinf : (P.info? E).map (fun i => (i.zero, i.size, i.bytes)) = some (some z, size, bytes)) (hzs : z.cells.size = size) (hsz : 0 < size)
    (hs : a.eval s = v) (ad : Addr) (m c : Nat) (news : List Value) (hx : a.eval x = .slice (some ad) m c) (hl : news.length = m * size) (hnews : ∀ j u, news[j]? = some u → w.cell? (ad.add j) = some u) (h1 : ∀ u ∈ news, u.oneCell' = true)
    (h63 : n + m ≤ maxLen) (hbytes : (n + m) * bytes ≤ 140737488355328)
    (h : ∀ v' R' w', St w0 w' (L ++ R') → RowIs E size v' (n + m) (xs ++ news) R' → wpList P ops Q rest (a.put o.dst v') w') : wpList P ops Q (o :: rest) a w := by
  obtain ⟨i, hi, hz, hi1, hi2⟩ := info_parts hinf
  refine wpList_append_own_at w hgd s x t ho w0.heap.size E i z size bytes ht hi hz hi1 hi2 hzs hsz v n xs hs (hrow.owns hst) ad m c news hx hl hnews h1 h63 hbytes hst.base.size ?_
  intro v' w' hown hgrow _ hat
  have hL : St w0 w L := hst.sub (List.sublist_append_left _ _)
  have hvL : ∀ b ∈ L, v.ownBlock ≠ some b.g := by
    intro b hb e
    rcases hrow.2 with ⟨e1, _, _⟩ | ⟨g, cap, cs, hR, e1, _⟩
    · rw [e1] at e; cases e
    · subst hR
      rw [e1] at e
      have e2 : g = b.g := by simpa [Value.ownBlock] using e
      have := (List.pairwise_append.1 hst.apart).2.2 b hb ⟨g, cs, E⟩ (by simp)
      exact this e2.symm
  have hvB : ∀ k, v.ownBlock = some k → w0.heap.size ≤ k := fun k hk => ((hrow.owns hst).lt k hk).1
  have hL' : St w0 w' L := hL.grown hgrow hvB hvL
  obtain ⟨R', hR', hst'⟩ := row_back hL' hown (fun b hb e => by
    rcases hat with hat | hat
    · exact hvL b hb (hat ▸ e)
    · rw [hat] at e
      have e2 : w.heap.size = b.g := by simpa using e
      have := (hL.at_ b hb).2.1
      omega)
  exact h v' R' w' hst' hR'

theorem run_append_row {E : TypeId} {size : Nat} {v : Value} {n : Nat} {xs : List Value} (hst : St w0 w (L ++ R)) (hrow : RowIs E size v n xs R) (t ty : TypeId)
    (z : Value) (bytes : Nat) (ht : P.underlying t = some (.slice E)) (hinf : (P.info? E).map (fun i => (i.zero, i.size, i.bytes)) = some (some z, size, bytes)) (hzs : z.cells.size = size) (hsz : 0 < size)
    (ad : Addr) (m c : Nat) (news : List Value) (hl : news.length = m * size) (hnews : ∀ j u, news[j]? = some u → w.cell? (ad.add j) = some u) (h1 : ∀ u ∈ news, u.oneCell' = true)
    (h63 : n + m ≤ maxLen) (hbytes : (n + m) * bytes ≤ 140737488355328) :
    ∃ v' R' w', (Builtin.append_ #[t, t] ty #[v, .slice (some ad) m c]).run P w = .ok v' w' ∧ St w0 w' (L ++ R') ∧ RowIs E size v' (n + m) (xs ++ news) R' := by
  obtain ⟨i, hi, hz, hi1, hi2⟩ := info_parts hinf
  obtain ⟨v', w', hr, hown, hgrow, _, hat⟩ := run_append_own_at (P := P) w w0.heap.size t ty E i z size bytes ht hi hz hi1 hi2 hzs hsz v n xs (hrow.owns hst) ad m c news hl hnews h1 h63 hbytes hst.base.size
  have hL : St w0 w L := hst.sub (List.sublist_append_left _ _)
  have hvL : ∀ b ∈ L, v.ownBlock ≠ some b.g := by
    intro b hb e
    rcases hrow.2 with ⟨e1, _, _⟩ | ⟨g, cap, cs, hR, e1, _⟩
    · rw [e1] at e; cases e
    · subst hR
      rw [e1] at e
      have e2 : g = b.g := by simpa [Value.ownBlock] using e
      have := (List.pairwise_append.1 hst.apart).2.2 b hb ⟨g, cs, E⟩ (by simp)
      exact this e2.symm
  have hvB : ∀ k, v.ownBlock = some k → w0.heap.size ≤ k := fun k hk => ((hrow.owns hst).lt k hk).1
  have hL' : St w0 w' L := hL.grown hgrow hvB hvL
  obtain ⟨R', hR', hst'⟩ := row_back hL' hown (fun b hb e => by
    rcases hat with hat | hat
    · exact hvL b hb (hat ▸ e)
    · rw [hat] at e
      have e2 : w.heap.size = b.g := by simpa using e
      have := (hL.at_ b hb).2.1
      omega)
  exact ⟨v', R', w', hr, hst', hR'⟩
/-- append onto a slice of the call's own, at a step of a region that draws its order -/
theorem step_append_row {E : TypeId} {size : Nat} {v : Value} {n : Nat} {xs : List Value} {K : Act → World → Prop} {F : Prop} (hst : St w0 w (L ++ R)) (hrow : RowIs E size v n xs R) (hgd : o.guard = none) (s x : Operand) (t : TypeId)
    (ho : o.op = .call { callee := .builtin .append, args := #[s, x], argTypes := #[t, t] })
    (z : Value) (bytes : Nat) (ht : P.underlying t = some (.slice E)) (hinf : (P.info? E).map (fun i => (i.zero, i.size, i.bytes)) = some (some z, size, bytes)) (hzs : z.cells.size = size) (hsz : 0 < size)
    (hs : a.eval s = v) (ad : Addr) (m c : Nat) (news : List Value) (hx : a.eval x = .slice (some ad) m c) (hl : news.length = m * size) (hnews : ∀ j u, news[j]? = some u → w.cell? (ad.add j) = some u) (h1 : ∀ u ∈ news, u.oneCell' = true)
    (h63 : n + m ≤ maxLen) (hbytes : (n + m) * bytes ≤ 140737488355328)
    (h : ∀ v' R' w', St w0 w' (L ++ R') → RowIs E size v' (n + m) (xs ++ news) R' → K (a.put o.dst v') w') : if Region.wanted o (yielded ops a.tmps) = true then Oper.wp P o a w K Q else F := by
  have hw : Region.wanted o (yielded ops a.tmps) = true := by simp [Region.wanted, hgd]
  rw [if_pos hw]
  obtain ⟨v', R', w', hr, h2, h3⟩ := run_append_row (P := P) hst hrow t o.type z bytes ht hinf hzs hsz ad m c news hl hnews h1 h63 hbytes
  unfold Oper.wp execOp
  simp only [ho, resolve, invoke, builtin, Sem.run_bind, Sem.run_pure, Result.andThen_ok, List.map_toArray, List.map_cons, List.map_nil, hs, hx, hr]
  exact h v' R' w' h2 h3

/-- the cells of a slice literal that the call has just laid, for append -/
theorem news_own {b : BK} {L : List BK} (hst : St w0 w (b :: L)) : ∀ j u, b.cs.toList[j]? = some u → w.cell? ((⟨b.g, 0, none⟩ : Addr).add j) = some u := by
  intro j u hj
  have e : Addr.add ⟨b.g, 0, none⟩ j = ⟨b.g, j, none⟩ := by cases j <;> simp [Addr.add]
  rw [e, hst.c0.1 j]
  simpa using hj
end
end Go.Proofs.YtklpamhhbigjfaaDoor
