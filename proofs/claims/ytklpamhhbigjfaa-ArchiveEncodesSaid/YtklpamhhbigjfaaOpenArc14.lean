/- An archive that comes in, opened. -/
import Derived.Test.YtklpamhhbigjfaaEncW14
import Derived.Deep.Slices
import Derived.SizedLaws
import Derived.OpenShut
import Derived.WideShapes
namespace Go.Proofs.Ytklpamhhbigjfaa
open Go.RowKit Go.WideShapes Go.ChangeShapes Go.Deep
set_option maxRecDepth 100000
set_option linter.unusedSimpArgs false

variable {H : Type} {enc : TypeId × Value → H} {w : World} {base : Nat} {sp : Nat → Bool} {held : Bool}
abbrev bD (s : ByteArray) : DataW H := .lit (.string s.data.toList)
abbrev Pr.d (c : Pr) : DataW H := .agg [bD c.key, bD c.rcd]
abbrev DS.d (d : DS) : DataW H := .agg [.lit (.int .i64 d.id), .lit (.int .i64 d.org), .lit (.int .i64 d.fmt), .lit (.int .i64 d.len), .lit (.int .i64 d.block), .lit (.int .i64 d.keyAt), .lit (.int .i64 d.keyLen), .lit (.int .i64 d.intv), .lit (.int .i64 d.area), .lit (.int .i64 d.freeI), .lit (.int .i64 d.freeA), .lit (.int .i64 d.base), .lit (.int .i64 d.altAt), .lit (.int .i64 d.altLen), .lit (.bool d.uniq), .lit (.int .i64 d.cls), bD d.vol, bD d.own, .lit (.int .i64 d.created), .lit (.int .i64 d.expires), .lit (.bool d.arch)]
theorem k_int : Try.prog.cellsOf 3 = 1 := by kernel_rfl
theorem k_bool : Try.prog.cellsOf 4 = 1 := by kernel_rfl
theorem k_str : Try.prog.cellsOf 9 = 1 := by kernel_rfl
theorem k_sl : Try.prog.cellsOf 35 = 1 := by kernel_rfl
theorem k_pr : Try.prog.cellsOf 54 = 2 := by kernel_rfl
theorem k_ds : Try.prog.cellsOf 34 = 21 := by kernel_rfl
theorem k_arc : Try.prog.cellsOf 37 = 23 := by kernel_rfl
theorem list2 {α : Type} (l : List α) (h : l.length = 2) : ∃ c0 c1, l = [c0, c1] := by
  match l, h with
  | [c0, c1], _ => exact ⟨c0, c1, rfl⟩
theorem list3 {α : Type} (l : List α) (h : l.length = 3) : ∃ c0 c1 c2, l = [c0, c1, c2] := by
  match l, h with
  | [c0, c1, c2], _ => exact ⟨c0, c1, c2, rfl⟩
theorem list21 {α : Type} (l : List α) (h : l.length = 21) : ∃ c0 c1 c2 c3 c4 c5 c6 c7 c8 c9 c10 c11 c12 c13 c14 c15 c16 c17 c18 c19 c20, l = [c0, c1, c2, c3, c4, c5, c6, c7, c8, c9, c10, c11, c12, c13, c14, c15, c16, c17, c18, c19, c20] := by
  match l, h with
  | [c0, c1, c2, c3, c4, c5, c6, c7, c8, c9, c10, c11, c12, c13, c14, c15, c16, c17, c18, c19, c20], _ => exact ⟨c0, c1, c2, c3, c4, c5, c6, c7, c8, c9, c10, c11, c12, c13, c14, c15, c16, c17, c18, c19, c20, rfl⟩
theorem list23 {α : Type} (l : List α) (h : l.length = 23) : ∃ c0 c1 c2 c3 c4 c5 c6 c7 c8 c9 c10 c11 c12 c13 c14 c15 c16 c17 c18 c19 c20 c21 c22, l = [c0, c1, c2, c3, c4, c5, c6, c7, c8, c9, c10, c11, c12, c13, c14, c15, c16, c17, c18, c19, c20, c21, c22] := by
  match l, h with
  | [c0, c1, c2, c3, c4, c5, c6, c7, c8, c9, c10, c11, c12, c13, c14, c15, c16, c17, c18, c19, c20, c21, c22], _ => exact ⟨c0, c1, c2, c3, c4, c5, c6, c7, c8, c9, c10, c11, c12, c13, c14, c15, c16, c17, c18, c19, c20, c21, c22, rfl⟩
theorem pr_of_trod {fuel : Nat} {cs : List Value} {x : DataW H × List MemPlace} (h : DataW.trod enc Try.prog w base sp held fuel 54 cs = some x) : ∃ c : Pr, cs = c.cells.toList ∧ x.1 = c.d := by
  obtain ⟨xs, n, _, rfl, hl, hlen, hf⟩ := DataW.trod_struct Try.underlying54 h
  obtain ⟨x0, x1, rfl⟩ := list2 xs hlen
  obtain ⟨c0, c1, rfl⟩ := list2 cs (hl.trans k_pr)
  have e0 := hf 0 _ rfl
  have e1 := hf 1 _ rfl
  simp [k_str] at e0 e1
  obtain ⟨a0, y0, rfl, _⟩ := DataW.trod_string Try.underlying9 e0
  obtain ⟨a1, y1, rfl, _⟩ := DataW.trod_string Try.underlying9 e1
  simp only [List.cons.injEq, and_true] at y0 y1
  subst y0 y1
  exact ⟨⟨a0, a1⟩, rfl, rfl⟩
theorem ds_of_trod {fuel : Nat} {cs : List Value} {x : DataW H × List MemPlace} (h : DataW.trod enc Try.prog w base sp held fuel 34 cs = some x) : ∃ d : DS, cs = d.cells.toList ∧ x.1 = d.d := by
  obtain ⟨xs, n, _, rfl, hl, hlen, hf⟩ := DataW.trod_struct Try.underlying34 h
  obtain ⟨x0, x1, x2, x3, x4, x5, x6, x7, x8, x9, x10, x11, x12, x13, x14, x15, x16, x17, x18, x19, x20, rfl⟩ := list21 xs hlen
  obtain ⟨c0, c1, c2, c3, c4, c5, c6, c7, c8, c9, c10, c11, c12, c13, c14, c15, c16, c17, c18, c19, c20, rfl⟩ := list21 cs (hl.trans k_ds)
  have e0 := hf 0 _ rfl
  have e1 := hf 1 _ rfl
  have e2 := hf 2 _ rfl
  have e3 := hf 3 _ rfl
  have e4 := hf 4 _ rfl
  have e5 := hf 5 _ rfl
  have e6 := hf 6 _ rfl
  have e7 := hf 7 _ rfl
  have e8 := hf 8 _ rfl
  have e9 := hf 9 _ rfl
  have e10 := hf 10 _ rfl
  have e11 := hf 11 _ rfl
  have e12 := hf 12 _ rfl
  have e13 := hf 13 _ rfl
  have e14 := hf 14 _ rfl
  have e15 := hf 15 _ rfl
  have e16 := hf 16 _ rfl
  have e17 := hf 17 _ rfl
  have e18 := hf 18 _ rfl
  have e19 := hf 19 _ rfl
  have e20 := hf 20 _ rfl
  simp [k_int] at e0
  simp [k_int] at e1
  simp [k_int] at e2
  simp [k_int] at e3
  simp [k_int] at e4
  simp [k_int] at e5
  simp [k_int] at e6
  simp [k_int] at e7
  simp [k_int] at e8
  simp [k_int] at e9
  simp [k_int] at e10
  simp [k_int] at e11
  simp [k_int] at e12
  simp [k_int] at e13
  simp [k_bool] at e14
  simp [k_int] at e15
  simp [k_str] at e16
  simp [k_str] at e17
  simp [k_int] at e18
  simp [k_int] at e19
  simp [k_bool] at e20
  obtain ⟨a0, y0, rfl, _⟩ := DataW.trod_int Try.underlying3 e0
  obtain ⟨a1, y1, rfl, _⟩ := DataW.trod_int Try.underlying3 e1
  obtain ⟨a2, y2, rfl, _⟩ := DataW.trod_int Try.underlying3 e2
  obtain ⟨a3, y3, rfl, _⟩ := DataW.trod_int Try.underlying3 e3
  obtain ⟨a4, y4, rfl, _⟩ := DataW.trod_int Try.underlying3 e4
  obtain ⟨a5, y5, rfl, _⟩ := DataW.trod_int Try.underlying3 e5
  obtain ⟨a6, y6, rfl, _⟩ := DataW.trod_int Try.underlying3 e6
  obtain ⟨a7, y7, rfl, _⟩ := DataW.trod_int Try.underlying3 e7
  obtain ⟨a8, y8, rfl, _⟩ := DataW.trod_int Try.underlying3 e8
  obtain ⟨a9, y9, rfl, _⟩ := DataW.trod_int Try.underlying3 e9
  obtain ⟨a10, y10, rfl, _⟩ := DataW.trod_int Try.underlying3 e10
  obtain ⟨a11, y11, rfl, _⟩ := DataW.trod_int Try.underlying3 e11
  obtain ⟨a12, y12, rfl, _⟩ := DataW.trod_int Try.underlying3 e12
  obtain ⟨a13, y13, rfl, _⟩ := DataW.trod_int Try.underlying3 e13
  obtain ⟨a14, y14, rfl, _⟩ := DataW.trod_bool Try.underlying4 e14
  obtain ⟨a15, y15, rfl, _⟩ := DataW.trod_int Try.underlying3 e15
  obtain ⟨a16, y16, rfl, _⟩ := DataW.trod_string Try.underlying9 e16
  obtain ⟨a17, y17, rfl, _⟩ := DataW.trod_string Try.underlying9 e17
  obtain ⟨a18, y18, rfl, _⟩ := DataW.trod_int Try.underlying3 e18
  obtain ⟨a19, y19, rfl, _⟩ := DataW.trod_int Try.underlying3 e19
  obtain ⟨a20, y20, rfl, _⟩ := DataW.trod_bool Try.underlying4 e20
  simp only [List.cons.injEq, and_true] at y0 y1 y2 y3 y4 y5 y6 y7 y8 y9 y10 y11 y12 y13 y14 y15 y16 y17 y18 y19 y20
  subst y0 y1 y2 y3 y4 y5 y6 y7 y8 y9 y10 y11 y12 y13 y14 y15 y16 y17 y18 y19 y20
  exact ⟨⟨a0, a1, a2, a3, a4, a5, a6, a7, a8, a9, a10, a11, a12, a13, a14, a15, a16, a17, a18, a19, a20⟩, rfl, rfl⟩
/-- the sizes out of the reach -/
theorem pr_weights (c : Pr) (h : ((c.d : DataW H).weights Try.prog 54).all (· ≤ reachBytes) = true) : c.Sz := by
  have hr : reachBytes = 140737488351232 := rfl
  have e : (c.d : DataW H).weights Try.prog 54 = [c.key.size, c.rcd.size] := by
    simp [DataW.weights, DataW.weightsEach, Try.underlying54]
  rw [e] at h
  simp [hr] at h
  exact ⟨by omega, by omega⟩
theorem ds_weights (d : DS) (h : ((d.d : DataW H).weights Try.prog 34).all (· ≤ reachBytes) = true) : d.own.size ≤ 140737488355328 ∧ d.vol.size ≤ 140737488355328 := by
  have hr : reachBytes = 140737488351232 := rfl
  have e : (d.d : DataW H).weights Try.prog 34 = [d.vol.size, d.own.size] := by
    simp [DataW.weights, DataW.weightsEach, Try.underlying34]
  rw [e] at h
  simp [hr] at h
  exact ⟨by omega, by omega⟩
theorem add_none (b off j : Nat) : Addr.add ⟨b, off, none⟩ j = ⟨b, off + j, none⟩ := by cases j <;> simp [Addr.add]
theorem add_zero (a : Addr) : a.add 0 = a := by simp [Addr.add]
theorem weightsAll_mem {P : Program} {e : TypeId} {l : List (DataW H)} {d : DataW H} (hd : d ∈ l) : ∀ n ∈ d.weights P e, n ∈ DataW.weightsAll P e l := by
  induction l with
  | nil => cases hd
  | cons x l ih =>
    intro n hn
    rw [DataW.weightsAll, List.mem_append]
    rcases List.mem_cons.1 hd with h | h
    · subst h; exact Or.inl hn
    · exact Or.inr (ih h n hn)
theorem sized_one {P : Program} : ∀ {ts : List TypeId} {ds : List (DataW H)} (j : Nat) {t : TypeId} {d : DataW H}, (DataW.weightsEach P ts ds).all (· ≤ reachBytes) = true → ts[j]? = some t → ds[j]? = some d → (DataW.weightsEach P [t] [d]).all (· ≤ reachBytes) = true
  | [], _, j, _, _, _, ht, _ => by simp at ht
  | _ :: _, [], j, _, _, _, _, hd => by simp at hd
  | t0 :: ts, d0 :: ds, 0, t, d, h, ht, hd => by
    simp only [List.getElem?_cons_zero, Option.some.injEq] at ht hd
    subst ht hd
    rw [DataW.weightsEach, List.all_append, Bool.and_eq_true] at h
    rw [DataW.weightsEach, List.all_append, Bool.and_eq_true]
    exact ⟨h.1, by rw [DataW.weightsEach]; rfl; all_goals simp⟩
  | t0 :: ts, d0 :: ds, j + 1, t, d, h, ht, hd => by
    rw [DataW.weightsEach, List.all_append, Bool.and_eq_true] at h
    exact sized_one j h.2 (by simpa using ht) (by simpa using hd)
/-- an archive's parts: its pairs lie in memory -/
def ArcIn (w : World) (d : DS) (l : List Pr) (ao : Option Addr) : Prop := Pr14 d l ∧ Prs w ao l
theorem open_Arc {v : Value} {r : Reach} {b0 : Nat} {d0 : DataW H} {p : List MemPlace} (hval : Value.okWide Try.prog w r b0 37 v) (hd : DataW.Trod enc Try.prog w base sp held 37 v d0 p)
    (hz : (DataW.weightsEach Try.prog [37] [d0]).all (· ≤ reachBytes) = true) :
    ∃ (d : DS) (n : Int) (l : List Pr) (ao : Option Addr) (cap : Nat), v = .agg (arcC d n ao l.length cap) ∧ ArcIn w d l ao := by
  obtain ⟨cs, rfl, _⟩ := okWide_struct Try.underlying37 hval
  obtain ⟨fuel, hf⟩ := hd
  obtain ⟨xs, m, _, hx, hl, hlen, hf⟩ := DataW.trod_struct Try.underlying37 hf
  obtain ⟨x0, x1, x2, rfl⟩ := list3 xs hlen
  obtain ⟨c0, c1, c2, c3, c4, c5, c6, c7, c8, c9, c10, c11, c12, c13, c14, c15, c16, c17, c18, c19, c20, c21, c22, hcs⟩ := list23 cs.toList (hl.trans k_arc)
  have hcs2 : (Value.agg cs).cells.toList = [c0, c1, c2, c3, c4, c5, c6, c7, c8, c9, c10, c11, c12, c13, c14, c15, c16, c17, c18, c19, c20, c21, c22] := hcs
  rw [hcs2] at hf
  have e0 := hf 0 _ rfl
  have e1 := hf 1 _ rfl
  have e2 := hf 2 _ rfl
  simp [k_ds] at e0
  simp [k_int] at e1
  simp [k_sl] at e2
  obtain ⟨d, yd, hxd⟩ := ds_of_trod e0
  obtain ⟨n, y1, rfl, _⟩ := DataW.trod_int Try.underlying3 e1
  simp only [List.cons.injEq, and_true, DS.cells] at yd y1
  obtain ⟨q0, q1, q2, q3, q4, q5, q6, q7, q8, q9, q10, q11, q12, q13, q14, q15, q16, q17, q18, q19, q20⟩ := yd
  subst q0 q1 q2 q3 q4 q5 q6 q7 q8 q9 q10 q11 q12 q13 q14 q15 q16 q17 q18 q19 q20 y1
  simp only [Prod.mk.injEq] at hx
  have hd2 := hx.1
  simp only [List.map_cons, List.map_nil, hxd] at hd2
  have hzd : ((d.d : DataW H).weights Try.prog 34).all (· ≤ reachBytes) = true := by
    rw [List.all_eq_true] at hz ⊢
    intro z hzm
    refine hz z ?_
    rw [hd2]
    simp only [DataW.weightsEach, DataW.weights, Try.underlying37, List.append_nil, List.map_cons, List.map_nil, List.nil_append, List.mem_append]
    exact Or.inl (by simpa [DataW.weights, DataW.weightsEach, Try.underlying34] using hzm)
  obtain ⟨s1, s2⟩ := ds_weights d hzd
  rcases open_slice Try.underlying35 e2 with ⟨h1, rfl⟩ | ⟨a, len, cap, k, j, D, Pl, h1, hb, hle, hcap, hk, rfl, hel⟩
  · simp only [List.cons.injEq, and_true] at h1
    subst h1
    exact ⟨d, n, [], none, 0, by rw [show cs = arcC d n none 0 0 from Array.toList_inj.1 hcs]; rfl, ⟨by simp, (fun c hc => by cases hc), s1, s2⟩, Or.inl rfl⟩
  · simp only [List.cons.injEq, and_true] at h1
    subst h1
    have hlk : len ≤ k := by rw [hk]; split <;> omega
    have hch : ∀ i, i < len → ∃ c : Pr, w.cells? base (a.add (i * 2)) 2 = some c.cells.toList ∧ D i = c.d := by
      intro i hi
      obtain ⟨cs', g1, g2⟩ := hel i (by omega)
      obtain ⟨c, rfl, g3⟩ := pr_of_trod g2
      rw [k_pr] at g1
      exact ⟨c, g1, g3⟩
    haveI : Inhabited Pr := ⟨⟨⟨#[]⟩, ⟨#[]⟩⟩⟩
    obtain ⟨C, hC⟩ := choose_lt hch
    obtain ⟨l, hll, hlc⟩ : ∃ l : List Pr, l.length = len ∧ ∀ i (h : i < l.length), l[i] = C i := ⟨(List.range len).map C, by simp, fun i h => by simp⟩
    have hz2 : ((DataW.slice ((List.range len).map D) ((List.range (k - len)).map fun j => D (len + j)) : DataW H).weights Try.prog 35).all (· ≤ reachBytes) = true := by
      rw [List.all_eq_true] at hz ⊢
      intro z hzm
      refine hz z ?_
      rw [hd2]
      simp only [DataW.weightsEach, DataW.weights, Try.underlying37, List.append_nil, List.map_cons, List.map_nil, List.nil_append, List.mem_append]
      rw [DataW.weights] at hzm
      exact Or.inr hzm
    have hr : reachBytes = 140737488351232 := rfl
    have hb64 : Try.prog.bytesOf 54 = 32 := by kernel_rfl
    have hsz : ∀ c ∈ l, c.Sz := by
      intro c hc
      obtain ⟨i, hi, rfl⟩ := List.getElem_of_mem hc
      have hi2 : i < len := by omega
      refine pr_weights (H := H) _ ?_
      rw [List.all_eq_true] at hz2 ⊢
      intro z hzm
      refine hz2 z ?_
      rw [DataW.weights, Try.underlying35]
      simp only [List.mem_cons, List.mem_append]
      refine Or.inr (Or.inl (weightsAll_mem (d := D i) (List.mem_map.2 ⟨i, List.mem_range.2 hi2, rfl⟩) z ?_))
      rw [(hC i hi2).2, ← hlc i hi]
      exact hzm
    have hlen2 : len ≤ 140737488355328 := by
      rw [List.all_eq_true] at hz2
      have := hz2 ((len + (k - len)) * 32) (by rw [DataW.weights, Try.underlying35]; simp [hb64])
      simp [hr] at this
      omega
    refine ⟨d, n, l, some a, cap, by rw [hll, show cs = arcC d n (some a) len cap from Array.toList_inj.1 hcs], ⟨by omega, hsz, s1, s2⟩, ?_⟩
    by_cases h0 : len = 0
    · exact Or.inl (List.length_eq_zero_iff.1 (by omega))
    · obtain ⟨q1, q2, q3⟩ := World.cells?_some (hC 0 (by omega)).1
      have hcell : w.cell? a = some (.string (C 0).key) := by
        have := q3 0 (by omega)
        rw [Nat.zero_mul, add_zero, add_zero] at this
        simpa using this
      have hspot : a.spot = none := World.cell?_spot hcell
      obtain ⟨b, off, spot⟩ := a
      simp only at hspot
      subst hspot
      refine Or.inr ⟨b, off, rfl, ?_, fun j' hj i hi => ?_⟩
      · unfold World.cell? at hcell
        rcases Nat.lt_or_ge b w.heap.size with h | h
        · exact h
        · simp [Array.getElem?_eq_none h] at hcell
      · obtain ⟨_, _, q⟩ := World.cells?_some (hC j' (by omega)).1
        have := q i hi
        rw [add_none, add_none] at this
        rw [hlc j' hj, this]
        simp
end Go.Proofs.Ytklpamhhbigjfaa
