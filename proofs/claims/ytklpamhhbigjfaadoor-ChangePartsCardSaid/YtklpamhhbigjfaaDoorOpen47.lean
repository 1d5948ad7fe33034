/- A change, a log record that come in, opened. -/
import Derived.Test.YtklpamhhbigjfaaDoorSame47
import Derived.Deep.Slices
import Derived.SizedLaws
import Derived.OpenShut
namespace Go.Proofs.YtklpamhhbigjfaaDoor
open Go.RowKit Go.WideShapes Go.ChangeShapes Go.Deep
set_option maxRecDepth 100000

variable {H : Type} {enc : TypeId × Value → H} {w : World} {base : Nat} {sp : Nat → Bool} {held : Bool}
abbrev bD (s : ByteArray) : DataW H := .lit (.string s.data.toList)
abbrev Chg.d (c : Chg) : DataW H := .agg [.lit (.int .i64 c.kind), .lit (.int .i64 c.id), bD c.key, bD c.rcd, bD c.vol]
theorem k_int : Tryd.prog.cellsOf 3 = 1 := by kernel_rfl
theorem k_str : Tryd.prog.cellsOf 9 = 1 := by kernel_rfl
theorem k_sl : Tryd.prog.cellsOf 27 = 1 := by kernel_rfl
theorem k_chg : Tryd.prog.cellsOf 23 = 5 := by kernel_rfl
theorem k_rec : Tryd.prog.cellsOf 29 = 3 := by kernel_rfl
theorem list5 {α : Type} (l : List α) (h : l.length = 5) : ∃ c0 c1 c2 c3 c4, l = [c0, c1, c2, c3, c4] := by
  match l, h with
  | [c0, c1, c2, c3, c4], _ => exact ⟨c0, c1, c2, c3, c4, rfl⟩
theorem list3 {α : Type} (l : List α) (h : l.length = 3) : ∃ c0 c1 c2, l = [c0, c1, c2] := by
  match l, h with
  | [c0, c1, c2], _ => exact ⟨c0, c1, c2, rfl⟩
theorem chg_of_trod {fuel : Nat} {cs : List Value} {x : DataW H × List MemPlace} (h : DataW.trod enc Tryd.prog w base sp held fuel 23 cs = some x) : ∃ c : Chg, cs = c.cells.toList ∧ x.1 = c.d := by
  obtain ⟨xs, n, _, rfl, hl, hlen, hf⟩ := DataW.trod_struct Tryd.underlying23 h
  obtain ⟨x0, x1, x2, x3, x4, rfl⟩ := list5 xs hlen
  obtain ⟨c0, c1, c2, c3, c4, rfl⟩ := list5 cs (hl.trans k_chg)
  have e0 := hf 0 _ rfl
  have e1 := hf 1 _ rfl
  have e2 := hf 2 _ rfl
  have e3 := hf 3 _ rfl
  have e4 := hf 4 _ rfl
  simp [k_int] at e0 e1
  simp [k_str] at e2 e3 e4
  obtain ⟨a0, y0, rfl, _⟩ := DataW.trod_int Tryd.underlying3 e0
  obtain ⟨a1, y1, rfl, _⟩ := DataW.trod_int Tryd.underlying3 e1
  obtain ⟨a2, y2, rfl, _⟩ := DataW.trod_string Tryd.underlying9 e2
  obtain ⟨a3, y3, rfl, _⟩ := DataW.trod_string Tryd.underlying9 e3
  obtain ⟨a4, y4, rfl, _⟩ := DataW.trod_string Tryd.underlying9 e4
  simp only [List.cons.injEq, and_true] at y0 y1 y2 y3 y4
  subst y0 y1 y2 y3 y4
  exact ⟨⟨a0, a1, a2, a3, a4⟩, rfl, rfl⟩
/-- the sizes out of the reach -/
theorem chg_weights (c : Chg) (h : ((c.d : DataW H).weights Tryd.prog 23).all (· ≤ reachBytes) = true) : c.Sz := by
  have hr : reachBytes = 140737488351232 := rfl
  have e : (c.d : DataW H).weights Tryd.prog 23 = [c.key.size, c.rcd.size, c.vol.size] := by
    simp [DataW.weights, DataW.weightsEach, Tryd.underlying23]
  rw [e] at h
  simp [hr] at h
  exact ⟨by omega, by omega, by omega⟩
theorem open_Chg {v : Value} {r : Reach} {b0 : Nat} {d : DataW H} {p : List MemPlace} (hval : Value.okWide Tryd.prog w r b0 23 v) (hd : DataW.Trod enc Tryd.prog w base sp held 23 v d p)
    (hz : (DataW.weightsEach Tryd.prog [23] [d]).all (· ≤ reachBytes) = true) : ∃ c : Chg, v = c.v ∧ c.Sz := by
  obtain ⟨cs, rfl, _⟩ := okWide_struct Tryd.underlying23 hval
  obtain ⟨fuel, hf⟩ := hd
  obtain ⟨c, h1, h2⟩ := chg_of_trod hf
  have h3 : cs = c.cells := by
    have : cs.toList = c.cells.toList := h1
    exact Array.toList_inj.1 this
  simp only at h2
  subst h2
  refine ⟨c, by rw [h3], chg_weights (H := H) c ?_⟩
  simpa [DataW.weightsEach] using hz

theorem add_none (b off j : Nat) : Addr.add ⟨b, off, none⟩ j = ⟨b, off + j, none⟩ := by cases j <;> simp [Addr.add]
theorem add_zero (a : Addr) : a.add 0 = a := by simp [Addr.add]
theorem weightsAll_mem {P : Program} {e : TypeId} {l : List (DataW H)} {d : DataW H} (hd : d ∈ l) : ∀ n ∈ d.weights P e, n ∈ DataW.weightsAll P e l := by
  induction l with
  | nil => cases hd
  | cons x l ih =>
    intro n hn
    rw [DataW.weightsAll, List.mem_append]
    rcases List.mem_cons.1 hd with h | h
    · subst h; exact Or.inl hn
    · exact Or.inr (ih h n hn)
/-- a log record's parts: its changes lie in memory -/
def RecIn (w : World) (l : List Chg) (ao : Option Addr) : Prop := l.length ≤ 140737488355328 ∧ Chgs w ao l ∧ ∀ c ∈ l, c.Sz
theorem open_Rec {v : Value} {r : Reach} {b0 : Nat} {d : DataW H} {p : List MemPlace} (hval : Value.okWide Tryd.prog w r b0 29 v) (hd : DataW.Trod enc Tryd.prog w base sp held 29 v d p)
    (hz : (DataW.weightsEach Tryd.prog [29] [d]).all (· ≤ reachBytes) = true) :
    ∃ (n u : Int) (l : List Chg) (ao : Option Addr) (cap : Nat), v = .agg (recC n u ao l.length cap) ∧ RecIn w l ao := by
  obtain ⟨cs, rfl, _⟩ := okWide_struct Tryd.underlying29 hval
  obtain ⟨fuel, hf⟩ := hd
  obtain ⟨xs, m, _, hx, hl, hlen, hf⟩ := DataW.trod_struct Tryd.underlying29 hf
  obtain ⟨x0, x1, x2, rfl⟩ := list3 xs hlen
  obtain ⟨c0, c1, c2, hcs⟩ := list3 cs.toList (hl.trans k_rec)
  have hcs2 : (Value.agg cs).cells.toList = [c0, c1, c2] := hcs
  rw [hcs2] at hf
  have e0 := hf 0 _ rfl
  have e1 := hf 1 _ rfl
  have e2 := hf 2 _ rfl
  simp [k_int] at e0 e1
  simp [k_sl] at e2
  obtain ⟨n, y0, rfl, _⟩ := DataW.trod_int Tryd.underlying3 e0
  obtain ⟨u, y1, rfl, _⟩ := DataW.trod_int Tryd.underlying3 e1
  simp only [List.cons.injEq, and_true] at y0 y1
  subst y0 y1
  simp only [Prod.mk.injEq] at hx
  have hd2 := hx.1
  simp only [List.map_cons, List.map_nil] at hd2
  rcases open_slice Tryd.underlying27 e2 with ⟨h1, rfl⟩ | ⟨a, len, cap, k, j, D, Pl, h1, hb, hle, hcap, hk, rfl, hel⟩
  · simp only [List.cons.injEq, and_true] at h1
    subst h1
    exact ⟨n, u, [], none, 0, by rw [show cs = #[.int .i64 n, .int .i64 u, .slice none 0 0] from Array.toList_inj.1 hcs]; rfl, by simp, Or.inl rfl, fun c hc => by cases hc⟩
  · simp only [List.cons.injEq, and_true] at h1
    subst h1
    have hlk : len ≤ k := by rw [hk]; split <;> omega
    have hch : ∀ i, i < len → ∃ c : Chg, w.cells? base (a.add (i * 5)) 5 = some c.cells.toList ∧ D i = c.d := by
      intro i hi
      obtain ⟨cs', g1, g2⟩ := hel i (by omega)
      obtain ⟨c, rfl, g3⟩ := chg_of_trod g2
      rw [k_chg] at g1
      exact ⟨c, g1, g3⟩
    haveI : Inhabited Chg := ⟨⟨0, 0, ⟨#[]⟩, ⟨#[]⟩, ⟨#[]⟩⟩⟩
    obtain ⟨C, hC⟩ := choose_lt hch
    obtain ⟨l, hll, hlc⟩ : ∃ l : List Chg, l.length = len ∧ ∀ i (h : i < l.length), l[i] = C i := ⟨(List.range len).map C, by simp, fun i h => by simp⟩
    have hz2 : ((DataW.slice ((List.range len).map D) ((List.range (k - len)).map fun j => D (len + j)) : DataW H).weights Tryd.prog 27).all (· ≤ reachBytes) = true := by
      rw [List.all_eq_true] at hz ⊢
      intro z hzm
      refine hz z ?_
      rw [hd2]
      simp only [DataW.weightsEach, DataW.weights, Tryd.underlying29, List.append_nil, List.map_cons, List.map_nil, List.nil_append]
      rw [DataW.weights] at hzm
      exact hzm
    have hr : reachBytes = 140737488351232 := rfl
    have hb64 : Tryd.prog.bytesOf 23 = 64 := by kernel_rfl
    have hsz : ∀ c ∈ l, c.Sz := by
      intro c hc
      obtain ⟨i, hi, rfl⟩ := List.getElem_of_mem hc
      have hi2 : i < len := by omega
      refine chg_weights (H := H) _ ?_
      rw [List.all_eq_true] at hz2 ⊢
      intro z hzm
      refine hz2 z ?_
      rw [DataW.weights, Tryd.underlying27]
      simp only [List.mem_cons, List.mem_append]
      refine Or.inr (Or.inl (weightsAll_mem (d := D i) (List.mem_map.2 ⟨i, List.mem_range.2 hi2, rfl⟩) z ?_))
      rw [(hC i hi2).2, ← hlc i hi]
      exact hzm
    have hlen2 : len ≤ 140737488355328 := by
      rw [List.all_eq_true] at hz2
      have := hz2 ((len + (k - len)) * 64) (by rw [DataW.weights, Tryd.underlying27]; simp [hb64])
      simp [hr] at this
      omega
    refine ⟨n, u, l, some a, cap, by rw [hll, show cs = #[.int .i64 n, .int .i64 u, .slice (some a) len cap] from Array.toList_inj.1 hcs], by omega, ?_, hsz⟩
    by_cases h0 : len = 0
    · exact Or.inl (List.length_eq_zero_iff.1 (by omega))
    · obtain ⟨q1, q2, q3⟩ := World.cells?_some (hC 0 (by omega)).1
      have hcell : w.cell? a = some (.int .i64 (C 0).kind) := by
        have := q3 0 (by omega)
        rw [Nat.zero_mul, add_zero, add_zero] at this
        simpa using this
      have hspot : a.spot = none := World.cell?_spot hcell
      obtain ⟨b, off, spot⟩ := a
      simp only at hspot
      subst hspot
      refine Or.inr ⟨b, off, rfl, ?_, fun j' hj i hi => ?_⟩
      · unfold World.cell? at hcell
        rcases Nat.lt_or_ge b w.heap.size with h | h
        · exact h
        · simp [Array.getElem?_eq_none h] at hcell
      · obtain ⟨_, _, q⟩ := World.cells?_some (hC j' (by omega)).1
        have := q i hi
        rw [add_none, add_none] at this
        rw [hlc j' hj, this]
        simp
end Go.Proofs.YtklpamhhbigjfaaDoor
