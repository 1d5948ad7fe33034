/- A description that comes in is a DS. -/
import Derived.Test.YtcdlcdibcekahaaDS
import Derived.WideShapes
import Derived.KernelRfl
namespace Go.Proofs.Ytcdlcdibcekahaa
open Go.RowKit Go.WideShapes
set_option maxRecDepth 100000

theorem cell_int {P : Program} {w : World} {r : Reach} {b : Nat} {t : TypeId} {v : Value} {k : IntKind} (ht : P.underlying t = some (.int k)) (h : Cell.okWide P w r b t v) : ∃ n, v = .int k n := by
  simp only [Cell.okWide, ht] at h
  cases v <;> simp_all [Cell.ok]
theorem cell_bool {P : Program} {w : World} {r : Reach} {b : Nat} {t : TypeId} {v : Value} (ht : P.underlying t = some .bool) (h : Cell.okWide P w r b t v) : ∃ x, v = .bool x := by
  simp only [Cell.okWide, ht] at h
  cases v <;> simp_all [Cell.ok]
theorem cell_str {P : Program} {w : World} {r : Reach} {b : Nat} {t : TypeId} {v : Value} (ht : P.underlying t = some .string) (h : Cell.okWide P w r b t v) : ∃ s, v = .string s := by
  simp only [Cell.okWide, ht] at h
  cases v <;> simp_all [Cell.ok]
theorem row_cell {P : Program} {w : World} {r : Reach} {b : Nat} {cs : Array Value} {ts : List TypeId} (h : ∀ i v, cs[i]? = some v → ∃ u, ts[i % ts.length]? = some u ∧ Cell.okWide P w r b u v)
    (i : Nat) (v : Value) (u : TypeId) (hv : cs[i]? = some v) (hu : ts[i % ts.length]? = some u) : Cell.okWide P w r b u v := by
  obtain ⟨u', h1, h2⟩ := h i v hv
  rw [hu] at h1
  injection h1 with h1
  rw [h1]
  exact h2

theorem list21 {α : Type} (l : List α) (h : l.length = 21) : ∃ c0 c1 c2 c3 c4 c5 c6 c7 c8 c9 c10 c11 c12 c13 c14 c15 c16 c17 c18 c19 c20, l = [c0, c1, c2, c3, c4, c5, c6, c7, c8, c9, c10, c11, c12, c13, c14, c15, c16, c17, c18, c19, c20] := by
  match l, h with
  | [c0, c1, c2, c3, c4, c5, c6, c7, c8, c9, c10, c11, c12, c13, c14, c15, c16, c17, c18, c19, c20], _ => exact ⟨c0, c1, c2, c3, c4, c5, c6, c7, c8, c9, c10, c11, c12, c13, c14, c15, c16, c17, c18, c19, c20, rfl⟩

theorem cells_DS : Try.prog.cellTypes Try.prog.depth 23 = some [3, 3, 3, 3, 3, 3, 3, 3, 3, 3, 3, 3, 3, 3, 4, 3, 9, 9, 3, 3, 4] := by kernel_rfl
theorem size_DS : Try.prog.cellsOf 23 = 21 := by kernel_rfl

theorem row_DS {w : World} {r : Reach} {b : Nat} {cs : Array Value} (hs : cs.size = 21) (h : ∀ i v, cs[i]? = some v → ∃ u, [3, 3, 3, 3, 3, 3, 3, 3, 3, 3, 3, 3, 3, 3, 4, 3, 9, 9, 3, 3, 4][i % 21]? = some u ∧ Cell.okWide Try.prog w r b u v) : ∃ d : DS, cs = d.cells := by
  obtain ⟨l⟩ := cs
  obtain ⟨c0, c1, c2, c3, c4, c5, c6, c7, c8, c9, c10, c11, c12, c13, c14, c15, c16, c17, c18, c19, c20, rfl⟩ := list21 l (by simpa using hs)
  have g := fun i v u hv hu => row_cell (ts := [3, 3, 3, 3, 3, 3, 3, 3, 3, 3, 3, 3, 3, 3, 4, 3, 9, 9, 3, 3, 4]) h i v u hv hu
  obtain ⟨n0, rfl⟩ := cell_int Try.underlying3 (g 0 c0 3 rfl rfl)
  obtain ⟨n1, rfl⟩ := cell_int Try.underlying3 (g 1 c1 3 rfl rfl)
  obtain ⟨n2, rfl⟩ := cell_int Try.underlying3 (g 2 c2 3 rfl rfl)
  obtain ⟨n3, rfl⟩ := cell_int Try.underlying3 (g 3 c3 3 rfl rfl)
  obtain ⟨n4, rfl⟩ := cell_int Try.underlying3 (g 4 c4 3 rfl rfl)
  obtain ⟨n5, rfl⟩ := cell_int Try.underlying3 (g 5 c5 3 rfl rfl)
  obtain ⟨n6, rfl⟩ := cell_int Try.underlying3 (g 6 c6 3 rfl rfl)
  obtain ⟨n7, rfl⟩ := cell_int Try.underlying3 (g 7 c7 3 rfl rfl)
  obtain ⟨n8, rfl⟩ := cell_int Try.underlying3 (g 8 c8 3 rfl rfl)
  obtain ⟨n9, rfl⟩ := cell_int Try.underlying3 (g 9 c9 3 rfl rfl)
  obtain ⟨n10, rfl⟩ := cell_int Try.underlying3 (g 10 c10 3 rfl rfl)
  obtain ⟨n11, rfl⟩ := cell_int Try.underlying3 (g 11 c11 3 rfl rfl)
  obtain ⟨n12, rfl⟩ := cell_int Try.underlying3 (g 12 c12 3 rfl rfl)
  obtain ⟨n13, rfl⟩ := cell_int Try.underlying3 (g 13 c13 3 rfl rfl)
  obtain ⟨n14, rfl⟩ := cell_bool Try.underlying4 (g 14 c14 4 rfl rfl)
  obtain ⟨n15, rfl⟩ := cell_int Try.underlying3 (g 15 c15 3 rfl rfl)
  obtain ⟨n16, rfl⟩ := cell_str Try.underlying9 (g 16 c16 9 rfl rfl)
  obtain ⟨n17, rfl⟩ := cell_str Try.underlying9 (g 17 c17 9 rfl rfl)
  obtain ⟨n18, rfl⟩ := cell_int Try.underlying3 (g 18 c18 3 rfl rfl)
  obtain ⟨n19, rfl⟩ := cell_int Try.underlying3 (g 19 c19 3 rfl rfl)
  obtain ⟨n20, rfl⟩ := cell_bool Try.underlying4 (g 20 c20 4 rfl rfl)
  exact ⟨⟨n0, n1, n2, n3, n4, n5, n6, n7, n8, n9, n10, n11, n12, n13, n14, n15, n16, n17, n18, n19, n20⟩, rfl⟩

theorem okWide_DS {w : World} {r : Reach} {b : Nat} {v : Value} (h : Value.okWide Try.prog w r b 23 v) : ∃ d : DS, v = d.v := by
  simp only [Value.okWide, Try.underlying23] at h
  obtain ⟨cs, rfl, hs, ts, hts, _, hc⟩ := h
  rw [size_DS] at hs
  rw [cells_DS] at hts
  injection hts with hts
  subst hts
  obtain ⟨d, rfl⟩ := row_DS hs hc
  exact ⟨d, rfl⟩
end Go.Proofs.Ytcdlcdibcekahaa
