/- slices.Sort and slices.Compact at []int, of slices of the call's own. -/
import Derived.Test.YtklpamhhbigjfaaDoorKit9
import Derived.Test.YtklpamhhbigjfaaDoorShelf
import Derived.Sort.OwnSortedInts
import Derived.Lib.RowBridge
namespace Go.Proofs.YtklpamhhbigjfaaDoor
open Go.RowKit Go.Sort
set_option linter.unusedSimpArgs false
set_option linter.unusedVariables false

/-- behind a sort of a row of the call's own -/
theorem st_sorted {w0 w : World} {g q : Nat} {cs : Array Value} {t : TypeId} {os : Array Obj} (d : Array Int) (hst : St w0 w [⟨g, cs, t⟩]) : St w0 (grow (putRow (Value.int .i64) (Sort.ahead w q) g 0 d) os) [⟨g, putCells (Value.int .i64) 0 d cs, t⟩] := by
  obtain ⟨a1, a2, a3⟩ := hst.at_ ⟨g, cs, t⟩ (by simp)
  have hL : St w0 (grow (putRow (Value.int .i64) (Sort.ahead w q) g 0 d) os) [] := (hst.sub (List.nil_sublist _)).grown (grownBy_sortedI d) (fun k hk => by
    have e : g = k := by simpa using hk
    have a4 : w0.heap.size ≤ g := a1
    omega) (fun b hb => by simp at hb)
  refine ⟨hL.base, fun b hb => ?_, List.pairwise_singleton _ _⟩
  rw [List.mem_singleton] at hb
  subst hb
  exact ⟨a1, by rw [size_grow, size_putRow]; exact Nat.lt_of_lt_of_le a2 (Nat.le_add_right _ _), heap_sortedI d a3⟩
theorem insertion_nil (w : World) : Calls Tryd.prog 75 #[.slice none 0 0, .int .i64 0, .int .i64 0] w fun e w' => e = .returned (.tuple #[]) ∧ w = w' := by
  go_enter Tryd.func75, Tryd.ntmps75
  go_wp2
  refine wp_loop_rounds 1 ?_
  rw [rounds_succ]
  go_wp2
  go_end0
  exact ⟨rfl, rfl⟩
theorem pdq_nil (n : Nat) (w : World) : Calls Tryd.prog 68 #[.slice none 0 0, .int .i64 0, .int .i64 0, .int .i64 n] w fun e w' => e = .returned (.tuple #[]) ∧ w = w' := by
  go_enter Tryd.func68, Tryd.ntmps68
  go_wp2
  refine wp_loop_rounds 1 ?_
  rw [rounds_succ]
  go_wp2_with (first | (go_at_call 75; refine (insertion_nil _).mono ?_; rintro e w' ⟨rfl, hw⟩; subst hw))
  exact bodyPost_ret (results_none rfl _ _ _) rfl ⟨rfl, rfl⟩
set_option maxHeartbeats 1000000 in
theorem sort_row {w0 w : World} {R : List BK} {v : Value} {zs : List Int} (hst : St w0 w R) (hr : RowIs 3 1 v zs.length (zs.map (Value.int .i64)) R) (hz : zs.length ≤ 1000000) :
    Calls Tryd.prog 50 #[v] w fun e w' => e = .returned (.tuple #[]) ∧ ∃ R', St w0 w' R' ∧ RowIs 3 1 v zs.length ((zs.mergeSort fun x y => decide (x ≤ y)).map (Value.int .i64)) R' := by
  rcases hr.2 with ⟨h1, h2, h3⟩ | ⟨g, cap, cs, hR, h1, h2, h3, h4, h5⟩
  · subst h1 h3
    have hz0 : zs = [] := List.length_eq_zero_iff.1 h2
    subst hz0
    have hbase := Lib.hid hst
    clear hst hr
    go_enter Tryd.func50, Tryd.ntmps50
    go_wp2_with (first | (go_at_call 69; refine (Tryd.bits_Len _ _ (by omega) (by omega)).mono ?_; rintro e w' ⟨rfl, hw⟩; subst hw) | (go_at_call 68; refine (pdq_nil _ _).mono ?_; rintro e w' ⟨rfl, hw⟩; subst hw))
    go_end0
    exact ⟨rfl, [], hbase.out, by rw [List.mergeSort_nil]; exact RowIs.nil _ _⟩
  · subst h1 hR
    obtain ⟨a1, a2, a3⟩ := hst.at_ ⟨g, cs, 3⟩ (by simp)
    refine (Tryd.slices_Sort_int g 0 cap zs w (holds_of_blockI a3 (by rw [← h5, Nat.mul_one])) a2 (by omega)).mono ?_
    rintro e w' ⟨rfl, q, os, rfl⟩
    refine ⟨rfl, _, st_sorted _ hst, by simp, Or.inr ⟨g, cap, _, rfl, rfl, h2, h3, by simp [putCells, h4], ?_⟩⟩
    have := take_putCellsI cs (zs.mergeSort fun x y => decide (x ≤ y)) (by simp; omega)
    simpa using this
theorem compact_row {w0 w : World} {R : List BK} {v : Value} {zs : List Int} (hst : St w0 w R) (hr : RowIs 3 1 v zs.length (zs.map (Value.int .i64)) R) (hz : zs.length ≤ 1000000) :
    Calls Tryd.prog 51 #[v] w fun e w' => ∃ v' R', e = .returned v' ∧ St w0 w' R' ∧ RowIs 3 1 v' (Lib.compact zs).length ((Lib.compact zs).map (Value.int .i64)) R' := by
  rcases hr.2 with ⟨h1, h2, h3⟩ | ⟨g, cap, cs, hR, h1, h2, h3, h4, h5⟩
  · subst h1 h3
    have hz0 : zs = [] := List.length_eq_zero_iff.1 h2
    subst hz0
    refine (Tryd.slices_Compact_int_empty none 0 w).mono ?_
    rintro e w' ⟨rfl, rfl⟩
    exact ⟨_, [], rfl, hst, RowIs.nil _ _⟩
  · subst h1 hR
    obtain ⟨a1, a2, a3⟩ := hst.at_ ⟨g, cs, 3⟩ (by simp)
    have hl := Lib.compact_length_le zs
    refine (Tryd.slices_Compact_int g 0 cap zs w (holds_of_blockI a3 (by rw [← h5, Nat.mul_one])) (by omega) h2).mono ?_
    rintro e w' ⟨rfl, q, rfl⟩
    have hs := st_sorted (q := q) (os := #[]) (Lib.compact zs ++ List.replicate (zs.length - (Lib.compact zs).length) 0).toArray hst
    rw [grow_empty] at hs
    refine ⟨_, _, rfl, hs, by simp, Or.inr ⟨g, cap, _, rfl, rfl, by omega, h3, by simp [putCells, h4], ?_⟩⟩
    have h6 := take_putCellsI cs (Lib.compact zs ++ List.replicate (zs.length - (Lib.compact zs).length) 0) (by simp; omega)
    have h7 := congrArg (List.take (Lib.compact zs).length) h6
    rw [List.take_take, List.map_append, List.take_left' (by simp)] at h7
    rw [Nat.mul_one, ← h7]
    congr 1
    simp
end Go.Proofs.YtklpamhhbigjfaaDoor
