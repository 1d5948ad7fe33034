/- The reference of chapter 16: Short. -/
import Derived.Test.YtcdlcdibcekahaaKit4
namespace Go.Proofs.Ytcdlcdibcekahaa
open Go.RowKit
set_option linter.unusedSimpArgs false
set_option linter.unusedVariables false

def allShort (l : List ByteArray) (len : Int) : Bool := l.all fun s => decide ((s.size : Int) ≤ len)
theorem short_any (g n c : Nat) (w : World) (l : List ByteArray) (most len : Int) (hn : l.length = n) (hm : n ≤ 9223372036854775807) (hmo : (n : Int) ≤ most)
    (hc : ∀ j, j < n → w.cell? ⟨g, j, none⟩ = some (.string (l.getD j ⟨#[]⟩))) :
    Calls Try.prog 20 #[.slice (some ⟨g, 0, none⟩) n c, .int .i64 most, .int .i64 len] w fun e w' => e = .returned (.bool (allShort l len)) ∧ w = w' := by
  have HC : Hid (∀ j, j < n → w.cell? ⟨g, j, none⟩ = some (.string (l.getD j ⟨#[]⟩))) := hc
  clear hc
  have HN := Lib.hid hn
  clear hn
  go_enter Try.func20, Try.ntmps20
  go_wp2
  go_loop [7] (fun i => ∃ k : Nat, k ≤ n ∧ i = .int .i64 k ∧ Hid (∀ j, j < k → ((l.getD j ⟨#[]⟩).size : Int) ≤ len)) (fun i => n - (intOf i).toNat)
  case atStart => exact ⟨0, Nat.zero_le _, rfl, fun j hj => absurd hj (by omega)⟩
  case round =>
    obtain ⟨k, hk, rfl, HZ⟩ := hrel
    by_cases hlt : k < n
    · have hcell := HC.out k hlt
      obtain ⟨x, hx⟩ : ∃ x, x = l.getD k ⟨#[]⟩ := ⟨_, rfl⟩
      rw [← hx] at hcell
      have HX := Lib.hid hx
      clear hx
      by_cases h0 : (x.size : Int) ≤ len
      · go_wp2
        go_round
        case rel =>
          refine ⟨k + 1, by omega, by go_num, fun j hj => ?_⟩
          by_cases e : j = k
          · rw [e, ← HX.out]; exact h0
          · exact HZ.out j (by omega)
        case measure => simp [intOf]; omega
      · have h0' : len < (x.size : Int) := by omega
        go_wp2
        go_ret
        refine ⟨ret_bool ?_, rfl⟩
        symm
        rw [allShort, List.all_eq_false]
        refine ⟨x, ?_, by simpa using h0'⟩
        rw [HX.out]
        have := HN.out
        rw [List.getD_eq_getElem?_getD, List.getElem?_eq_getElem (by omega), Option.getD_some]
        exact List.getElem_mem _
    · go_wp2
      go_ret
      refine ⟨ret_bool ?_, rfl⟩
      symm
      rw [allShort, List.all_eq_true]
      intro x hx
      obtain ⟨j, hj, rfl⟩ := List.getElem_of_mem hx
      have := HZ.out j (by have := HN.out; omega)
      rw [List.getD_eq_getElem?_getD, List.getElem?_eq_getElem hj, Option.getD_some] at this
      simp [this]
theorem cells3s {w : World} {g : Nat} {a b c : ByteArray} (h0 : w.cell? ⟨g, 0, none⟩ = some (.string a)) (h1 : w.cell? ⟨g, 1, none⟩ = some (.string b)) (h2 : w.cell? ⟨g, 2, none⟩ = some (.string c)) :
    ∀ j, j < 3 → w.cell? ⟨g, j, none⟩ = some (.string ([a, b, c].getD j ⟨#[]⟩))
  | 0, _ => h0
  | 1, _ => h1
  | 2, _ => h2
end Go.Proofs.Ytcdlcdibcekahaa
