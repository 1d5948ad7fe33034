/- Chapter 14: fields, number, AppendBool. -/
import Derived.Test.YtklpamhhbigjfaaTab14
import Derived.BigRegion
namespace Go.Proofs.Ytklpamhhbigjfaa
open Go.RowKit
set_option linter.unusedSimpArgs false
set_option linter.unusedVariables false

abbrev pt (g i : Nat) : Value := .pointer (some ⟨g, i, none⟩)
abbrev ptrC (g : Nat) : Array Value := #[pt g 0, pt g 1, pt g 2, pt g 3, pt g 4, pt g 5, pt g 6, pt g 7, pt g 8, pt g 9, pt g 10, pt g 11, pt g 12, pt g 13]
def FieldsP (g : Nat) (w : World) (e : Ending) (w' : World) : Prop := ∃ gf, e = .returned (.slice (some ⟨gf, 0, none⟩) 14 14) ∧ St w w' [⟨gf, ptrC g, 66⟩]
set_option maxHeartbeats 4000000 in
set_option maxRecDepth 100000 in
theorem fields_any (g : Nat) (w : World) : Calls Try.prog 36 #[.pointer (some ⟨g, 0, none⟩)] w (FieldsP g w) := by
  go_enter Try.func36, Try.ntmps36
  go_wp2
  go_region
  go_wp2
  go_ret
  exact ⟨w.heap.size, rfl, ((St.start w).box _ _).drew⟩

def nOk (n : Int) : Bool := decide (0 ≤ n ∧ n ≤ 1099511627776)
theorem number_any (n : Int) (w : World) : Calls Try.prog 39 #[.int .i64 n] w fun e w' => e = .returned (.bool (nOk n)) ∧ w = w' := by
  by_cases h : 0 ≤ n
  · have e0 : nOk n = decide (n ≤ 1099511627776) := by rw [nOk, Bool.eq_iff_iff]; simp only [decide_eq_true_eq]; omega
    rw [e0]
    go_enter Try.func39, Try.ntmps39
    go_wp2
    go_ret
    exact ⟨ret_bool (by simp [h]), rfl⟩
  · have e0 : nOk n = false := decide_eq_false (fun h' => h h'.1)
    rw [e0]
    go_enter Try.func39, Try.ntmps39
    go_wp2
    go_ret
    exact ⟨ret_bool (by simp [h]), rfl⟩
def boolS (b : Bool) : ByteArray := if b then ⟨#[1]⟩ else ⟨#[0]⟩
theorem appendBool_any (s : ByteArray) (b : Bool) (w : World) (hs : s.size ≤ 1000000000000000000) : Calls Try.prog 59 #[.string s, .bool b] w fun e w' => e = .returned (.string (s ++ boolS b)) ∧ w = w' := by
  have h1 : (⟨#[1]⟩ : ByteArray).size = 1 := rfl
  have h0 : (⟨#[0]⟩ : ByteArray).size = 1 := rfl
  cases b with
  | false =>
    go_enter Try.func59, Try.ntmps59
    go_wp2
    go_ret
    exact ⟨rfl, rfl⟩
  | true =>
    go_enter Try.func59, Try.ntmps59
    go_wp2
    go_ret
    exact ⟨rfl, rfl⟩

/-- a list of places, and the numbers that lie there -/
abbrev PV := Nat × Nat × Int
def PtrsAt (w : World) (g off : Nat) (l : List PV) : Prop := ∀ j (h : j < l.length), w.cell? ⟨g, off + j, none⟩ = some (pt l[j].1 l[j].2.1)
def ValsAt (w : World) (l : List PV) : Prop := ∀ p ∈ l, w.cell? ⟨p.1, p.2.1, none⟩ = some (.int .i64 p.2.2)
theorem valid1_any (b o : Nat) (v : Int) (w : World) (hc : w.cell? ⟨b, o, none⟩ = some (.int .i64 v)) :
    Calls Try.prog 38 #[pt b o] w fun e w' => e = .returned (.bool (!nOk v)) ∧ w = w' := by
  go_enter Try.func38, Try.ntmps38
  go_wp2_with (go_at_call 39; refine (number_any _ _).mono ?_; rintro e w' ⟨rfl, rfl⟩)
  go_ret
  exact ⟨ret_bool rfl, rfl⟩
def badN (l : List PV) : Bool := l.any fun p => !nOk p.2.2
def IdxN (l : List PV) (w : World) (e : Ending) (w' : World) : Prop := ∃ r : Int, e = .returned (.int .i64 r) ∧ decide (0 ≤ r) = badN l ∧ w = w'
end Go.Proofs.Ytklpamhhbigjfaa
