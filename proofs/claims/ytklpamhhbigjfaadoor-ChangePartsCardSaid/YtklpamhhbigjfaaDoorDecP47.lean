/- Chapter 47: what Decode returns, plain. -/
import Derived.Test.YtklpamhhbigjfaaDoorReader2
import Derived.Test.YtklpamhhbigjfaaDoorKit9
import Derived.Test.YtklpamhhbigjfaaDoorRec47
namespace Go.Proofs.YtklpamhhbigjfaaDoor
open Go.RowKit

def rChg (r : RS) : Chg × RS :=
  let a := rCnt 7 r
  let b := rCnt 1099511627776 a.2
  let c := rTxt 32 b.2
  let d := rTxt 1000 c.2
  let e := rTxt 31 d.2
  (⟨a.1, b.1, c.1, d.1, e.1⟩, e.2)
def rChgs : Nat → RS → List Chg × RS
  | 0, r => ([], r)
  | k + 1, r => ((rChgs k r).1 ++ [(rChg (rChgs k r).2).1], (rChg (rChgs k r).2).2)
theorem rChg_size (r : RS) : (rChg r).2.1.size ≤ r.1.size ∧ (rChg r).1.key.size ≤ r.1.size ∧ (rChg r).1.rcd.size ≤ r.1.size ∧ (rChg r).1.vol.size ≤ r.1.size := by
  have h1 := rCnt_size 7 r
  have h2 := rCnt_size 1099511627776 (rCnt 7 r).2
  have h3 := rTxt_size 32 (rCnt 1099511627776 (rCnt 7 r).2).2
  have h4 := rTxt_size 1000 (rTxt 32 (rCnt 1099511627776 (rCnt 7 r).2).2).2
  have h5 := rTxt_size 31 (rTxt 1000 (rTxt 32 (rCnt 1099511627776 (rCnt 7 r).2).2).2).2
  simp only [rChg]
  omega
theorem rChgs_len (k : Nat) (r : RS) : (rChgs k r).1.length = k := by
  induction k with
  | zero => rfl
  | succ k ih => simp [rChgs, ih]
theorem rChgs_size (k : Nat) (r : RS) : (rChgs k r).2.1.size ≤ r.1.size ∧ ∀ c ∈ (rChgs k r).1, c.key.size ≤ r.1.size ∧ c.rcd.size ≤ r.1.size ∧ c.vol.size ≤ r.1.size := by
  induction k with
  | zero => exact ⟨Nat.le_refl _, fun c hc => by cases hc⟩
  | succ k ih =>
    have h := rChg_size (rChgs k r).2
    refine ⟨by simp only [rChgs]; omega, fun c hc => ?_⟩
    simp only [rChgs, List.mem_append, List.mem_singleton] at hc
    rcases hc with hc | hc
    · exact ih.2 c hc
    · subst hc; omega
/-- the record that Decode finds, whether or not it is sound; the reader behind it -/
def dHead (s : ByteArray) : Nat × Nat × Nat × RS :=
  let a := rCnt 1099511627776 (s, 0)
  let b := rCnt 1099511627776 a.2
  let c := rCnt 300 b.2
  (a.1, b.1, c.1, c.2)
def dNum (s : ByteArray) : Nat := (dHead s).1
def dUnit (s : ByteArray) : Nat := (dHead s).2.1
def dAll (s : ByteArray) : List Chg × RS := rChgs (dHead s).2.2.1 (dHead s).2.2.2
def DecOk (s : ByteArray) : Prop := s.size ≤ 16384 ∧ rEnd (dAll s).2 = 0 ∧ soundB (dNum s) (dUnit s) (dAll s).1 = true
instance (s : ByteArray) : Decidable (DecOk s) := by unfold DecOk; infer_instance
def decE (s : ByteArray) : Int := if DecOk s then 0 else 11
def decNum (s : ByteArray) : Int := if DecOk s then dNum s else 0
def decUnit (s : ByteArray) : Int := if DecOk s then dUnit s else 0
def decL (s : ByteArray) : List Chg := if DecOk s then (dAll s).1 else []
def DecP (s : ByteArray) (w : World) (e : Ending) (w' : World) : Prop := ∃ ao cap, e = .returned (.tuple #[.agg (recC (decNum s) (decUnit s) ao (decL s).length cap), .int .i64 (decE s)]) ∧ Below w.heap.size w w' ∧ Chgs w' ao (decL s)

/-- the cells of a list of changes -/
def chgXs (l : List Chg) : List Value := l.flatMap fun c => c.cells.toList
theorem chgXs_snoc (l : List Chg) (c : Chg) : chgXs (l ++ [c]) = chgXs l ++ c.cells.toList := by simp [chgXs, List.flatMap_append]
theorem chgXs_at : ∀ (l : List Chg) (j : Nat) (h : j < l.length) (i : Nat), i < 5 → (chgXs l)[j * 5 + i]? = (l[j]).cells[i]?
  | [], j, h, i, hi => by simp at h
  | c :: l, 0, h, i, hi => by
    show (c.cells.toList ++ chgXs l)[0 * 5 + i]? = _
    rw [Nat.zero_mul, Nat.zero_add, List.getElem?_append_left (by simpa using hi)]
    simp
  | c :: l, j + 1, h, i, hi => by
    show (c.cells.toList ++ chgXs l)[(j + 1) * 5 + i]? = _
    have e : (j + 1) * 5 + i = c.cells.toList.length + (j * 5 + i) := by simp; omega
    rw [e, List.getElem?_append_right (by omega), Nat.add_sub_cancel_left]
    exact chgXs_at l j (by simpa using h) i hi
theorem row_chgs {v : Value} {l : List Chg} {L R : List BK} {w0 w : World} (h : RowIs 23 5 v l.length (chgXs l) R) (hst : St w0 w (L ++ R)) : ∃ ao cap, v = .slice ao l.length cap ∧ Chgs w ao l := by
  rcases h.2 with ⟨h1, h2, h3⟩ | ⟨g, cap, cs, hR, h1, h2, h3, h4, h5⟩
  · have : l = [] := List.length_eq_zero_iff.1 h2
    subst this
    exact ⟨none, 0, h1, Or.inl rfl⟩
  · subst hR
    refine ⟨some ⟨g, 0, none⟩, cap, h1, Or.inr ⟨g, 0, rfl, (hst.at_ ⟨g, cs, 23⟩ (by simp)).2.1, fun j hj i hi => ?_⟩⟩
    have hc := (St.cM (L2 := []) hst).1 (0 + j * 5 + i)
    rw [hc, ← chgXs_at l j hj i hi, ← h5, List.getElem?_take_of_lt (by omega)]
    simp
end Go.Proofs.YtklpamhhbigjfaaDoor
