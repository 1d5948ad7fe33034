/- Chapter 14: pairs as they lie; ContainsFunc over them. -/
import Derived.Test.YtklpamhhbigjfaaFields14
import Derived.Test.YtklpamhhbigjfaaKit8
namespace Go.Proofs.Ytklpamhhbigjfaa
open Go.RowKit
set_option linter.unusedSimpArgs false
set_option linter.unusedVariables false

structure Pr where
  key : ByteArray
  rcd : ByteArray
  deriving DecidableEq
abbrev Pr.cells (c : Pr) : Array Value := #[.string c.key, .string c.rcd]
abbrev Pr.v (c : Pr) : Value := .agg c.cells
def PrsAt (w : World) (b off : Nat) (l : List Pr) : Prop := ∀ j (h : j < l.length) (i : Nat), i < 2 → w.cell? ⟨b, off + j * 2 + i, none⟩ = (l[j]).cells[i]?
def Prs (w : World) (ao : Option Addr) (l : List Pr) : Prop := l = [] ∨ ∃ b off, ao = some ⟨b, off, none⟩ ∧ b < w.heap.size ∧ PrsAt w b off l
theorem PrsAt.below {w w1 : World} {b off : Nat} {l : List Pr} (h : PrsAt w b off l) (hb : b < w.heap.size) (k : Below w.heap.size w w1) : PrsAt w1 b off l :=
  fun j hj i hi => (k.cell (p := ⟨b, off + j * 2 + i, none⟩) hb).trans (h j hj i hi)
theorem Prs.below {w w1 : World} {ao : Option Addr} {l : List Pr} (h : Prs w ao l) (k : Below w.heap.size w w1) : Prs w1 ao l := by
  rcases h with h | ⟨b, off, h1, h2, h3⟩
  · exact Or.inl h
  · exact Or.inr ⟨b, off, h1, Nat.lt_of_lt_of_le h2 k.size, h3.below h2 k⟩
theorem PrsAt.get {w : World} {b off : Nat} {l : List Pr} (h : PrsAt w b off l) {k : Nat} (hk : k < l.length) {c : Pr} (hc : c = l[k]) :
    w.cell? ⟨b, off + k * 2, none⟩ = some (.string c.key) ∧ w.cell? ⟨b, off + k * 2 + 1, none⟩ = some (.string c.rcd) := by
  subst hc
  exact ⟨h k hk 0 (by omega), h k hk 1 (by omega)⟩
def Pr.Sz (c : Pr) : Prop := c.key.size ≤ 140737488355328 ∧ c.rcd.size ≤ 140737488355328
def Pr.ok (c : Pr) : Bool := decide (c.key.size ≤ 32 ∧ c.rcd.size ≤ 1000)

theorem valid2_any (c : Pr) (w : World) (hs : c.Sz) :
    Calls Try.prog 41 #[c.v] w fun e w' => e = .returned (.bool (!c.ok)) ∧ Below w.heap.size w w' := by
  have hst := St.start w
  obtain ⟨s1, s2⟩ := hs
  by_cases h1 : c.key.size ≤ 32
  · have e : (!c.ok) = decide ((c.rcd.size : Int) > 1000) := by
      rw [Pr.ok, Bool.eq_iff_iff]; simp only [Bool.not_eq_true', decide_eq_false_iff_not, decide_eq_true_eq]; omega
    rw [e]
    clear e
    go_enter Try.func41, Try.ntmps41
    go_wp2_with (first | ((with_reducible refine at_dst (N := 1) rfl ?_); refine wpList_box hst 54 c.cells rfl ?hr ?_; (case hr => first | (go_simp; done) | (go_simp; rfl)); clear hst; intro g1 w1 hst; obtain ⟨hc1, hf1, hl1⟩ := hst.c0))
    go_ret
    exact ⟨ret_bool (by have : ¬ (32 < (c.key.size : Int)) := by omega
                        simp [this]), hst.base⟩
  · have e : (!c.ok) = true := by
      rw [Pr.ok]; simp only [Bool.not_eq_true', decide_eq_false_iff_not]; omega
    rw [e]
    clear e
    go_enter Try.func41, Try.ntmps41
    go_wp2_with (first | ((with_reducible refine at_dst (N := 1) rfl ?_); refine wpList_box hst 54 c.cells rfl ?hr ?_; (case hr => first | (go_simp; done) | (go_simp; rfl)); clear hst; intro g1 w1 hst; obtain ⟨hc1, hf1, hl1⟩ := hst.c0))
    go_ret
    exact ⟨ret_bool (by have : (32 < (c.key.size : Int)) := by omega
                        simp [this]), hst.base⟩
def badP (l : List Pr) : Bool := l.any fun c => !c.ok
def IdxPr (l : List Pr) (w : World) (e : Ending) (w' : World) : Prop := ∃ r : Int, e = .returned (.int .i64 r) ∧ decide (0 ≤ r) = badP l ∧ Below w.heap.size w w'

set_option maxHeartbeats 1000000 in
theorem indexP_any (l : List Pr) (ao : Option Addr) (cap : Nat) (w : World) (hl : l.length ≤ 140737488355328) (hc : Prs w ao l) (hs : ∀ c ∈ l, c.Sz) :
    Calls Try.prog 63 #[.slice ao l.length cap, .func (.func 41) #[] #[]] w (IdxPr l w) := by
  obtain ⟨n, hn⟩ : ∃ n, n = l.length := ⟨_, rfl⟩
  rw [← hn] at hl ⊢
  have HN := Lib.hid hn
  have HS := Lib.hid hs
  have HC := Lib.hid hc
  clear hn hs hc
  go_enter Try.func63, Try.ntmps63
  go_wp2
  go_loopw [8] (fun t wr => ∃ k : Nat, k ≤ n ∧ t = .int .i64 k ∧ Hid (∀ j (h : j < l.length), j < k → (l[j]).ok = true) ∧ Below w.heap.size w wr) (fun t _ => n - (intOf t).toNat)
  case atStart => exact ⟨0, Nat.zero_le _, rfl, fun j _ hj => absurd hj (by omega), Below.refl _ _⟩
  case round =>
    obtain ⟨k, hk, rfl, HZ, hbel⟩ := hrel
    by_cases hlt : k < n
    · have hkl : k < l.length := by rw [← HN.out]; exact hlt
      obtain ⟨c, hcc⟩ : ∃ c, c = l[k] := ⟨_, rfl⟩
      obtain ⟨b, off, rfl, hb, hat⟩ : ∃ b off, ao = some ⟨b, off, none⟩ ∧ b < w.heap.size ∧ PrsAt w b off l := by
        rcases HC.out with h | h
        · rw [h] at hkl; simp at hkl
        · exact h
      obtain ⟨c0, c1⟩ := (hat.below hb hbel).get hkl hcc
      have hsz : c.Sz := by rw [hcc]; exact HS.out _ (List.getElem_mem _)
      obtain ⟨V, hV⟩ : ∃ V, V = c.ok := ⟨_, rfl⟩
      have k1 := fun w => valid2_any c w hsz
      rw [← hV] at k1
      have K1 := Lib.hid k1
      have HCC := Lib.hid hcc
      have HV := Lib.hid hV
      clear k1 hV hcc hat hsz
      cases V with
      | true =>
        go_wp2_with (go_at_call 41; refine (K1.out _).mono ?_; rintro e w' ⟨rfl, hb1⟩)
        go_roundw
        case measure => simp [intOf]; omega
        case rel =>
          refine ⟨k + 1, by omega, by go_num, fun j h hj => ?_, below_next hbel hb1⟩
          by_cases e : j = k
          · subst e; rw [← HCC.out]; exact HV.out.symm
          · exact HZ.out j h (by omega)
      | false =>
        go_wp2_with (go_at_call 41; refine (K1.out _).mono ?_; rintro e w' ⟨rfl, hb1⟩)
        go_ret
        refine ⟨(k : Int), rfl, ?_, below_next hbel hb1⟩
        rw [decide_eq_true (by omega)]
        symm
        rw [badP, List.any_eq_true]
        exact ⟨c, by rw [HCC.out]; exact List.getElem_mem _, by rw [← HV.out]; rfl⟩
    · go_wp2
      go_ret
      refine ⟨-1, rfl, ?_, hbel⟩
      rw [decide_eq_false (by omega)]
      symm
      rw [badP, List.any_eq_false]
      intro c hc
      obtain ⟨j, hj, rfl⟩ := List.getElem_of_mem hc
      have := HZ.out j hj (by have := HN.out; omega)
      simp [this]
theorem containsP_any (l : List Pr) (ao : Option Addr) (cap : Nat) (w : World) (hl : l.length ≤ 140737488355328) (hc : Prs w ao l) (hs : ∀ c ∈ l, c.Sz) :
    Calls Try.prog 40 #[.slice ao l.length cap, .func (.func 41) #[] #[]] w fun e w' => e = .returned (.bool (badP l)) ∧ Below w.heap.size w w' := by
  have K1 := Lib.hid (indexP_any l ao cap w hl hc hs)
  clear hc hs
  go_enter Try.func40, Try.ntmps40
  go_wp2_with (go_at_call 63; refine K1.out.mono ?_; rintro e w' ⟨r, rfl, hr, hb⟩; have HR := Lib.hid hr; clear hr)
  go_ret
  exact ⟨ret_bool (by rw [← HR.out]), hb⟩
end Go.Proofs.Ytklpamhhbigjfaa
