/- The package change: sound, with slices.ContainsFunc. -/
import Derived.Test.YtklpamhhbigjfaaDoorValid47
namespace Go.Proofs.YtklpamhhbigjfaaDoor
open Go.RowKit
set_option linter.unusedSimpArgs false
set_option linter.unusedVariables false

/-- the elements of a list of changes, as they lie -/
def ChgsAt (w : World) (b off : Nat) (l : List Chg) : Prop := ∀ j (h : j < l.length) (i : Nat), i < 5 → w.cell? ⟨b, off + j * 5 + i, none⟩ = (l[j]).cells[i]?
def Chgs (w : World) (ao : Option Addr) (l : List Chg) : Prop := l = [] ∨ ∃ b off, ao = some ⟨b, off, none⟩ ∧ b < w.heap.size ∧ ChgsAt w b off l
theorem ChgsAt.below {w w1 : World} {b off : Nat} {l : List Chg} (h : ChgsAt w b off l) (hb : b < w.heap.size) (k : Below w.heap.size w w1) : ChgsAt w1 b off l :=
  fun j hj i hi => (k.cell (p := ⟨b, off + j * 5 + i, none⟩) hb).trans (h j hj i hi)
theorem Chgs.below {w w1 : World} {ao : Option Addr} {l : List Chg} (h : Chgs w ao l) (k : Below w.heap.size w w1) : Chgs w1 ao l := by
  rcases h with h | ⟨b, off, h1, h2, h3⟩
  · exact Or.inl h
  · exact Or.inr ⟨b, off, h1, Nat.lt_of_lt_of_le h2 k.size, h3.below h2 k⟩
theorem ChgsAt.get {w : World} {b off : Nat} {l : List Chg} (h : ChgsAt w b off l) {k : Nat} (hk : k < l.length) {c : Chg} (hc : c = l[k]) :
    w.cell? ⟨b, off + k * 5, none⟩ = some (.int .i64 c.kind) ∧ w.cell? ⟨b, off + k * 5 + 1, none⟩ = some (.int .i64 c.id) ∧ w.cell? ⟨b, off + k * 5 + 2, none⟩ = some (.string c.key) ∧ w.cell? ⟨b, off + k * 5 + 3, none⟩ = some (.string c.rcd) ∧ w.cell? ⟨b, off + k * 5 + 4, none⟩ = some (.string c.vol) := by
  subst hc
  exact ⟨h k hk 0 (by omega), h k hk 1 (by omega), h k hk 2 (by omega), h k hk 3 (by omega), h k hk 4 (by omega)⟩
/-- every field fits into memory -/
def Chg.Sz (c : Chg) : Prop := c.key.size ≤ 140737488355328 ∧ c.rcd.size ≤ 140737488355328 ∧ c.vol.size ≤ 140737488355328

theorem sound1_any (c : Chg) (w : World) (hs : c.Sz) :
    Calls Tryd.prog 63 #[c.v] w fun e w' => e = .returned (.bool (!c.valid)) ∧ Below w.heap.size w w' := by
  have hst := St.start w
  have HS := Lib.hid hs
  clear hs
  obtain ⟨V, hV⟩ : ∃ V, V = c.valid := ⟨_, rfl⟩
  have k1 := fun w => valid47_any c w HS.out.2.2
  rw [← hV] at k1 ⊢
  have K1 := Lib.hid k1
  clear k1 hV
  go_enter Tryd.func63, Tryd.ntmps63
  go_wp2_with (first | ((with_reducible refine at_dst (N := 1) rfl ?_); refine wpList_box hst 23 c.cells rfl ?hr ?_; (case hr => first | (go_simp; done) | (go_simp; rfl)); clear hst; intro g1 w1 hst; obtain ⟨hc1, hf1, hl1⟩ := hst.c0) | ((with_reducible refine at_dst (N := 3) rfl ?_); (refine wpList_load_own hst ⟨g1, c.cells, 23⟩ (by simp) rfl _ rfl rfl _ rfl Tryd.underlying23 (by kernel_rfl) ?_)) | (go_at_call 11; refine (K1.out _).mono ?_; rintro e w' ⟨rfl, hb⟩; replace hst := hst.below hb; clear hb; clear hc1 hf1; obtain ⟨hc1, hf1, hl1⟩ := hst.c0))
  go_ret
  exact ⟨ret_bool rfl, hst.base⟩

def anyBad (l : List Chg) : Bool := l.any fun c => !c.valid
def IdxP (l : List Chg) (w : World) (e : Ending) (w' : World) : Prop := ∃ r : Int, e = .returned (.int .i64 r) ∧ decide (0 ≤ r) = anyBad l ∧ Below w.heap.size w w'

set_option maxHeartbeats 1000000 in
theorem indexFunc_any (l : List Chg) (ao : Option Addr) (cap : Nat) (w : World) (hl : l.length ≤ 140737488355328) (hc : Chgs w ao l) (hs : ∀ c ∈ l, c.Sz) :
    Calls Tryd.prog 74 #[.slice ao l.length cap, .func (.func 63) #[] #[]] w (IdxP l w) := by
  obtain ⟨n, hn⟩ : ∃ n, n = l.length := ⟨_, rfl⟩
  rw [← hn] at hl ⊢
  have HN := Lib.hid hn
  have HS := Lib.hid hs
  have HC := Lib.hid hc
  clear hn hs hc
  go_enter Tryd.func74, Tryd.ntmps74
  go_wp2
  go_loopw [8] (fun t wr => ∃ k : Nat, k ≤ n ∧ t = .int .i64 k ∧ Hid (∀ j (h : j < l.length), j < k → (l[j]).valid = true) ∧ Below w.heap.size w wr) (fun t _ => n - (intOf t).toNat)
  case atStart => exact ⟨0, Nat.zero_le _, rfl, fun j _ hj => absurd hj (by omega), Below.refl _ _⟩
  case round =>
    obtain ⟨k, hk, rfl, HZ, hbel⟩ := hrel
    by_cases hlt : k < n
    · have hkl : k < l.length := by rw [← HN.out]; exact hlt
      obtain ⟨c, hcc⟩ : ∃ c, c = l[k] := ⟨_, rfl⟩
      obtain ⟨b, off, rfl, hb, hat⟩ : ∃ b off, ao = some ⟨b, off, none⟩ ∧ b < w.heap.size ∧ ChgsAt w b off l := by
        rcases HC.out with h | h
        · rw [h] at hkl; simp at hkl
        · exact h
      obtain ⟨c0, c1, c2, c3, c4⟩ := (hat.below hb hbel).get hkl hcc
      have hsz : c.Sz := by rw [hcc]; exact HS.out _ (List.getElem_mem _)
      obtain ⟨V, hV⟩ : ∃ V, V = c.valid := ⟨_, rfl⟩
      have k1 := fun w => sound1_any c w hsz
      rw [← hV] at k1
      have K1 := Lib.hid k1
      have HCC := Lib.hid hcc
      have HV := Lib.hid hV
      clear k1 hV hcc hat hsz
      cases V with
      | true =>
        go_wp2_with (go_at_call 63; refine (K1.out _).mono ?_; rintro e w' ⟨rfl, hb1⟩)
        go_roundw
        case measure => simp [intOf]; omega
        case rel =>
          refine ⟨k + 1, by omega, by go_num, fun j h hj => ?_, below_next hbel hb1⟩
          by_cases e : j = k
          · subst e; rw [← HCC.out]; exact HV.out.symm
          · exact HZ.out j h (by omega)
      | false =>
        go_wp2_with (go_at_call 63; refine (K1.out _).mono ?_; rintro e w' ⟨rfl, hb1⟩)
        go_ret
        refine ⟨(k : Int), rfl, ?_, below_next hbel hb1⟩
        rw [decide_eq_true (by omega)]
        symm
        rw [anyBad, List.any_eq_true]
        exact ⟨c, by rw [HCC.out]; exact List.getElem_mem _, by rw [← HV.out]; rfl⟩
    · go_wp2
      go_ret
      refine ⟨-1, rfl, ?_, hbel⟩
      rw [decide_eq_false (by omega)]
      symm
      rw [anyBad, List.any_eq_false]
      intro c hc
      obtain ⟨j, hj, rfl⟩ := List.getElem_of_mem hc
      have := HZ.out j hj (by have := HN.out; omega)
      simp [this]

theorem containsFunc_any (l : List Chg) (ao : Option Addr) (cap : Nat) (w : World) (hl : l.length ≤ 140737488355328) (hc : Chgs w ao l) (hs : ∀ c ∈ l, c.Sz) :
    Calls Tryd.prog 62 #[.slice ao l.length cap, .func (.func 63) #[] #[]] w fun e w' => e = .returned (.bool (anyBad l)) ∧ Below w.heap.size w w' := by
  have K1 := Lib.hid (indexFunc_any l ao cap w hl hc hs)
  clear hc hs
  go_enter Tryd.func62, Tryd.ntmps62
  go_wp2_with (go_at_call 74; refine K1.out.mono ?_; rintro e w' ⟨r, rfl, hr, hb⟩; have HR := Lib.hid hr; clear hr)
  go_ret
  exact ⟨ret_bool (by rw [← HR.out]), hb⟩
end Go.Proofs.YtklpamhhbigjfaaDoor
