/- Chapter 47: the encoding of a log record, plain. -/
import Derived.Test.YtklpamhhbigjfaaDoorRec47
namespace Go.Proofs.YtklpamhhbigjfaaDoor

def encC (c : Chg) : ByteArray := numS c.kind.toNat ++ numS c.id.toNat ++ txtS c.key ++ txtS c.rcd ++ txtS c.vol
def encL (s : ByteArray) (l : List Chg) : ByteArray := l.foldl (fun s c => s ++ encC c) s
def encR (num unit : Int) (l : List Chg) : ByteArray := encL (numS num.toNat ++ numS unit.toNat ++ numS l.length) l
theorem encC_app (s : ByteArray) (c : Chg) : s ++ numS c.kind.toNat ++ numS c.id.toNat ++ txtS c.key ++ txtS c.rcd ++ txtS c.vol = s ++ encC c := by simp only [encC, ByteArray.append_assoc]
theorem encL_nil (s : ByteArray) (l : List Chg) : encL s (l.take 0) = s := by simp [encL]
theorem encL_snoc (s : ByteArray) (l : List Chg) (k : Nat) (hk : k < l.length) : encL s (l.take (k + 1)) = encL s (l.take k) ++ encC l[k] := by
  rw [List.take_succ_eq_append_getElem hk, encL, List.foldl_append]
  rfl
theorem encL_all (s : ByteArray) (l : List Chg) (k : Nat) (hk : l.length ≤ k) : encL s (l.take k) = encL s l := by rw [List.take_of_length_le hk]
/-- what a valid change is bounded by -/
theorem valid_bounds {c : Chg} (h : c.valid = true) : (0 ≤ c.kind ∧ c.kind ≤ 7) ∧ (1 ≤ c.id ∧ c.id ≤ 1099511627776) ∧ c.key.size ≤ 32 ∧ c.rcd.size ≤ 1000 ∧ c.vol.size ≤ 8 := by
  simp only [Chg.valid, Bool.and_eq_true] at h
  obtain ⟨⟨h1, h2⟩, h3⟩ := h
  simp only [kHas, Chg.idOk, decide_eq_true_eq] at h1 h2
  refine ⟨h1, h2, ?_⟩
  have hv : (if (kF c.kind).2.2.2.2.2 then volOk c.vol else c.vol.toList.isEmpty) = true → c.vol.size ≤ 8 := by
    intro hv
    split at hv
    · simp only [volOk, decide_eq_true_eq] at hv
      exact hv.2.1
    · have := (isE_iff c.vol).1 hv
      omega
  simp only [formOk, fitsB, Bool.and_eq_true, decide_eq_true_eq] at h3
  obtain ⟨⟨⟨_, h4⟩, _, h5⟩, h6⟩ := h3
  have hb : (kF c.kind).2.2.1 ≤ 32 ∧ (kF c.kind).2.2.2.2.1 ≤ 1000 := by
    have hkk : c.kind = 0 ∨ c.kind = 1 ∨ c.kind = 2 ∨ c.kind = 3 ∨ c.kind = 4 ∨ c.kind = 5 ∨ c.kind = 6 ∨ c.kind = 7 := by omega
    rcases hkk with e | e | e | e | e | e | e | e <;> rw [e] <;> decide
  exact ⟨by omega, by omega, hv h6⟩
theorem txtS_size {s : ByteArray} (h : s.size ≤ 140737488355328) : (txtS s).size ≤ s.size + 10 := by
  rw [txtS, ByteArray.size_append]
  have := numS_size (n := s.size) (by omega)
  omega
theorem encC_size {c : Chg} (h : c.valid = true) : (encC c).size ≤ 2000 := by
  obtain ⟨h1, h2, h3, h4, h5⟩ := valid_bounds h
  have a1 := numS_size (n := c.kind.toNat) (by omega)
  have a2 := numS_size (n := c.id.toNat) (by omega)
  have a3 := txtS_size (s := c.key) (by omega)
  have a4 := txtS_size (s := c.rcd) (by omega)
  have a5 := txtS_size (s := c.vol) (by omega)
  simp only [encC, ByteArray.size_append]
  omega
theorem encL_size : ∀ (l : List Chg) (s : ByteArray), (∀ c ∈ l, c.valid = true) → (encL s l).size ≤ s.size + 2000 * l.length
  | [], s, _ => by simp [encL]
  | c :: l, s, h => by
    have h1 := encC_size (h c (by simp))
    have h2 := encL_size l (s ++ encC c) (fun x hx => h x (by simp [hx]))
    rw [ByteArray.size_append] at h2
    show (encL (s ++ encC c) l).size ≤ _
    simp only [List.length_cons]
    omega
theorem sound_facts {num unit : Int} {l : List Chg} (h : soundB num unit l = true) : RecOk num unit l.length ∧ ∀ c ∈ l, c.valid = true := by
  simp only [soundB, Bool.and_eq_true, decide_eq_true_eq, Bool.not_eq_true'] at h
  refine ⟨h.1, fun c hc => ?_⟩
  have := List.any_eq_false.1 h.2 c hc
  simpa using this
end Go.Proofs.YtklpamhhbigjfaaDoor
