/- Chapter 14: what Encode returns; items by its definitions. -/
import Derived.Test.YtklpamhhbigjfaaItems14
import Derived.Test.YtklpamhhbigjfaaFrame14
import Derived.Test.YtklpamhhbigjfaaKit11
namespace Go.Proofs.Ytklpamhhbigjfaa
open Go.RowKit
set_option linter.unusedSimpArgs false
set_option linter.unusedVariables false

theorem numL_size : ∀ (l : List Int) (s : ByteArray), (∀ v ∈ l, nOk v = true) → (numL s l).size ≤ s.size + 10 * l.length
  | [], s, _ => by simp [numL]
  | v :: l, s, h => by
    have h1 := h v (by simp)
    simp only [nOk, decide_eq_true_eq] at h1
    have h2 := numS_size (n := v.toNat) (by omega)
    have h3 := numL_size l (s ++ numS v.toNat) (fun x hx => h x (by simp [hx]))
    rw [ByteArray.size_append] at h3
    show (numL (s ++ numS v.toNat) l).size ≤ _
    simp only [List.length_cons]
    omega
theorem txtS_size {s : ByteArray} (h : s.size < 18446744073709551616) : (txtS s).size ≤ s.size + 10 := by
  have n1 := numS_size h
  rw [txtS, ByteArray.size_append]; omega
theorem boolS_size (b : Bool) : (boolS b).size = 1 := by cases b <;> rfl

/-- what a valid archive is -/
theorem arcOk_facts {d : DS} {num : Int} {l : List Pr} (h : arcOk d num l = true) : (∀ v ∈ nums d num, nOk v = true) ∧ d.own.size ≤ 31 ∧ d.vol.size ≤ 31 ∧ l.length ≤ 1024 ∧ ∀ c ∈ l, c.ok = true := by
  simp only [arcOk, Bool.and_eq_true, Bool.not_eq_true', decide_eq_true_eq] at h
  obtain ⟨⟨h1, h2, h3, h4⟩, h5⟩ := h
  refine ⟨fun v hv => ?_, h2, h3, h4, fun c hc => ?_⟩
  · have := List.any_eq_false.1 h1 v hv
    simpa using this
  · have := List.any_eq_false.1 h5 c hc
    simpa using this

theorem firstS_size {d : DS} {num : Int} {n : Nat} (h : ∀ v ∈ nums d num, nOk v = true) (ho : d.own.size ≤ 31) (hv : d.vol.size ≤ 31) (hn : n ≤ 1024) : (firstS d num n).size ≤ 1000 := by
  have m : ∀ v, v ∈ nums d num → nOk v = true := h
  unfold firstS
  refine Nat.le_trans (numL_size _ _ fun v hv' => ?_) ?_
  · simp only [List.mem_cons, List.not_mem_nil, or_false] at hv'
    rcases hv' with rfl | rfl
    · exact h _ (by simp [nums])
    · simp only [nOk, decide_eq_true_eq]; omega
  · have a1 := numL_size [d.id, d.org, d.fmt, d.len, d.block, d.keyAt, d.keyLen, d.intv, d.area, d.freeI, d.freeA, d.base, d.altAt, d.altLen] ⟨#[]⟩ (fun v hv' => h v (List.mem_append_left [d.cls, d.created, d.expires, num] hv'))
    have a2 := numL_size [d.cls] (numL ⟨#[]⟩ [d.id, d.org, d.fmt, d.len, d.block, d.keyAt, d.keyLen, d.intv, d.area, d.freeI, d.freeA, d.base, d.altAt, d.altLen] ++ boolS d.uniq) (fun v hv' => h v (by simp only [List.mem_cons, List.not_mem_nil, or_false] at hv'; subst hv'; simp [nums]))
    have a3 := numL_size [d.created, d.expires] (numL (numL ⟨#[]⟩ [d.id, d.org, d.fmt, d.len, d.block, d.keyAt, d.keyLen, d.intv, d.area, d.freeI, d.freeA, d.base, d.altAt, d.altLen] ++ boolS d.uniq) [d.cls] ++ txtS d.vol ++ txtS d.own) (fun v hv' => h v (by simp only [List.mem_cons, List.not_mem_nil, or_false] at hv'; rcases hv' with rfl | rfl <;> simp [nums]))
    have t1 := txtS_size (s := d.vol) (by omega)
    have t2 := txtS_size (s := d.own) (by omega)
    have e0 : (⟨#[]⟩ : ByteArray).size = 0 := rfl
    simp only [ByteArray.size_append, boolS_size, List.length_cons, List.length_nil] at a1 a2 a3 ⊢
    omega

theorem items_any (d : DS) (num : Int) (l : List Pr) (ao : Option Addr) (cap : Nat) (w : World) (hok : arcOk d num l = true) (hc : Prs w ao l) :
    Calls Try.prog 34 #[.agg (arcC d num ao l.length cap)] w (ItemsP (itemsL d num l) w) := by
  obtain ⟨h1, h2, h3, h4, h5⟩ := arcOk_facts hok
  have hf := firstS_size h1 h2 h3 h4
  have m1 : ∀ v ∈ [d.id, d.org, d.fmt, d.len, d.block, d.keyAt, d.keyLen, d.intv, d.area, d.freeI, d.freeA, d.base, d.altAt, d.altLen], nOk v = true := fun v hv' => h1 v (List.mem_append_left [d.cls, d.created, d.expires, num] hv')
  have m2 : ∀ v ∈ [d.cls], nOk v = true := fun v hv' => h1 v (by simp only [List.mem_cons, List.not_mem_nil, or_false] at hv'; subst hv'; simp [nums])
  have m3 : ∀ v ∈ [d.created, d.expires], nOk v = true := fun v hv' => h1 v (by simp only [List.mem_cons, List.not_mem_nil, or_false] at hv'; rcases hv' with rfl | rfl <;> simp [nums])
  have t1 := txtS_size (s := d.vol) (by omega)
  have t2 := txtS_size (s := d.own) (by omega)
  have e0 : (⟨#[]⟩ : ByteArray).size = 0 := rfl
  have a1 := numL_size _ ⟨#[]⟩ m1
  obtain ⟨S1, hS1⟩ : ∃ S, S = numL ⟨#[]⟩ [d.id, d.org, d.fmt, d.len, d.block, d.keyAt, d.keyLen, d.intv, d.area, d.freeI, d.freeA, d.base, d.altAt, d.altLen] := ⟨_, rfl⟩
  rw [← hS1] at a1
  have a2 := numL_size _ (S1 ++ boolS d.uniq) m2
  have a3 := numL_size _ (numL (S1 ++ boolS d.uniq) [d.cls] ++ txtS d.vol ++ txtS d.own) m3
  simp only [ByteArray.size_append, boolS_size, List.length_cons, List.length_nil] at a1 a2 a3
  refine items_pre l (itemsL d num l) d num ao l.length cap w h4 h2 h3 S1 (S1 ++ boolS d.uniq) (numL (S1 ++ boolS d.uniq) [d.cls]) (numL (S1 ++ boolS d.uniq) [d.cls] ++ txtS d.vol ++ txtS d.own)
    (numL (numL (S1 ++ boolS d.uniq) [d.cls] ++ txtS d.vol ++ txtS d.own) [d.created, d.expires]) (numL (numL (S1 ++ boolS d.uniq) [d.cls] ++ txtS d.vol ++ txtS d.own) [d.created, d.expires] ++ boolS d.arch)
    (firstS d num l.length) (numL (S1 ++ boolS d.uniq) [d.cls] ++ txtS d.vol) ?_ h1 (fun g => ?_) (fun g => ?_) (fun g => ?_) (fun g g' => ?_) (fun w => ?_) (fun w => ?_) (fun w => ?_) (fun w => ?_) rfl hc h5 rfl
  · show _ ∧ _ ∧ _
    simp only [ByteArray.size_append, boolS_size]
    omega
  · rw [putS_nums, hS1]; rfl
  · rw [putS_nums]; rfl
  · rw [putS_nums]; rfl
  · rw [putS_nums, firstS, ← hS1]; rfl
  · exact appendBool_any _ _ _ (by omega)
  · exact appendBool_any _ _ _ (by omega)
  · exact appendText_any _ _ _ (by omega) (by omega)
  · exact appendText_any _ _ _ (by omega) (by simp only [ByteArray.size_append]; omega)

/-- the frames of an item: how many; the data of one; one; the first m; of items one behind the other -/
def chN (s : ByteArray) : Nat := (s.size + 55) / 56
def chS (s : ByteArray) (j : Nat) : ByteArray := s.extract (56 * j) (min s.size (56 * j + 56))
def frC (n : Nat) (s : ByteArray) (j : Nat) : ByteArray := frS ((n + j : Nat) : Int) (decide (j = 0)) (decide (s.size ≤ 56 * j + 56)) (chS s j)
def frI (n : Nat) (s : ByteArray) (m : Nat) : List ByteArray := (List.range m).map (frC n s)
def frA : Nat → List ByteArray → List ByteArray
  | _, [] => []
  | n, s :: r => frI n s (chN s) ++ frA (n + chN s) r
def frT (L : List ByteArray) : Nat := (L.map chN).sum
def catB (l : List ByteArray) : List UInt8 := (l.map fun s => s.data.toList).flatten
theorem frI_succ (n : Nat) (s : ByteArray) (m : Nat) : frI n s (m + 1) = frI n s m ++ [frC n s m] := by simp [frI, List.range_succ]
theorem frA_snoc : ∀ (L : List ByteArray) (n : Nat) (s : ByteArray), frA n (L ++ [s]) = frA n L ++ frI (n + frT L) s (chN s)
  | [], n, s => by simp [frA, frT]
  | x :: L, n, s => by
    show frI n x (chN x) ++ frA (n + chN x) (L ++ [s]) = _
    rw [frA_snoc L]
    simp [frA, frT, Nat.add_assoc]
theorem frT_snoc (L : List ByteArray) (s : ByteArray) : frT (L ++ [s]) = frT L + chN s := by simp [frT]
theorem catB_append (a b : List ByteArray) : catB (a ++ b) = catB a ++ catB b := by simp [catB]
theorem catB_one (s : ByteArray) : catB [s] = s.data.toList := by simp [catB]
theorem frS_le (n : Int) (a b : Bool) (d : ByteArray) : (frS n a b d).size ≤ 64 := by
  unfold frS
  split
  · next h =>
    rw [sealS, ByteArray.size_append, bs_size, frL_len h.2.2.2, bs_size]
    exact Nat.le_refl _
  · exact Nat.zero_le _
/-- what Encode returns -/
def encB (d : DS) (num : Int) (l : List Pr) : ByteArray := if arcOk d num l then bs (catB (frA 0 (itemsL d num l))) else ⟨#[]⟩
def encErr (d : DS) (num : Int) (l : List Pr) : Int := if arcOk d num l then 0 else 1
theorem pairS_size {c : Pr} (h : c.ok = true) : (pairS c).size ≤ 1052 := by
  simp only [Pr.ok, decide_eq_true_eq] at h
  have t1 := txtS_size (s := c.key) (by omega)
  have t2 := txtS_size (s := c.rcd) (by omega)
  rw [pairS, ByteArray.size_append]; omega
theorem items_sizes {d : DS} {num : Int} {l : List Pr} (h : arcOk d num l = true) : ∀ s ∈ itemsL d num l, s.size ≤ 1052 := by
  obtain ⟨h1, h2, h3, h4, h5⟩ := arcOk_facts h
  intro s hs
  rcases List.mem_cons.1 hs with rfl | hs
  · exact Nat.le_trans (firstS_size h1 h2 h3 h4) (by omega)
  · obtain ⟨c, hc, rfl⟩ := List.mem_map.1 hs
    exact pairS_size (h5 c hc)
theorem frT_take_le : ∀ (L : List ByteArray) (k : Nat), (∀ s ∈ L, s.size ≤ 1052) → frT (L.take k) ≤ 19 * k
  | [], k, _ => by simp [frT]
  | x :: L, 0, _ => by simp [frT]
  | x :: L, k + 1, h => by
    have h1 := h x (by simp)
    have h2 := frT_take_le L k (fun s hs => h s (by simp [hs]))
    simp only [frT, List.take_succ_cons, List.map_cons, List.sum_cons] at h2 ⊢
    unfold chN at h2 ⊢
    omega
end Go.Proofs.Ytklpamhhbigjfaa
