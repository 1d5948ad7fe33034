/- Chapter 26: what the functions on descriptions compute, as plain Lean over the structure DS. -/
import Derived.Test.YtcdlcdibcekahaaKey
namespace Go.Proofs.Ytcdlcdibcekahaa
open Go.RowKit

def isIdB (a : Int) : Bool := decide (1 ≤ a ∧ a ≤ 1099511627776)
theorem isIdB_iff (a : Int) : isIdB a = true ↔ (1 ≤ a ∧ a ≤ 1099511627776) := decide_eq_true_iff
def DS.IsBase (d : DS) : Prop := d.KV ∧ (1 ≤ d.id ∧ d.id ≤ 1099511627776) ∧ d.base = 0 ∧ (d.org = 3 ∨ d.org = 1)
instance (d : DS) : Decidable d.IsBase := by unfold DS.IsBase; infer_instance
def DS.isBase (d : DS) : Bool := decide d.IsBase
theorem DS.isBase_iff (d : DS) : d.isBase = true ↔ d.IsBase := decide_eq_true_iff
def DS.keySize (d : DS) : Int := if d.org = 3 then d.keyLen else 8
/-- what every alternate index has, for records of the base of at most a length -/
def DS.Shaped (a : DS) (n : Int) : Prop :=
  a.KV ∧ a.org = 3 ∧ (1 ≤ a.id ∧ a.id ≤ 1099511627776) ∧ (1 ≤ a.base ∧ a.base ≤ 1099511627776) ∧ a.base ≠ a.id ∧ (1 ≤ a.altLen ∧ 0 ≤ a.altAt ∧ a.altLen ≤ n ∧ a.altAt ≤ n - a.altLen) ∧ a.keyAt = 0 ∧ a.len = a.keyLen
instance (d : DS) (n : Int) : Decidable (d.Shaped n) := by unfold DS.Shaped; infer_instance
def DS.shaped (d : DS) (n : Int) : Bool := decide (d.Shaped n)
theorem DS.shaped_iff (d : DS) (n : Int) : d.shaped n = true ↔ d.Shaped n := decide_eq_true_iff
def DS.Known (a : DS) : Prop := a.Shaped 200 ∧ a.altLen < a.keyLen
instance (d : DS) : Decidable d.Known := by unfold DS.Known; infer_instance
def DS.known (d : DS) : Bool := decide d.Known
theorem DS.known_iff (d : DS) : d.known = true ↔ d.Known := decide_eq_true_iff
/-- an alternate index of a base -/
def AltOf (b a : DS) : Prop := b.IsBase ∧ a.base = b.id ∧ a.Shaped b.len ∧ a.keyLen = a.altLen + b.keySize
instance (b a : DS) : Decidable (AltOf b a) := by unfold AltOf; infer_instance
def altOf (b a : DS) : Bool := decide (AltOf b a)
theorem altOf_iff (b a : DS) : altOf b a = true ↔ AltOf b a := decide_eq_true_iff

theorem DS.KV.bounds {d : DS} (h : d.KV) : (1 ≤ d.len ∧ d.len ≤ 200) ∧ (128 ≤ d.intv ∧ d.intv ≤ 512) ∧ (0 ≤ d.keyLen ∧ d.keyLen ≤ 32) ∧ (d.org = 3 → 1 ≤ d.keyLen) := by
  unfold DS.KV DS.IvOk at h
  omega
theorem DS.keySize_bounds {d : DS} (h : d.KV) : 1 ≤ d.keySize ∧ d.keySize ≤ 32 := by
  have := h.bounds
  unfold DS.keySize
  split <;> omega
theorem DS.Known.bounds {d : DS} (h : d.Known) : (1 ≤ d.altLen ∧ d.altLen < d.keyLen) ∧ (0 ≤ d.altAt ∧ d.altAt + d.altLen ≤ 200) ∧ d.keyLen ≤ 32 := by
  unfold DS.Known DS.Shaped at h
  have := h.1.1.bounds
  omega
theorem AltOf.known {b a : DS} (h : AltOf b a) : a.Known := by
  have h1 := h.1.1.bounds
  have h2 := DS.keySize_bounds h.1.1
  obtain ⟨_, _, ⟨hk, ho, hi, hbs, hne, hin, ha, hl⟩, hkl⟩ := h
  exact ⟨⟨hk, ho, hi, hbs, hne, by omega, ha, hl⟩, by omega⟩

/-- is there an alternate key in a record; which -/
def keyB (a : DS) (r : ByteArray) : Bool := a.known && decide (a.altAt + a.altLen ≤ r.size)
def keyS (a : DS) (r : ByteArray) : ByteArray := if keyB a r then r.extract a.altAt.toNat (a.altAt + a.altLen).toNat else ⟨#[]⟩
def DS.baseSize (a : DS) : Int := wrap64 (a.keyLen - a.altLen)
theorem DS.Known.baseSize {a : DS} (h : a.Known) : a.baseSize = a.keyLen - a.altLen ∧ 1 ≤ a.keyLen - a.altLen ∧ a.keyLen - a.altLen ≤ 31 := by
  have := h.bounds
  unfold DS.baseSize wrap64
  omega
/-- the record for an alternate key and a key of the base: the error, the record -/
def recE (d : DS) (k b : ByteArray) : Int := if d.known = false then 1 else if (k.size : Int) ≠ d.altLen ∨ (b.size : Int) ≠ d.keyLen - d.altLen then 2 else 0
def recS (d : DS) (k b : ByteArray) : ByteArray := if recE d k b = 0 then k ++ b else ⟨#[]⟩
/-- the parts of a record -/
def parE (d : DS) (r : ByteArray) : Int := if d.known = false then 1 else if (r.size : Int) ≠ d.keyLen then 2 else 0
def parK (d : DS) (r : ByteArray) : ByteArray := if parE d r = 0 then r.extract 0 d.altLen.toNat else ⟨#[]⟩
def parB (d : DS) (r : ByteArray) : ByteArray := if parE d r = 0 then r.extract d.altLen.toNat r.size else ⟨#[]⟩
end Go.Proofs.Ytcdlcdibcekahaa
