/- Chapter 26: what Describe computes. -/
import Derived.Test.YtcdlcdibcekahaaSpec26
namespace Go.Proofs.Ytcdlcdibcekahaa
open Go.RowKit

def zDS : DS := ⟨0, 0, 0, 0, 0, 0, 0, 0, 0, 0, 0, 0, 0, 0, false, 0, ⟨#[]⟩, ⟨#[]⟩, 0, 0, false⟩
/-- the description of an alternate index with an interval -/
def mkAlt (b : DS) (id at_ len : Int) (u : Bool) (iv : Int) : DS :=
  ⟨id, 3, 0, len + b.keySize, 0, 0, len + b.keySize, iv, (if b.org = 1 then 4 else b.area), b.freeI, b.freeA, b.id, at_, len, u, b.cls, b.vol, b.own, b.created, b.expires, false⟩
def DescOk (b : DS) (id at_ len : Int) : Prop := b.IsBase ∧ (1 ≤ id ∧ id ≤ 1099511627776) ∧ id ≠ b.id ∧ 0 ≤ at_ ∧ 1 ≤ len ∧ len ≤ b.len ∧ at_ ≤ b.len - len
instance (b : DS) (id at_ len : Int) : Decidable (DescOk b id at_ len) := by unfold DescOk; infer_instance
/-- the first interval, from one on, doubled, that makes it valid -/
def ivFrom (mk : Int → DS) : Nat → Int → Option Int
  | 0, _ => none
  | n + 1, iv => if 512 < iv then none else if (mk iv).kvalid = true then some iv else ivFrom mk n (iv * 2)
def descIv (b : DS) (id at_ len : Int) (u : Bool) : Option Int := ivFrom (mkAlt b id at_ len u) 4 b.intv
def descE (b : DS) (id at_ len : Int) (u : Bool) : Int := if DescOk b id at_ len then (if (descIv b id at_ len u).isSome then 0 else 8) else 1
def descV (b : DS) (id at_ len : Int) (u : Bool) : DS :=
  if DescOk b id at_ len then (match descIv b id at_ len u with | some iv => mkAlt b id at_ len u iv | none => zDS) else zDS
end Go.Proofs.Ytcdlcdibcekahaa
