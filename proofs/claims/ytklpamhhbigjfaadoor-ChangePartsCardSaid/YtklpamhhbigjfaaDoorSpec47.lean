/- Chapter 47: changes as a Lean structure; what is a valid one. -/
import Derived.Test.YtklpamhhbigjfaaDoorKit6
import Derived.Test.YtklpamhhbigjfaaDoorVarint
namespace Go.Proofs.YtklpamhhbigjfaaDoor
open Go.RowKit

structure Chg where
  kind : Int
  id : Int
  key : ByteArray
  rcd : ByteArray
  vol : ByteArray
abbrev Chg.cells (c : Chg) : Array Value := #[.int .i64 c.kind, .int .i64 c.id, .string c.key, .string c.rcd, .string c.vol]
abbrev Chg.v (c : Chg) : Value := .agg c.cells

def upB (c : UInt8) : Bool := decide (65 ≤ c.toNat ∧ c.toNat ≤ 90)
def digB (c : UInt8) : Bool := decide (48 ≤ c.toNat ∧ c.toNat ≤ 57)
def VolAt (s : ByteArray) : Prop := ∀ i (h : i < s.size), upB s[i] = true ∨ (digB s[i] = true ∧ i ≠ 0)
instance (s : ByteArray) : Decidable (VolAt s) := by unfold VolAt; infer_instance
/-- is a text the name of a volume -/
def volOk (s : ByteArray) : Bool := decide (1 ≤ s.size ∧ s.size ≤ 8 ∧ VolAt s)

/-- for a kind of changes: the word, the least and the greatest length of the key and of the record, whether a volume is named -/
def kF (k : Int) : List UInt8 × Int × Int × Int × Int × Bool :=
  if k = 0 then ([112, 117, 116], 1, 32, 1, 200, false) else if k = 1 then ([101, 114, 97, 115, 101], 1, 32, 0, 0, false) else if k = 2 then ([97, 112, 112, 101, 110, 100], 0, 0, 0, 1000, false)
  else if k = 3 then ([101, 109, 112, 116, 121], 0, 0, 0, 0, false) else if k = 4 then ([99, 114, 101, 97, 116, 101], 0, 0, 0, 400, true) else if k = 5 then ([114, 101, 109, 111, 118, 101], 0, 0, 0, 0, true)
  else if k = 6 then ([109, 111, 118, 101], 0, 0, 0, 400, true) else if k = 7 then ([110, 111, 116, 101], 0, 0, 0, 400, true) else ([], 0, 0, 0, 0, false)
def kHas (k : Int) : Bool := decide (0 ≤ k ∧ k ≤ 7)
def fitsB (lo hi : Int) (s : ByteArray) : Bool := decide (lo ≤ (s.size : Int) ∧ (s.size : Int) ≤ hi)
def Chg.idOk (c : Chg) : Bool := decide (1 ≤ c.id ∧ c.id ≤ 1099511627776)
def formOk (a b c d : Int) (v : Bool) (x : Chg) : Bool := fitsB a b x.key && fitsB c d x.rcd && (if v then volOk x.vol else x.vol.toList.isEmpty)
/-- is a change valid -/
def Chg.valid (c : Chg) : Bool := kHas c.kind && c.idOk && formOk (kF c.kind).2.1 (kF c.kind).2.2.1 (kF c.kind).2.2.2.1 (kF c.kind).2.2.2.2.1 (kF c.kind).2.2.2.2.2 c

/-- the forms of the kinds as the program's map holds them; 'size' lies in a block of its own -/
def closV (f : FuncId) (g : Nat) : Value := .func (.func f) #[] #[.pointer (some ⟨g, 0, none⟩)]
def funV (f : FuncId) : Value := .func (.func f) #[] #[]
def strV (l : List UInt8) : Value := .string ⟨l.toArray⟩
abbrev formC (w : List UInt8) (a b c d : Int) (v : Bool) (sh : Value) : Array Value := #[.string ⟨w.toArray⟩, .int .i64 a, .int .i64 b, .int .i64 c, .int .i64 d, .bool v, sh]
def formV (w : List UInt8) (a b c d : Int) (v : Bool) (sh : Value) : Value := .agg #[.string ⟨w.toArray⟩, .int .i64 a, .int .i64 b, .int .i64 c, .int .i64 d, .bool v, sh]
def ent (k : Nat) (v : Value) : MapEntry := { key := .int .i64 k, val := v, born := k }
abbrev formEs (g : Nat) : List MapEntry :=
  [ent 0 (formV [112, 117, 116] 1 32 1 200 false (closV 55 g)), ent 1 (formV [101, 114, 97, 115, 101] 1 32 0 0 false (funV 57)), ent 2 (formV [97, 112, 112, 101, 110, 100] 0 0 0 1000 false (funV 53)),
   ent 3 (formV [101, 109, 112, 116, 121] 0 0 0 0 false .nilFunc), ent 4 (formV [99, 114, 101, 97, 116, 101] 0 0 0 400 true (funV 54)), ent 5 (formV [114, 101, 109, 111, 118, 101] 0 0 0 0 true (funV 54)),
   ent 6 (formV [109, 111, 118, 101] 0 0 0 400 true (funV 54)), ent 7 (formV [110, 111, 116, 101] 0 0 0 400 true (funV 54))]
/-- the function that shows a change of a kind -/
def kSh (g : Nat) (k : Int) : Value := if k = 0 then closV 55 g else if k = 1 then funV 57 else if k = 2 then funV 53 else if 4 ≤ k ∧ k ≤ 7 then funV 54 else .nilFunc
end Go.Proofs.YtklpamhhbigjfaaDoor
