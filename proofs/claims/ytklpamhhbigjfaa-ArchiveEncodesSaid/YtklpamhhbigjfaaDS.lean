/- The description of a data set as a Lean structure, and its value. -/
import Derived.Test.YtklpamhhbigjfaaKit
namespace Go.Proofs.Ytklpamhhbigjfaa
open Go.RowKit

structure DS where
  id : Int
  org : Int
  fmt : Int
  len : Int
  block : Int
  keyAt : Int
  keyLen : Int
  intv : Int
  area : Int
  freeI : Int
  freeA : Int
  base : Int
  altAt : Int
  altLen : Int
  uniq : Bool
  cls : Int
  vol : ByteArray
  own : ByteArray
  created : Int
  expires : Int
  arch : Bool

abbrev DS.cells (d : DS) : Array Value := #[.int .i64 d.id, .int .i64 d.org, .int .i64 d.fmt, .int .i64 d.len, .int .i64 d.block, .int .i64 d.keyAt, .int .i64 d.keyLen, .int .i64 d.intv, .int .i64 d.area, .int .i64 d.freeI, .int .i64 d.freeA, .int .i64 d.base, .int .i64 d.altAt, .int .i64 d.altLen, .bool d.uniq, .int .i64 d.cls, .string d.vol, .string d.own, .int .i64 d.created, .int .i64 d.expires, .bool d.arch]
abbrev DS.v (d : DS) : Value := .agg d.cells
end Go.Proofs.Ytklpamhhbigjfaa
