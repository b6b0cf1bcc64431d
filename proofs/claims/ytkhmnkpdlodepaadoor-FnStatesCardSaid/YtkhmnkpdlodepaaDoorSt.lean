/- A state of five numbers. No program in sight. -/
import Derived.Test.YtkhmnkpdlodepaaDoorView
namespace Go.Proofs.YtkhmnkpdlodepaaDoor
open Go.RowKit

/-- A state of five numbers. -/
structure St where
  t : Int
  m : Int
  r : Int
  s : Int
  v : Int
def St.val (x : St) : Value := .agg #[.int .i64 x.t, .int .i64 x.m, .int .i64 x.r, .int .i64 x.s, .int .i64 x.v]
end Go.Proofs.YtkhmnkpdlodepaaDoor
