/- The checksum of a text. -/
import Derived.Test.YtoifdnnjdohfmaaDoorPl
namespace Go.Proofs.YtoifdnnjdohfmaaDoor.Cw
open Go Go.RowKit Go.Proofs.YtoifdnnjdohfmaaDoorW.PrintWords Go.Proofs.YtoifdnnjdohfmaaDoorW.PrintLast Go.Proofs.YtoifdnnjdohfmaaDoorW.PrintMore Go.Proofs.YtoifdnnjdohfmaaDoor.Pl
/-- One step of the checksum, as the machine reckons it. -/
def mixStep (x b : Int) : Int := Int.tmod (wrap64 ((wrap64 ((wrap64 (x * 65599)) + (wrap64 b))) + 1)) 2147483629
def mixEnd (x : Int) : Int := Int.tmod (wrap64 ((wrap64 (x * 40503)) + 77)) 2147483629
def mixFrom (s : ByteArray) (x : Int) : Nat → Int
  | 0 => x
  | n + 1 => mixStep (mixFrom s x n) (bt s n)
def mixOf (s : ByteArray) (seed : Int) : Int := mixEnd (mixFrom s (seed % 2147483629 + 1) s.size)
end Go.Proofs.YtoifdnnjdohfmaaDoor.Cw
