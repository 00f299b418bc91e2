
import Derived.Test.YtihfaocdpmmooaaGreatZRange
namespace Go.Proofs.YtihfaocdpmmooaaGreat
open Go.RowKit Go.MapKept
def Zgt (k:Int):Value:=.int .i64 k
def Ze9 (s:ByteArray):Value:=.string s
end Go.Proofs.YtihfaocdpmmooaaGreat
