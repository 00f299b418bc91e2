
import Derived.Test.YtihfaocdpmmooaaGreatZRange
namespace Go.Proofs.YtihfaocdpmmooaaGreat
open Go.RowKit Go.MapKept
def Zg9 (k:Int):Value:=.int .i64 k
def Zcy (s:ByteArray):Value:=.string s
end Go.Proofs.YtihfaocdpmmooaaGreat
