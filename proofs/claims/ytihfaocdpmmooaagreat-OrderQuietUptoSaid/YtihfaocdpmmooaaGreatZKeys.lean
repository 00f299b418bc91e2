
import Derived.Test.YtihfaocdpmmooaaGreatZRange
namespace Go.Proofs.YtihfaocdpmmooaaGreat
open Go.RowKit Go.MapKept
def Zgo (k:Int):Value:=.int .i64 k
def Zdu (s:ByteArray):Value:=.string s
end Go.Proofs.YtihfaocdpmmooaaGreat
