
import Derived.Test.YtihfaocdpmmooaaGreatZRange
namespace Go.Proofs.YtihfaocdpmmooaaGreat
open Go.RowKit Go.MapKept
def Ziv (k:Int):Value:=.int .i64 k
def Zfi (s:ByteArray):Value:=.string s
end Go.Proofs.YtihfaocdpmmooaaGreat
