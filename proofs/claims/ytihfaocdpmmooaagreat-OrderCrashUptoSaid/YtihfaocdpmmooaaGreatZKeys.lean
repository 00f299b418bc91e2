
import Derived.Test.YtihfaocdpmmooaaGreatZRange
namespace Go.Proofs.YtihfaocdpmmooaaGreat
open Go.RowKit Go.MapKept
def Zli (k:Int):Value:=.int .i64 k
def Ziu (s:ByteArray):Value:=.string s
end Go.Proofs.YtihfaocdpmmooaaGreat
