/- A part of the proof. -/
import Derived.Test.YtalfffamppmooaaGreatDoorSM1
import Derived.Test.YtalfffamppmooaaGreatDoorZM1
import Derived.Test.YtalfffamppmooaaGreatDoorSxMc
import Derived.Test.YtalfffamppmooaaGreatDoorRM
import Derived.Test.YtalfffamppmooaaGreatDoorZFnu
namespace Go.Proofs.YtalfffamppmooaaGreatDoor
open Go.RowKit
set_option maxRecDepth 100000
def enRp (r : RRp) : List G := [gI r.code, gI r.se, .sl (r.ps.map gSt)]
def enT (t : RT) : List G := [gI t.kind, gI t.se, gI t.nu, gI t.sp, gI t.no, .sl (t.l.map enC)]
end Go.Proofs.YtalfffamppmooaaGreatDoor
