/- Which expressions may be, op for op. -/
import Derived.Test.YtngklkmeknmloaaGreatDoorAbTypes
import Derived.Test.YtngklkmeknmloaaGreatDoorAbBox
import Derived.Test.YtngklkmeknmloaaGreatDoorAbScan
import Derived.Test.YtngklkmeknmloaaGreatDoorAbSl
import Derived.Test.YtngklkmeknmloaaGreatDoorAbRead
set_option linter.unusedSimpArgs false
set_option linter.unusedVariables false
set_option maxRecDepth 100000
set_option maxHeartbeats 4000000
namespace Go.Ab
open Go Go.Ab.Tab
def str (s:String):Str:=s.toUTF8.data.toList
end Go.Ab
namespace Go.Ab
open Go Go.Ab.Tab
structure Wnt where
 nm:Option (Str→Bool)
 nn:Option (Int→Bool)
 cn:Str→Bool
 least:Int
 most:Int
 kl:Int
 km:Int
 am:Bool
def Wnt.b1 (w:Wnt) (name:Str):Bool:=match w.nm with|none=>name==[]|some p=>p name
def Wnt.b2 (w:Wnt) (n:Int):Bool:=match w.nn with|none=>n==0|some p=>p n
def Wnt.b3 (w:Wnt) (cons:List Str):Bool:=decide (w.least≤(cons.length:Int)) && decide ((cons.length:Int)≤w.most) && !cons.any fun s=> !w.cn s
def first14:List PExpr→Bool
 |[]=>false
 |k::_=>k.op==14
def Wnt.head (w:Wnt) (op:Int) (name:Str) (n:Int) (cons:List Str) (kids:List PExpr):Bool:=
 w.b1 name && w.b2 n && w.b3 cons && !decide ((kids.length:Int)<w.kl) && !decide (w.km<(kids.length:Int)) && !(w.am && ((cons.length:Int) !=(kids.length:Int))) && !(op==15 && !first14 kids)
end Go.Ab
