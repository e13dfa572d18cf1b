import Derived.Test.YtlmpchoaebhhmaaGreatDoorH4J
import Derived.Test.YtlmpchoaebhhmaaGreatDoorProg
import Derived.Test.YtlmpchoaebhhmaaGreatDoorRows
import Derived.Test.YtlmpchoaebhhmaaGreatDoorShelfJ
import Derived.Test.YtlmpchoaebhhmaaGreatDoorB1J
import Derived.WalkKit
import Derived.WalkSpells
import Derived.WalkLawsBesides
import Derived.Handy
import Derived.Lib.Hide
set_option linter.all false
set_option synthInstance.maxHeartbeats 1000000
set_option synthInstance.maxSize 1000000
set_option maxHeartbeats 1600000
set_option maxRecDepth 100000
namespace Go.Proofs.YtlmpchoaebhhmaaGreatDoor
open Go.Proofs.Tryz
open List (length_append length_cons length_nil mem_append mem_cons not_mem_nil append_assoc getElem_mem take_of_length_le)
section
open Go.RowKit
instance bCw:TY prog 2 false 1:=⟨isAgg2,sizeOf2⟩
instance bCx:eM prog 2 [.val (.int .i64 0)]:=⟨_,zeroValue2,rfl⟩
instance bCu:TY prog 3 false 1:=⟨isAgg3,sizeOf3⟩
instance bC3:eM prog 3 [.val (.int .i64 0)]:=⟨_,zeroValue3,rfl⟩
instance bCr:TY prog 4 false 1:=⟨isAgg4,sizeOf4⟩
instance bDa:eM prog 4 [.val (.bool false)]:=⟨_,zeroValue4,rfl⟩
instance bC0:TY prog 5 false 1:=⟨isAgg5,sizeOf5⟩
instance bCt:eM prog 5 [.val (.int .u8 0)]:=⟨_,zeroValue5,rfl⟩
instance bDc:TY prog 9 false 1:=⟨isAgg9,sizeOf9⟩
instance aXn:aRy prog 9:=⟨runUnderlying9⟩
instance bC6:eM prog 9 [.val (.string ⟨#[]⟩)]:=⟨_,zeroValue9,rfl⟩
instance bCz:TY prog 12 false 1:=⟨isAgg12,sizeOf12⟩
instance bDb:eM prog 12 [.val (.int .u64 0)]:=⟨_,zeroValue12,rfl⟩
instance bC8:TY prog 19 true 1:=⟨isAgg19,sizeOf19⟩
instance aX2:eG prog 19 0 0 17:=⟨_,runUnderlying19,rfl⟩
instance bCv:eM prog 19 [.val (.pointer none)]:=⟨_,zeroValue19,rfl⟩
instance bCy:Plc prog 19 [(0,1)] [.val (.pointer none)]:=⟨_,Tryz.t19,_,underlying19,by kernel_rfl,rfl,by kernel_rfl,rfl⟩
instance bC4:TY prog 21 false 1:=⟨isAgg21,sizeOf21⟩
instance bC7:eM prog 21 [.val (.int .i32 0)]:=⟨_,zeroValue21,rfl⟩
instance bC5:TY prog 22 false 1:=⟨isAgg22,sizeOf22⟩
instance bBu:TSl prog 22 3:=⟨runUnderlying22⟩
instance bDe:eM prog 22 [.val (.slice none 0 0)]:=⟨_,zeroValue22,rfl⟩
instance bC2:TY prog 23 false 1:=⟨isAgg23,sizeOf23⟩
instance bAd:TSl prog 23 5:=⟨runUnderlying23⟩
instance bDd:eM prog 23 [.val (.slice none 0 0)]:=⟨_,zeroValue23,rfl⟩
instance aZ8:TY prog 26 false 1:=⟨isAgg26,sizeOf26⟩
instance aX8:TSl prog 26 9:=⟨runUnderlying26⟩
instance bB9:eM prog 26 [.val (.slice none 0 0)]:=⟨_,zeroValue26,rfl⟩
instance bB6:TY prog 27 false 1:=⟨isAgg27,sizeOf27⟩
instance bAb:eM prog 27 [.val (.int .u64 0)]:=⟨_,zeroValue27,rfl⟩
instance aZz:TY prog 31 false 1:=⟨isAgg31,sizeOf31⟩
instance aYp:TSl prog 31 69:=⟨runUnderlying31⟩
instance bAs:eM prog 31 [.val (.slice none 0 0)]:=⟨_,zeroValue31,rfl⟩
instance bA3:TY prog 32 false 1:=⟨isAgg32,sizeOf32⟩
instance aXt:TSl prog 32 71:=⟨runUnderlying32⟩
instance bCn:eM prog 32 [.val (.slice none 0 0)]:=⟨_,zeroValue32,rfl⟩
instance aZh:TY prog 33 false 1:=⟨isAgg33,sizeOf33⟩
instance aYl:TSl prog 33 44:=⟨runUnderlying33⟩
instance bAn:eM prog 33 [.val (.slice none 0 0)]:=⟨_,zeroValue33,rfl⟩
instance bAx:TY prog 35 true 3:=⟨isAgg35,sizeOf35⟩
instance aWd:eG prog 35 0 0 31:=⟨_,runUnderlying35,rfl⟩
instance aVf:eG prog 35 1 1 32:=⟨_,runUnderlying35,rfl⟩
instance aVo:eG prog 35 2 2 33:=⟨_,runUnderlying35,rfl⟩
instance bAk:eM prog 35 [.val (.slice none 0 0),.val (.slice none 0 0),.val (.slice none 0 0)]:=⟨_,zeroValue35,rfl⟩
instance bBx:Plc prog 35 [(0,1),(1,1),(2,1)] [.val (.slice none 0 0),.val (.slice none 0 0),.val (.slice none 0 0)]:=⟨_,Tryz.t35,_,underlying35,by kernel_rfl,rfl,by kernel_rfl,rfl⟩
instance aZc:TY prog 41 false 1:=⟨isAgg41,sizeOf41⟩
instance bJs:TSl prog 41 73:=⟨runUnderlying41⟩
instance aZd:eM prog 41 [.val (.slice none 0 0)]:=⟨_,zeroValue41,rfl⟩
instance bBs:TY prog 42 false 1:=⟨isAgg42,sizeOf42⟩
instance aYv:TSl prog 42 94:=⟨runUnderlying42⟩
instance aZ1:eM prog 42 [.val (.slice none 0 0)]:=⟨_,zeroValue42,rfl⟩
instance bBk:TY prog 44 true 3:=⟨isAgg44,sizeOf44⟩
instance bHq:eG prog 44 0 0 9:=⟨_,runUnderlying44,rfl⟩
instance bI0:eG prog 44 1 1 41:=⟨_,runUnderlying44,rfl⟩
instance bJg:eG prog 44 2 2 42:=⟨_,runUnderlying44,rfl⟩
instance bA8:eM prog 44 [.val (.string ⟨#[]⟩),.val (.slice none 0 0),.val (.slice none 0 0)]:=⟨_,zeroValue44,rfl⟩
instance bJ3:Plc prog 44 [(0,1),(1,1),(2,1)] [.val (.string ⟨#[]⟩),.val (.slice none 0 0),.val (.slice none 0 0)]:=⟨_,Tryz.t44,_,underlying44,by kernel_rfl,rfl,by kernel_rfl,rfl⟩
instance aZe:TY prog 47 false 1:=⟨isAgg47,sizeOf47⟩
instance bCd:eM prog 47 [.val (.int .i64 0)]:=⟨_,zeroValue47,rfl⟩
instance bAe:TY prog 51 false 1:=⟨isAgg51,sizeOf51⟩
instance bJu:TSl prog 51 99:=⟨runUnderlying51⟩
instance aZb:eM prog 51 [.val (.slice none 0 0)]:=⟨_,zeroValue51,rfl⟩
instance bBh:TY prog 69 true 2:=⟨isAgg69,sizeOf69⟩
instance bIu:eG prog 69 0 0 9:=⟨_,runUnderlying69,rfl⟩
instance bJi:eG prog 69 1 1 3:=⟨_,runUnderlying69,rfl⟩
instance bJy:eM prog 69 [.val (.string ⟨#[]⟩),.val (.int .i64 0)]:=⟨_,zeroValue69,rfl⟩
instance bKz:Plc prog 69 [(0,1),(1,1)] [.val (.string ⟨#[]⟩),.val (.int .i64 0)]:=⟨_,Tryz.t69,_,underlying69,by kernel_rfl,rfl,by kernel_rfl,rfl⟩
instance bBo:TY prog 71 true 3:=⟨isAgg71,sizeOf71⟩
instance bH6:eG prog 71 0 0 9:=⟨_,runUnderlying71,rfl⟩
instance bIr:eG prog 71 1 1 4:=⟨_,runUnderlying71,rfl⟩
instance bH4:eG prog 71 2 2 3:=⟨_,runUnderlying71,rfl⟩
instance bJ2:eM prog 71 [.val (.string ⟨#[]⟩),.val (.bool false),.val (.int .i64 0)]:=⟨_,zeroValue71,rfl⟩
instance bKt:Plc prog 71 [(0,1),(1,1),(2,1)] [.val (.string ⟨#[]⟩),.val (.bool false),.val (.int .i64 0)]:=⟨_,Tryz.t71,_,underlying71,by kernel_rfl,rfl,by kernel_rfl,rfl⟩
instance bAt:TY prog 73 true 2:=⟨isAgg73,sizeOf73⟩
instance aUf:eG prog 73 0 0 9:=⟨_,runUnderlying73,rfl⟩
instance aWt:eG prog 73 1 1 4:=⟨_,runUnderlying73,rfl⟩
instance bB2:eM prog 73 [.val (.string ⟨#[]⟩),.val (.bool false)]:=⟨_,zeroValue73,rfl⟩
instance aZo:Plc prog 73 [(0,1),(1,1)] [.val (.string ⟨#[]⟩),.val (.bool false)]:=⟨_,Tryz.t73,_,underlying73,by kernel_rfl,rfl,by kernel_rfl,rfl⟩
instance bBn:TY prog 74 false 1:=⟨isAgg74,sizeOf74⟩
instance bBp:TY prog 75 false 1:=⟨isAgg75,sizeOf75⟩
instance bBv:TY prog 78 true 2:=⟨isAgg78,sizeOf78⟩
instance aUm:eG prog 78 0 0 22:=⟨_,runUnderlying78,rfl⟩
instance aWo:eG prog 78 1 1 3:=⟨_,runUnderlying78,rfl⟩
instance aZs:eM prog 78 [.val (.slice none 0 0),.val (.int .i64 0)]:=⟨_,zeroValue78,rfl⟩
instance aZ6:Plc prog 78 [(0,1),(1,1)] [.val (.slice none 0 0),.val (.int .i64 0)]:=⟨_,Tryz.t78,_,underlying78,by kernel_rfl,rfl,by kernel_rfl,rfl⟩
instance bCo:TY prog 80 true 6:=⟨isAgg80,sizeOf80⟩
instance aWp:eG prog 80 0 0 75:=⟨_,runUnderlying80,rfl⟩
instance aUo:eG prog 80 1 1 35:=⟨_,runUnderlying80,rfl⟩
instance bHt:eG prog 80 2 4 3:=⟨_,runUnderlying80,rfl⟩
instance bIm:eG prog 80 3 5 4:=⟨_,runUnderlying80,rfl⟩
instance aZ2:eM prog 80 [.val (.pointer none),.val (.slice none 0 0),.val (.slice none 0 0),.val (.slice none 0 0),.val (.int .i64 0),.val (.bool false)]:=⟨_,zeroValue80,rfl⟩
instance bBj:Plc prog 80 [(0,1),(1,3),(4,1),(5,1)] [.val (.pointer none),.val (.slice none 0 0),.val (.slice none 0 0),.val (.slice none 0 0),.val (.int .i64 0),.val (.bool false)]:=⟨_,Tryz.t80,_,underlying80,by kernel_rfl,rfl,by kernel_rfl,rfl⟩
instance bBr:TY prog 87 false 1:=⟨isAgg87,sizeOf87⟩
instance bJr:TSl prog 87 89:=⟨runUnderlying87⟩
instance bKq:eM prog 87 [.val (.slice none 0 0)]:=⟨_,zeroValue87,rfl⟩
instance bAw:TY prog 89 true 4:=⟨isAgg89,sizeOf89⟩
instance aW8:eG prog 89 0 0 3:=⟨_,runUnderlying89,rfl⟩
instance aXg:eG prog 89 1 1 3:=⟨_,runUnderlying89,rfl⟩
instance aW7:eG prog 89 2 2 9:=⟨_,runUnderlying89,rfl⟩
instance aWc:eG prog 89 3 3 87:=⟨_,runUnderlying89,rfl⟩
instance aZu:eM prog 89 [.val (.int .i64 0),.val (.int .i64 0),.val (.string ⟨#[]⟩),.val (.slice none 0 0)]:=⟨_,zeroValue89,rfl⟩
instance bAf:Plc prog 89 [(0,1),(1,1),(2,1),(3,1)] [.val (.int .i64 0),.val (.int .i64 0),.val (.string ⟨#[]⟩),.val (.slice none 0 0)]:=⟨_,Tryz.t89,_,underlying89,by kernel_rfl,rfl,by kernel_rfl,rfl⟩
instance bBc:TY prog 91 true 2:=⟨isAgg91,sizeOf91⟩
instance aUx:eG prog 91 0 0 9:=⟨_,runUnderlying91,rfl⟩
instance aXb:eG prog 91 1 1 87:=⟨_,runUnderlying91,rfl⟩
instance aZ9:eM prog 91 [.val (.string ⟨#[]⟩),.val (.slice none 0 0)]:=⟨_,zeroValue91,rfl⟩
instance aZ5:Plc prog 91 [(0,1),(1,1)] [.val (.string ⟨#[]⟩),.val (.slice none 0 0)]:=⟨_,Tryz.t91,_,underlying91,by kernel_rfl,rfl,by kernel_rfl,rfl⟩
instance bAr:TY prog 92 false 1:=⟨isAgg92,sizeOf92⟩
instance bJq:TSl prog 92 142:=⟨runUnderlying92⟩
instance bJ7:eM prog 92 [.val (.slice none 0 0)]:=⟨_,zeroValue92,rfl⟩
instance bAy:TY prog 94 true 11:=⟨isAgg94,sizeOf94⟩
instance bHl:eG prog 94 0 0 3:=⟨_,runUnderlying94,rfl⟩
instance bHu:eG prog 94 1 1 9:=⟨_,runUnderlying94,rfl⟩
instance bHk:eG prog 94 2 2 89:=⟨_,runUnderlying94,rfl⟩
instance bH9:eG prog 94 3 6 91:=⟨_,runUnderlying94,rfl⟩
instance bHx:eG prog 94 4 8 92:=⟨_,runUnderlying94,rfl⟩
instance bJe:eG prog 94 5 9 42:=⟨_,runUnderlying94,rfl⟩
instance bIy:eG prog 94 6 10 42:=⟨_,runUnderlying94,rfl⟩
instance bKv:eM prog 94 [.val (.int .i64 0),.val (.string ⟨#[]⟩),.val (.int .i64 0),.val (.int .i64 0),.val (.string ⟨#[]⟩),.val (.slice none 0 0),.val (.string ⟨#[]⟩),.val (.slice none 0 0),.val (.slice none 0 0),.val (.slice none 0 0),.val (.slice none 0 0)]:=⟨_,zeroValue94,rfl⟩
instance bJv:Plc prog 94 [(0,1),(1,1),(2,4),(6,2),(8,1),(9,1),(10,1)] [.val (.int .i64 0),.val (.string ⟨#[]⟩),.val (.int .i64 0),.val (.int .i64 0),.val (.string ⟨#[]⟩),.val (.slice none 0 0),.val (.string ⟨#[]⟩),.val (.slice none 0 0),.val (.slice none 0 0),.val (.slice none 0 0),.val (.slice none 0 0)]:=⟨_,Tryz.t94,_,underlying94,by kernel_rfl,rfl,by kernel_rfl,rfl⟩
instance bBe:TY prog 95 false 1:=⟨isAgg95,sizeOf95⟩
instance bA1:TY prog 97 true 4:=⟨isAgg97,sizeOf97⟩
instance bH8:eG prog 97 0 0 51:=⟨_,runUnderlying97,rfl⟩
instance bI9:eG prog 97 1 1 3:=⟨_,runUnderlying97,rfl⟩
instance bHz:eG prog 97 2 2 3:=⟨_,runUnderlying97,rfl⟩
instance bIn:eG prog 97 3 3 47:=⟨_,runUnderlying97,rfl⟩
instance bBw:eM prog 97 [.val (.slice none 0 0),.val (.int .i64 0),.val (.int .i64 0),.val (.int .i64 0)]:=⟨_,zeroValue97,rfl⟩
instance bJ8:Plc prog 97 [(0,1),(1,1),(2,1),(3,1)] [.val (.slice none 0 0),.val (.int .i64 0),.val (.int .i64 0),.val (.int .i64 0)]:=⟨_,Tryz.t97,_,underlying97,by kernel_rfl,rfl,by kernel_rfl,rfl⟩
instance bCe:TY prog 99 true 4:=⟨isAgg99,sizeOf99⟩
instance aW5:eG prog 99 0 0 3:=⟨_,runUnderlying99,rfl⟩
instance aVz:eG prog 99 1 1 9:=⟨_,runUnderlying99,rfl⟩
instance aUp:eG prog 99 2 2 3:=⟨_,runUnderlying99,rfl⟩
instance aWs:eG prog 99 3 3 3:=⟨_,runUnderlying99,rfl⟩
instance bBa:eM prog 99 [.val (.int .i64 0),.val (.string ⟨#[]⟩),.val (.int .i64 0),.val (.int .i64 0)]:=⟨_,zeroValue99,rfl⟩
instance aZn:Plc prog 99 [(0,1),(1,1),(2,1),(3,1)] [.val (.int .i64 0),.val (.string ⟨#[]⟩),.val (.int .i64 0),.val (.int .i64 0)]:=⟨_,Tryz.t99,_,underlying99,by kernel_rfl,rfl,by kernel_rfl,rfl⟩
instance bBd:TY prog 101 false 1:=⟨isAgg101,sizeOf101⟩
instance bAu:TY prog 106 false 1:=⟨isAgg106,sizeOf106⟩
instance bCg:TY prog 107 false 1:=⟨isAgg107,sizeOf107⟩
instance bAm:TY prog 108 false 1:=⟨isAgg108,sizeOf108⟩
instance aZi:TY prog 110 true 7:=⟨isAgg110,sizeOf110⟩
instance bHn:eG prog 110 0 0 35:=⟨_,runUnderlying110,rfl⟩
instance bIh:eG prog 110 1 3 107:=⟨_,runUnderlying110,rfl⟩
instance bIq:eG prog 110 2 4 108:=⟨_,runUnderlying110,rfl⟩
instance bHy:eG prog 110 3 5 3:=⟨_,runUnderlying110,rfl⟩
instance bIc:eG prog 110 4 6 3:=⟨_,runUnderlying110,rfl⟩
instance bCq:TY prog 115 false 1:=⟨isAgg115,sizeOf115⟩
instance bB1:TY prog 117 true 6:=⟨isAgg117,sizeOf117⟩
instance bI8:eG prog 117 0 0 51:=⟨_,runUnderlying117,rfl⟩
instance bJh:eG prog 117 1 1 3:=⟨_,runUnderlying117,rfl⟩
instance bI2:eG prog 117 2 2 3:=⟨_,runUnderlying117,rfl⟩
instance bIj:eG prog 117 3 3 47:=⟨_,runUnderlying117,rfl⟩
instance bH1:eG prog 117 4 4 3:=⟨_,runUnderlying117,rfl⟩
instance bIk:eG prog 117 5 5 3:=⟨_,runUnderlying117,rfl⟩
instance bJ4:eM prog 117 [.val (.slice none 0 0),.val (.int .i64 0),.val (.int .i64 0),.val (.int .i64 0),.val (.int .i64 0),.val (.int .i64 0)]:=⟨_,zeroValue117,rfl⟩
instance bJ9:Plc prog 117 [(0,1),(1,1),(2,1),(3,1),(4,1),(5,1)] [.val (.slice none 0 0),.val (.int .i64 0),.val (.int .i64 0),.val (.int .i64 0),.val (.int .i64 0),.val (.int .i64 0)]:=⟨_,Tryz.t117,_,underlying117,by kernel_rfl,rfl,by kernel_rfl,rfl⟩
instance bAj:TY prog 132 false 1:=⟨isAgg132,sizeOf132⟩
instance bB4:TY prog 133 false 1:=⟨isAgg133,sizeOf133⟩
instance aZg:TY prog 135 true 2:=⟨isAgg135,sizeOf135⟩
instance bJa:eG prog 135 0 0 133:=⟨_,runUnderlying135,rfl⟩
instance bIt:eG prog 135 1 1 23:=⟨_,runUnderlying135,rfl⟩
instance bKe:eM prog 135 [.val (.pointer none),.val (.slice none 0 0)]:=⟨_,zeroValue135,rfl⟩
instance bKa:Plc prog 135 [(0,1),(1,1)] [.val (.pointer none),.val (.slice none 0 0)]:=⟨_,Tryz.t135,_,underlying135,by kernel_rfl,rfl,by kernel_rfl,rfl⟩
instance bCl:TY prog 137 true 3:=⟨isAgg137,sizeOf137⟩
instance aWr:eG prog 137 0 0 135:=⟨_,runUnderlying137,rfl⟩
instance aWm:eG prog 137 1 2 3:=⟨_,runUnderlying137,rfl⟩
instance bA2:eM prog 137 [.val (.pointer none),.val (.slice none 0 0),.val (.int .i64 0)]:=⟨_,zeroValue137,rfl⟩
instance bAa:Plc prog 137 [(0,2),(2,1)] [.val (.pointer none),.val (.slice none 0 0),.val (.int .i64 0)]:=⟨_,Tryz.t137,_,underlying137,by kernel_rfl,rfl,by kernel_rfl,rfl⟩
instance bAh:TY prog 142 true 7:=⟨isAgg142,sizeOf142⟩
instance aXi:eG prog 142 0 0 4:=⟨_,runUnderlying142,rfl⟩
instance aUe:eG prog 142 1 1 91:=⟨_,runUnderlying142,rfl⟩
instance bHm:eG prog 142 2 3 89:=⟨_,runUnderlying142,rfl⟩
instance bA4:eM prog 142 [.val (.bool false),.val (.string ⟨#[]⟩),.val (.slice none 0 0),.val (.int .i64 0),.val (.int .i64 0),.val (.string ⟨#[]⟩),.val (.slice none 0 0)]:=⟨_,zeroValue142,rfl⟩
instance bBm:Plc prog 142 [(0,1),(1,2),(3,4)] [.val (.bool false),.val (.string ⟨#[]⟩),.val (.slice none 0 0),.val (.int .i64 0),.val (.int .i64 0),.val (.string ⟨#[]⟩),.val (.slice none 0 0)]:=⟨_,Tryz.t142,_,underlying142,by kernel_rfl,rfl,by kernel_rfl,rfl⟩
instance bCj:TY prog 153 false 1:=⟨isAgg153,sizeOf153⟩
instance bAz:eM prog 153 [.val (.int .i64 0)]:=⟨_,zeroValue153,rfl⟩
instance bA0:TY prog 156 false 1:=⟨isAgg156,sizeOf156⟩
instance bJp:TSl prog 156 192:=⟨runUnderlying156⟩
instance aZx:eM prog 156 [.val (.slice none 0 0)]:=⟨_,zeroValue156,rfl⟩
instance aZ7:TY prog 158 true 4:=⟨isAgg158,sizeOf158⟩
instance bH2:eG prog 158 0 0 22:=⟨_,runUnderlying158,rfl⟩
instance bJm:eG prog 158 1 1 32:=⟨_,runUnderlying158,rfl⟩
instance bIi:eG prog 158 2 2 156:=⟨_,runUnderlying158,rfl⟩
instance bI4:eG prog 158 3 3 3:=⟨_,runUnderlying158,rfl⟩
instance bJz:eM prog 158 [.val (.slice none 0 0),.val (.slice none 0 0),.val (.slice none 0 0),.val (.int .i64 0)]:=⟨_,zeroValue158,rfl⟩
instance bKx:Plc prog 158 [(0,1),(1,1),(2,1),(3,1)] [.val (.slice none 0 0),.val (.slice none 0 0),.val (.slice none 0 0),.val (.int .i64 0)]:=⟨_,Tryz.t158,_,underlying158,by kernel_rfl,rfl,by kernel_rfl,rfl⟩
instance bB8:TY prog 172 false 1:=⟨isAgg172,sizeOf172⟩
instance bCf:TY prog 175 false 1:=⟨isAgg175,sizeOf175⟩
instance bK1:eM prog 175 [.val (.int .u64 0)]:=⟨_,zeroValue175,rfl⟩
instance bAc:TY prog 183 false 1:=⟨isAgg183,sizeOf183⟩
instance bJo:TSl prog 183 187:=⟨runUnderlying183⟩
instance aZf:eM prog 183 [.val (.slice none 0 0)]:=⟨_,zeroValue183,rfl⟩
instance bCb:TY prog 187 true 3:=⟨isAgg187,sizeOf187⟩
instance bJd:eG prog 187 0 0 9:=⟨_,runUnderlying187,rfl⟩
instance bJk:eG prog 187 1 1 3:=⟨_,runUnderlying187,rfl⟩
instance bH7:eG prog 187 2 2 3:=⟨_,runUnderlying187,rfl⟩
instance bJ1:eM prog 187 [.val (.string ⟨#[]⟩),.val (.int .i64 0),.val (.int .i64 0)]:=⟨_,zeroValue187,rfl⟩
instance bKf:Plc prog 187 [(0,1),(1,1),(2,1)] [.val (.string ⟨#[]⟩),.val (.int .i64 0),.val (.int .i64 0)]:=⟨_,Tryz.t187,_,underlying187,by kernel_rfl,rfl,by kernel_rfl,rfl⟩
instance bAg:TY prog 190 false 1:=⟨isAgg190,sizeOf190⟩
instance bJn:TSl prog 190 224:=⟨runUnderlying190⟩
instance bA9:eM prog 190 [.val (.slice none 0 0)]:=⟨_,zeroValue190,rfl⟩
instance bA7:TY prog 192 true 5:=⟨isAgg192,sizeOf192⟩
instance bI3:eG prog 192 0 0 9:=⟨_,runUnderlying192,rfl⟩
instance bIl:eG prog 192 1 1 3:=⟨_,runUnderlying192,rfl⟩
instance bHo:eG prog 192 2 2 3:=⟨_,runUnderlying192,rfl⟩
instance bI6:eG prog 192 3 3 3:=⟨_,runUnderlying192,rfl⟩
instance bJb:eG prog 192 4 4 190:=⟨_,runUnderlying192,rfl⟩
instance bKd:eM prog 192 [.val (.string ⟨#[]⟩),.val (.int .i64 0),.val (.int .i64 0),.val (.int .i64 0),.val (.slice none 0 0)]:=⟨_,zeroValue192,rfl⟩
instance bKr:Plc prog 192 [(0,1),(1,1),(2,1),(3,1),(4,1)] [.val (.string ⟨#[]⟩),.val (.int .i64 0),.val (.int .i64 0),.val (.int .i64 0),.val (.slice none 0 0)]:=⟨_,Tryz.t192,_,underlying192,by kernel_rfl,rfl,by kernel_rfl,rfl⟩
instance bAq:TY prog 203 false 1:=⟨isAgg203,sizeOf203⟩
instance bB5:TY prog 216 false 1:=⟨isAgg216,sizeOf216⟩
instance bBg:TY prog 218 true 10:=⟨isAgg218,sizeOf218⟩
instance bI5:eG prog 218 0 0 35:=⟨_,runUnderlying218,rfl⟩
instance bH5:eG prog 218 1 3 183:=⟨_,runUnderlying218,rfl⟩
instance bHr:eG prog 218 2 4 3:=⟨_,runUnderlying218,rfl⟩
instance bIf:eG prog 218 3 5 3:=⟨_,runUnderlying218,rfl⟩
instance bIw:eG prog 218 4 6 3:=⟨_,runUnderlying218,rfl⟩
instance bH3:eG prog 218 5 7 47:=⟨_,runUnderlying218,rfl⟩
instance bIo:eG prog 218 6 8 190:=⟨_,runUnderlying218,rfl⟩
instance bH0:eG prog 218 7 9 22:=⟨_,runUnderlying218,rfl⟩
instance bKj:eM prog 218 [.val (.slice none 0 0),.val (.slice none 0 0),.val (.slice none 0 0),.val (.slice none 0 0),.val (.int .i64 0),.val (.int .i64 0),.val (.int .i64 0),.val (.int .i64 0),.val (.slice none 0 0),.val (.slice none 0 0)]:=⟨_,zeroValue218,rfl⟩
instance bKb:Plc prog 218 [(0,3),(3,1),(4,1),(5,1),(6,1),(7,1),(8,1),(9,1)] [.val (.slice none 0 0),.val (.slice none 0 0),.val (.slice none 0 0),.val (.slice none 0 0),.val (.int .i64 0),.val (.int .i64 0),.val (.int .i64 0),.val (.int .i64 0),.val (.slice none 0 0),.val (.slice none 0 0)]:=⟨_,Tryz.t218,_,underlying218,by kernel_rfl,rfl,by kernel_rfl,rfl⟩
instance bBt:TY prog 221 true 3:=⟨isAgg221,sizeOf221⟩
instance bIp:eG prog 221 0 0 4:=⟨_,runUnderlying221,rfl⟩
instance bIg:eG prog 221 1 1 3:=⟨_,runUnderlying221,rfl⟩
instance bHv:eG prog 221 2 2 87:=⟨_,runUnderlying221,rfl⟩
instance bKi:eM prog 221 [.val (.bool false),.val (.int .i64 0),.val (.slice none 0 0)]:=⟨_,zeroValue221,rfl⟩
instance bKg:Plc prog 221 [(0,1),(1,1),(2,1)] [.val (.bool false),.val (.int .i64 0),.val (.slice none 0 0)]:=⟨_,Tryz.t221,_,underlying221,by kernel_rfl,rfl,by kernel_rfl,rfl⟩
instance aZm:TY prog 222 false 1:=⟨isAgg222,sizeOf222⟩
instance bJt:TSl prog 222 221:=⟨runUnderlying222⟩
instance bKh:eM prog 222 [.val (.slice none 0 0)]:=⟨_,zeroValue222,rfl⟩
instance bB0:TY prog 224 true 12:=⟨isAgg224,sizeOf224⟩
instance bHp:eG prog 224 0 0 3:=⟨_,runUnderlying224,rfl⟩
instance bId:eG prog 224 1 1 3:=⟨_,runUnderlying224,rfl⟩
instance bJl:eG prog 224 2 2 4:=⟨_,runUnderlying224,rfl⟩
instance bIs:eG prog 224 3 3 89:=⟨_,runUnderlying224,rfl⟩
instance bIx:eG prog 224 4 7 221:=⟨_,runUnderlying224,rfl⟩
instance bJj:eG prog 224 5 10 87:=⟨_,runUnderlying224,rfl⟩
instance bIe:eG prog 224 6 11 222:=⟨_,runUnderlying224,rfl⟩
instance bK2:eM prog 224 [.val (.int .i64 0),.val (.int .i64 0),.val (.bool false),.val (.int .i64 0),.val (.int .i64 0),.val (.string ⟨#[]⟩),.val (.slice none 0 0),.val (.bool false),.val (.int .i64 0),.val (.slice none 0 0),.val (.slice none 0 0),.val (.slice none 0 0)]:=⟨_,zeroValue224,rfl⟩
instance bKy:Plc prog 224 [(0,1),(1,1),(2,1),(3,4),(7,3),(10,1),(11,1)] [.val (.int .i64 0),.val (.int .i64 0),.val (.bool false),.val (.int .i64 0),.val (.int .i64 0),.val (.string ⟨#[]⟩),.val (.slice none 0 0),.val (.bool false),.val (.int .i64 0),.val (.slice none 0 0),.val (.slice none 0 0),.val (.slice none 0 0)]:=⟨_,Tryz.t224,_,underlying224,by kernel_rfl,rfl,by kernel_rfl,rfl⟩
instance bJw:TY prog 228 true 6:=⟨isAgg228,sizeOf228⟩
instance bHs:eG prog 228 0 0 4:=⟨_,runUnderlying228,rfl⟩
instance bJc:eG prog 228 1 1 4:=⟨_,runUnderlying228,rfl⟩
instance bJf:eG prog 228 2 2 4:=⟨_,runUnderlying228,rfl⟩
instance bIv:eG prog 228 3 3 4:=⟨_,runUnderlying228,rfl⟩
instance bIz:eG prog 228 4 4 4:=⟨_,runUnderlying228,rfl⟩
instance bIb:eG prog 228 5 5 4:=⟨_,runUnderlying228,rfl⟩
instance bKs:eM prog 228 [.val (.bool false),.val (.bool false),.val (.bool false),.val (.bool false),.val (.bool false),.val (.bool false)]:=⟨_,zeroValue228,rfl⟩
instance bKm:Plc prog 228 [(0,1),(1,1),(2,1),(3,1),(4,1),(5,1)] [.val (.bool false),.val (.bool false),.val (.bool false),.val (.bool false),.val (.bool false),.val (.bool false)]:=⟨_,Tryz.t228,_,underlying228,by kernel_rfl,rfl,by kernel_rfl,rfl⟩
instance bJ0:TY prog 235 true 11:=⟨isAgg235,sizeOf235⟩
instance bKk:TY prog 247 true 24:=⟨isAgg247,sizeOf247⟩
instance bJ5:TY prog 257 true 20:=⟨isAgg257,sizeOf257⟩
instance bKn:TY prog 258 false 1:=⟨isAgg258,sizeOf258⟩
instance bK0:eM prog 258 [.val (.int .u32 0)]:=⟨_,zeroValue258,rfl⟩
instance bKc:TY prog 259 true 65:=⟨isAgg259,sizeOf259⟩
instance bKw:TY prog 262 true 18:=⟨isAgg262,sizeOf262⟩
instance bKo:TY prog 272 false 1:=⟨isAgg272,sizeOf272⟩
instance bKp:TY prog 274 true 4:=⟨isAgg274,sizeOf274⟩
instance bI1:eG prog 274 0 0 51:=⟨_,runUnderlying274,rfl⟩
instance bIa:eG prog 274 1 1 3:=⟨_,runUnderlying274,rfl⟩
instance bI7:eG prog 274 2 2 3:=⟨_,runUnderlying274,rfl⟩
instance bHw:eG prog 274 3 3 47:=⟨_,runUnderlying274,rfl⟩
instance bKu:eM prog 274 [.val (.slice none 0 0),.val (.int .i64 0),.val (.int .i64 0),.val (.int .i64 0)]:=⟨_,zeroValue274,rfl⟩
instance bJx:Plc prog 274 [(0,1),(1,1),(2,1),(3,1)] [.val (.slice none 0 0),.val (.int .i64 0),.val (.int .i64 0),.val (.int .i64 0)]:=⟨_,Tryz.t274,_,underlying274,by kernel_rfl,rfl,by kernel_rfl,rfl⟩
instance bJ6:TY prog 275 true 32:=⟨isAgg275,sizeOf275⟩
instance bKl:TY prog 276 true 64:=⟨isAgg276,sizeOf276⟩
end
section
open Go.RowKit
instance (priority:=900) boxIn_appG{A0 R A B:List Box}{b:Nat}{T:TypeId}{cs:List AC}[h:lY R b A T cs B]:lY (A0++R) b (A0++A) T cs B:=⟨by rw [h.h,append_assoc]⟩
instance (priority:=1050) appL_app{A0 X ds r:List Box}[h:aDk X ds r]:aDk (A0++X) ds (A0++r):=⟨by rw [append_assoc,h.h]⟩
instance aS8:hP 1 1 2:=⟨rfl⟩
instance aSv:hP 1 2 3:=⟨rfl⟩
instance aSi:hP 1 3 4:=⟨rfl⟩
instance aTa:hP 1 4 5:=⟨rfl⟩
instance aTf:hP 1 5 6:=⟨rfl⟩
instance aS0:hP 2 1 3:=⟨rfl⟩
instance aSx:hP 2 2 4:=⟨rfl⟩
instance aTk:hP 2 3 5:=⟨rfl⟩
instance aT2:hP 2 4 6:=⟨rfl⟩
instance aRx:hP 2 5 7:=⟨rfl⟩
instance aTw:hP 3 1 4:=⟨rfl⟩
instance aSs:hP 3 2 5:=⟨rfl⟩
instance aSa:hP 3 3 6:=⟨rfl⟩
instance aS6:hP 3 4 7:=⟨rfl⟩
instance aRv:hP 3 5 8:=⟨rfl⟩
instance aR2:hP 4 1 5:=⟨rfl⟩
instance aSy:hP 4 2 6:=⟨rfl⟩
instance aR1:hP 4 3 7:=⟨rfl⟩
instance aSw:hP 4 4 8:=⟨rfl⟩
instance aTt:hP 4 5 9:=⟨rfl⟩
instance aSj:hP 5 1 6:=⟨rfl⟩
instance aSz:hP 5 2 7:=⟨rfl⟩
instance aTg:hP 5 3 8:=⟨rfl⟩
instance aR9:hP 5 4 9:=⟨rfl⟩
instance aTb:hP 5 5 10:=⟨rfl⟩
instance aS4:hP 6 1 7:=⟨rfl⟩
instance aT5:hP 6 2 8:=⟨rfl⟩
instance aSt:hP 6 3 9:=⟨rfl⟩
instance aS5:hP 6 4 10:=⟨rfl⟩
instance aSl:hP 6 5 11:=⟨rfl⟩
instance aSu:hP 7 1 8:=⟨rfl⟩
instance aTz:hP 7 2 9:=⟨rfl⟩
instance aTl:hP 7 3 10:=⟨rfl⟩
instance aS3:hP 7 4 11:=⟨rfl⟩
instance aR7:hP 7 5 12:=⟨rfl⟩
instance aR6:hP 8 1 9:=⟨rfl⟩
instance aTy:hP 8 2 10:=⟨rfl⟩
instance aS2:hP 8 3 11:=⟨rfl⟩
instance aR5:hP 8 4 12:=⟨rfl⟩
instance aSe:hP 8 5 13:=⟨rfl⟩
theorem jJ{bx:List Box}{rw:List bA}{Z:List Nat}{b:Nat}[h1:BIn bx b][h2:aLt bx b Z](hn:(⟨bx,rw⟩:Sto).bl.Nodup):b∈lM ⟨bx,rw⟩ Z:=kH.2 ⟨List.mem_append_left _ h1.h,h2.h (List.nodup_append.1 hn).1⟩
theorem kV{P:Program}{U:List Nat}{o:Oper}{st:AS}{x:Operand}{t e E:TypeId}{v:Value}{z n:Nat}{cs:List AC}(A:List bA){B:List bA}(ho:o.op=.call {callee:=.builtin .len,args:=#[x],argTypes:=#[t]})(hx:evA st x=some (.c (.val v)))(hrow:st.s.rows=A++⟨v,E,z,n,cs⟩::B)(hu:∀w,(underlying t).run P w=.ok (.slice e) w):AY P U o st (.c (.val (.int .i64 n))):=
 fW rfl fun a w hs w'=>by
  obtain ⟨us,hown,-⟩:=hs.mem.row ⟨v,E,z,n,cs⟩ (by rw [hrow];simp)
  have hv:∃p c,v=.slice p n c:=by
   rcases hown.2 with ⟨h1,h2⟩|⟨g,cap,cur,h1,-⟩
   ·dsimp only at h1 h2;subst h2;exact ⟨_,_,h1⟩
   exact ⟨_,_,h1⟩
  obtain ⟨p,c,rfl⟩:=hv
  simp only [execOp,ho,resolve,List.map_toArray,List.map_cons,List.map_nil,hs.val hx]
  simp [go_sem,invoke,builtin,Builtin.len_,hu,goInt]
class aL0 (bx:List Box) (Z:List Nat):Prop where h:∀z,z∈Z -> z∈bx.map Box.b
instance aTn{bx:List Box}:aL0 bx []:=⟨by simp⟩
instance aRr{bx:List Box}{z:Nat}{Z:List Nat}[h1:BIn bx z][h2:aL0 bx Z]:aL0 bx (z::Z):=⟨fun y hy=>by rcases mem_cons.1 hy with rfl|h;exact h1.h;exact h2.h _ h⟩
theorem qW{bx:List Box}{rw:List bA}{Z:List Nat}{v:Value}{E:TypeId}{z n b:Nat}{cs:List AC}[h1:aL0 bx Z](hn:(⟨bx,⟨v,E,z,n,cs⟩::rw⟩:Sto).bl.Nodup)(hb:b∈aY v):b∈lM ⟨bx,⟨v,E,z,n,cs⟩::rw⟩ Z:=by
 have h3:b∈(⟨v,E,z,n,cs⟩::rw:List bA).flatMap fun r=>aY r.v:=by simp [hb]
 refine kH.2 ⟨List.mem_append_right _ h3,fun hz=>?_⟩
 exact (List.nodup_append.1 hn).2.2 b (h1.h b hz) b h3 rfl
theorem aE1{P:Program}{ops:Array Oper}{n:Nat}{T:List Nat}{bx:List Box}{rw:List bA}{ts:List (Nat×AT)}{Q:Exit -> AS -> Prop}{l:List Oper}(i:Nat){v:Value}{E:TypeId}{z k:Nat}{cs:List AC}(hi:look ts i=some (.c (.val v)))(h:eQ P ops l ⟨n,T,⟨bx,rw⟩,(i,.c (.sl k cs))::ts⟩ Q):eQ P ops l ⟨n,T,⟨bx,⟨v,E,z,k,cs⟩::rw⟩,ts⟩ Q:=
 uQ (yS (st:=⟨n,T,⟨bx,⟨v,E,z,k,cs⟩::rw⟩,ts⟩) (A:=[]) i hi rfl) h
end
section
open Go.RowKit
section
variable {P:Program}{ops:Array Oper}{U T:List Nat}{o:Oper}{n d:Nat}{bx:List Box}{rw:List bA}{ts:List (Nat×AT)}{Q:Exit -> AS -> Prop}{l:List Oper}{K:AS -> Prop}{st:AS}{t:AT}
theorem rV{s:Sto}{w:World}(hm:Mem s w){r:bA}(hr:r∈s.rows)(hn:0<r.n):∃g cap,r.v=.slice (some ⟨g,0,none⟩) r.n cap:=by
 obtain ⟨us,⟨h1,h2⟩,-⟩:=hm.row r hr
 rcases h2 with ⟨-,h2⟩|⟨g,cap,cur,h2,-⟩
 ·omega
 exact ⟨g,cap,h2⟩
theorem aF1(A:List bA){B:List bA}{v:Value}{E:TypeId}{z k:Nat}{cs:List AC}(hk:0<k)(h:∀g cap,v=.slice (some ⟨g,0,none⟩) k cap -> eQ P ops l ⟨n,T,⟨bx,A++⟨v,E,z,k,cs⟩::B⟩,ts⟩ Q):eQ P ops l ⟨n,T,⟨bx,A++⟨v,E,z,k,cs⟩::B⟩,ts⟩ Q:=fun a w hs QQ hQ=>by
 obtain ⟨g,cap,hv⟩:=rV hs.mem (r:=⟨v,E,z,k,cs⟩) (by simp) hk
 exact h g cap hv a w hs QQ hQ
theorem aEw(A:List bA){c:Code}{B:List bA}{v:Value}{E:TypeId}{z k:Nat}{cs:List AC}(hk:0<k)(h:∀g cap,v=.slice (some ⟨g,0,none⟩) k cap -> AWp P c ⟨n,T,⟨bx,A++⟨v,E,z,k,cs⟩::B⟩,ts⟩ Q):AWp P c ⟨n,T,⟨bx,A++⟨v,E,z,k,cs⟩::B⟩,ts⟩ Q:=fun a w hs QQ hQ=>by
 obtain ⟨g,cap,hv⟩:=rV hs.mem (r:=⟨v,E,z,k,cs⟩) (by simp) hk
 exact h g cap hv a w hs QQ hQ
theorem rM{E E0:TypeId}{x:Operand}{g off z zz k cap:Nat}{cs:List AC}{ag:Bool}(A:List bA){B:List bA}(ho:o.op=.load E x)(hx:evA st x=some (.c (.val (.pointer (some ⟨g,off,none⟩)))))(hrow:st.s.rows=A++⟨.slice (some ⟨g,0,none⟩) k cap,E0,zz,k,cs⟩::B)
  (hA:∀w,(isAgg E).run P w=.ok ag w) (hS:∀w,(sizeOf E).run P w=.ok z w) (hp:pk ag z cs off=some t) (hU:st.s.bl.Nodup -> g∉U):AY P U o st t:=by
 intro a w hs hU2
 obtain ⟨us,hown,h2⟩:=hs.mem.row ⟨.slice (some ⟨g,0,none⟩) k cap,E0,zz,k,cs⟩ (by rw [hrow];simp)
 obtain ⟨h3,h4⟩:=hown
 rcases h4 with ⟨h4,-⟩|⟨g',cap',cur,hv,-,hh,hk,hcm,hcs,htk⟩
 ·cases h4
 cases hv
 obtain ⟨v,hv,hl⟩:=pR (P:=P) (b:=g) (o:=0) hA hS h2 hp
 refine ⟨v,hv,fun w' hkp=>?_⟩
 have hlt:g<w.heap.size:=hs.mem.lt g (List.mem_append_right _ (by rw [hrow];simp [aY,Value.ownBlock]))
 have hb:=hkp.block g hlt (hU hs.mem.nodup)
 have hl2:=hl w' (fun j u hj=>by
  unfold World.cell?
  simp only [hb,hh]
  have h9:(cur.toList.take (k*zz))[j]?=some u:=by rw [htk];exact hj
  rw [List.getElem?_take] at h9
  split at h9
  ·simpa using h9
  cases h9)
 simp only [Nat.zero_add] at hl2
 simp only [execOp,ho,hs.val hx,Instr.loadAt,Instr.sureAddr,Sem.run_bind,Sem.run_pure,Result.andThen_ok]
 rw [hl2];rfl
theorem aTr{E e:TypeId}{z:Nat}(ho:o.op=.buildSlice E 0 #[])(hd:o.dst=some d)(hn:d<n)(hu:P.underlying E=some (.slice e))(hS:∀w,(sizeOf e).run P w=.ok z w)
  (h:∀g,K ⟨n,g::T,⟨bx,⟨.slice (some ⟨g,0,none⟩) 0 0,e,z,0,[]⟩::rw⟩,(d,.c (.val (.slice (some ⟨g,0,none⟩) 0 0)))::ts⟩):AO P U o ⟨n,T,⟨bx,rw⟩,ts⟩ K:=by
 intro a w hs KK QQ hK
 unfold Oper.wp
 have hrun:(execOp a.eval o).run P w=.ok (.value (.slice (some ⟨w.heap.size,0,none⟩) 0 0)) (w.alloc (.cells #[] e)):=by
  have h1:(underlying E).run P w=.ok (.slice e) w:=run_underlying hu w
  have h2:(sizeOf e).run P w=.ok z w:=hS w
  simp only [execOp,ho,Instr.buildSlice,Sem.run_bind,h1,Result.andThen_ok,h2,Nat.zero_mul]
  simp [go_sem,Instr.fill,newRow]
 rw [hrun,Oper.upon_value,hd]
 have hk:cW [] w (w.alloc (.cells #[] e)):=(cW.refl _ _).alloc _
 have hne:w.heap.size∉(⟨bx,rw⟩:Sto).bl:=fun hm=>by have h9:w.heap.size<w.heap.size:=hs.mem.lt _ hm;omega
 have hbl:(⟨bx,⟨.slice (some ⟨w.heap.size,0,none⟩) 0 0,e,z,0,[]⟩::rw⟩:Sto).bl=bx.map Box.b++w.heap.size::rw.flatMap fun r=>aY r.v:=by unfold Sto.bl;simp [aY,Value.ownBlock]
 have hsub:∀b,b∈(⟨bx,⟨.slice (some ⟨w.heap.size,0,none⟩) 0 0,e,z,0,[]⟩::rw⟩:Sto).bl -> b∈(⟨bx,rw⟩:Sto).bl∨w.heap.size <= b:=fun b hb=>by
  rw [hbl] at hb
  simp only [mem_append,mem_cons] at hb
  rcases hb with h|rfl|h
  ·exact .inl (List.mem_append_left _ h)
  ·exact .inr (Nat.le_refl _)
  exact .inl (List.mem_append_right _ h)
 have hup:Up2 (bI (⟨bx,rw⟩:Sto).bl w) (bI (⟨bx,⟨.slice (some ⟨w.heap.size,0,none⟩) 0 0,e,z,0,[]⟩::rw⟩:Sto).bl (w.alloc (.cells #[] e))):=jA hk (fun _ h=>by cases h) hsub
 have hsz:(w.alloc (.cells #[] e)).heap.size=w.heap.size+1:=by simp
 have hm:Mem ⟨bx,⟨.slice (some ⟨w.heap.size,0,none⟩) 0 0,e,z,0,[]⟩::rw⟩ (w.alloc (.cells #[] e)):=by
  refine ⟨?_,fun b hb=>?_,fun x hx=>?_,fun r hr=>?_⟩
  ·rw [hbl]
   have hnd:(bx.map Box.b++rw.flatMap fun r=>aY r.v).Nodup:=hs.mem.nodup
   rw [List.nodup_append] at hnd⊢
   refine ⟨hnd.1,List.nodup_cons.2 ⟨fun h=>hne (List.mem_append_right _ h),hnd.2.1⟩,fun a ha b hb=>?_⟩
   rcases mem_cons.1 hb with rfl|hb
   ·intro he;subst he;exact hne (List.mem_append_left _ ha)
   exact hnd.2.2 a ha b hb
  ·rw [hbl] at hb
   simp only [mem_append,mem_cons] at hb
   rw [hsz]
   rcases hb with h|rfl|h
   ·exact Nat.lt_succ_of_lt (hs.mem.lt b (List.mem_append_left _ h))
   ·exact Nat.lt_succ_self _
   exact Nat.lt_succ_of_lt (hs.mem.lt b (List.mem_append_right _ h))
  ·obtain ⟨us,e1,e2⟩:=hs.mem.box x hx
   exact ⟨us,by rw [hk.block _ (hs.mem.lt _ (List.mem_append_left _ (List.mem_map.2 ⟨x,hx,rfl⟩))) (by simp)];exact e1,e2.mono hup⟩
  rcases mem_cons.1 hr with rfl|hr
  ·refine ⟨[],⟨by simp,.inr ⟨w.heap.size,0,#[],rfl,Nat.zero_le _,?_,Nat.le_refl _,Nat.zero_le _,by simp,by simp⟩⟩,.nil _⟩
   show (w.heap.push _)[w.heap.size]?=_
   simp
  obtain ⟨us,e1,e2⟩:=hs.mem.row r hr
  exact ⟨us,lV e1 fun g hg=>hk.block g (hs.mem.lt g (List.mem_append_right _ (List.mem_flatMap.2 ⟨r,hr,hg⟩))) (by simp),e2.mono hup⟩
 have s1:=hs.step (st:=⟨n,T,⟨bx,rw⟩,ts⟩) (w.heap.size::T) (hk.mono (by simp)) hm hsub
 refine hK _ _ _ (h _) (s1.put (v:=.slice (some ⟨w.heap.size,0,none⟩) 0 0) hn (.c _ _ (.val _ rfl))) ⟨hk.mono (by simp),hk.mono (by simp),hsub,fun b hb=>?_⟩ (hk.mono (by simp))
 rcases mem_cons.1 hb with rfl|hb
 ·exact .inr (Nat.le_refl _)
 exact .inl hb
end
end
section
open Go.RowKit
theorem kB{a b:Bool}(h:a=true↔b=true):Ending.returned (.bool a)=.returned (.bool b):=by rw [Bool.eq_iff_iff.2 h]
theorem gG{k:IntKind}{a b:Int}(h:a=b):Ending.returned (.int k a)=.returned (.int k b):=by rw [h]
theorem sB(c:UInt8)(w:World):
  Calls prog 121 #[.int .u8 c.toNat] w fun e w'=>e=.returned (.bool (isSp c)) /\ w=w':=by
 unfold isSp
 generalize (c.toNat:Int)=n
 go_enter func121,Tryz.ntmps121
 go_wp2
 all_goals (go_ret;refine ⟨kB ?_,rfl⟩;simp;try omega)
theorem qG(c:UInt8)(w:World):
  Calls prog 124 #[.int .u8 c.toNat] w fun e w'=>e=.returned (.bool (fU c)) /\ w=w':=by
 unfold fU
 generalize (c.toNat:Int)=n
 go_enter func124,Tryz.ntmps124
 go_wp2
 all_goals (go_ret;refine ⟨kB ?_,rfl⟩;simp;try omega)
theorem oV(c:UInt8)(w:World):
  Calls prog 126 #[.int .u8 c.toNat] w fun e w'=>e=.returned (.bool (cD c)) /\ w=w':=by
 unfold cD
 generalize (c.toNat:Int)=n
 go_enter func126,Tryz.ntmps126
 go_wp2
 all_goals (go_ret;refine ⟨kB ?_,rfl⟩;simp;try omega)
theorem tC(c:UInt8)(w:World):
  Calls prog 160 #[.int .u8 c.toNat] w fun e w'=>e=.returned (.bool (cT c)) /\ w=w':=by
 go_enter func160,Tryz.ntmps160
 go_wp2_with (first|(go_at_call 124;refine (qG _ _).mono ?_;rintro e w' ⟨rfl,rfl⟩)|(go_at_call 126;refine (oV _ _).mono ?_;rintro e w' ⟨rfl,rfl⟩))
 all_goals (go_ret;refine ⟨kB ?_,rfl⟩;simp [cT, *])
theorem oK(s p:ByteArray)(w:World):
  Calls prog 122 #[.string s,.string p] w fun e w'=>e=.returned (.bool (Lib.hasPrefix s.data.toList p.data.toList)) /\ w=w':=
 (Tryz.strings_HasPrefix s p w).mono fun _ _ h=>⟨h.1,h.2.symm⟩
theorem oL(s:ByteArray)(c:Int)(w:World):
  Calls prog 123 #[.string s,.int .u8 c] w fun e w'=>e=.returned (.int .i64 (Lib.indexByte s.data.toList c.toNat.toUInt8)) /\ w=w':=
 (Tryz.strings_IndexByte s c w).mono fun _ _ h=>⟨h.1,h.2.symm⟩
theorem uH(s:ByteArray)(k0:Nat)(w:World)(hs:s.size <= 9223372036854775807)(hk:k0 <= s.size):
  Calls prog 86 #[.string s,.int .i64 k0] w fun e w'=>e=.returned (.int .i64 (bF s.data.toList k0)) /\ w=w':=by
 have hlen:s.data.toList.length=s.size:=rfl
 go_enter func86,Tryz.ntmps86
 go_wp2_with fail
 go_loop [1,5] (fun v _=>∃k:Nat,k <= s.size /\ v=.int .i64 k /\ bF s.data.toList k=bF s.data.toList k0) (fun v _=>s.size-(intOf v).toNat)
 case atStart=>exact ⟨k0,hk,rfl,rfl⟩
 case round=>
  obtain ⟨k,hk,rfl,hr⟩:=hrel
  have HR:=Lib.hid hr;clear hr
  have HL:=Lib.hid hlen;clear hlen
  by_cases hlt:k<s.size
  ·by_cases hsp:isSp s[k]=true
   ·go_wp2_with (first|(go_at_call 121;refine (sB _ _).mono ?_;rintro e w' ⟨rfl,rfl⟩))
    go_round
    case rel=>exact ⟨k+1,by omega,by go_num,(aGh _ _ (by rw [HL.out];exact hlt) hsp).trans HR.out⟩
    case measure=>simp [intOf];omega
   have hsp':isSp s[k]=false:=by simpa using hsp
   clear hsp
   by_cases hc:Lib.hasPrefix (s.data.toList.drop k) [47,47]=true
   ·have hcom:=aJa _ _ (by rw [HL.out];exact hlt) hc
    have HC:=Lib.hid hcom;clear hcom
    have htk:List.take (s.size-k) (List.drop k s.data.toList)=List.drop k s.data.toList:=take_of_length_le (by simp)
    by_cases hn:Lib.indexByte (s.data.toList.drop k) 10<0
    ·go_wp2_with (first|(go_at_call 121;refine (sB _ _).mono ?_;rintro e w' ⟨rfl,rfl⟩)|(go_at_call 122;refine (oK _ _ _).mono ?_;rintro e w' ⟨rfl,rfl⟩)|(go_at_call 123;refine (oL _ _ _).mono ?_;rintro e w' ⟨rfl,rfl⟩))
     go_ret
     exact ⟨gG (by rw [←HR.out,HC.out.1 hn,HL.out]),rfl⟩
    obtain ⟨j,hj⟩:∃j:Nat,Lib.indexByte (s.data.toList.drop k) 10=j:=⟨(Lib.indexByte (s.data.toList.drop k) 10).toNat,by omega⟩
    obtain ⟨h1,h2,h3⟩:=HC.out.2 j hj
    rw [HL.out] at h2
    have H1:=Lib.hid h1;clear h1
    clear hn
    go_wp2_with (first|(go_at_call 121;refine (sB _ _).mono ?_;rintro e w' ⟨rfl,rfl⟩)|(go_at_call 122;refine (oK _ _ _).mono ?_;rintro e w' ⟨rfl,rfl⟩)|(go_at_call 123;refine (oL _ _ _).mono ?_;rintro e w' ⟨rfl,rfl⟩))
    go_round
    case rel=>exact ⟨k+j,by omega,by go_num,H1.out.trans HR.out⟩
    case measure=>simp [intOf];omega
   have hc':Lib.hasPrefix (s.data.toList.drop k) [47,47]=false:=by simpa using hc
   have hstop:bF s.data.toList k=k:=by
    refine zX _ _ (by rw [HL.out];exact hlt) hsp' ?_
    rintro ⟨h1,h2⟩
    apply hc
    rw [sZ,dR _ _ (by rw [HL.out];exact hlt),h1]
    cases hd:s.data.toList.drop (k+1) with
    |nil=>simp [hd] at h2
    |cons a r=>rw [hd] at h2;simp at h2;subst h2;exact ⟨r,rfl⟩
   have HS:=Lib.hid hstop;clear hstop
   clear hc
   have htk:List.take (s.size-k) (List.drop k s.data.toList)=List.drop k s.data.toList:=take_of_length_le (by simp)
   go_wp2_with (first|(go_at_call 121;refine (sB _ _).mono ?_;rintro e w' ⟨rfl,rfl⟩)|(go_at_call 122;refine (oK _ _ _).mono ?_;rintro e w' ⟨rfl,rfl⟩))
   go_ret
   exact ⟨gG (by rw [←HR.out,HS.out]),rfl⟩
  go_wp2_with fail
  go_ret
  exact ⟨gG (by rw [←HR.out,aA5 _ _ (by rw [HL.out];omega),HL.out];omega),rfl⟩
theorem lH(p:UInt8 -> Bool)(l:List UInt8)(k:Nat)(hk:k<l.length)(h:(l.takeWhile p).length=k+((l.drop k).takeWhile p).length):
  (p l[k]=true -> (l.takeWhile p).length=(k+1)+((l.drop (k+1)).takeWhile p).length) /\ (p l[k]=false -> (l.takeWhile p).length=k):=by
 rw [dR l k hk] at h
 refine ⟨fun hp=>?_,fun hp=>?_⟩
 ·rw [List.takeWhile_cons_of_pos hp] at h;simp at h;omega
 rw [List.takeWhile_cons_of_neg (by simp [hp])] at h;simpa using h
theorem aI6(s:ByteArray)(w:World)(hs:s.size <= 9223372036854775807):
  Calls prog 159 #[.string s,.func (.func 126) #[] #[]] w fun e w'=>e=.returned (.int .i64 (s.data.toList.takeWhile cD).length) /\ w=w':=by
 have HL:=Lib.hid (show s.data.toList.length=s.size from rfl)
 go_enter func159,Tryz.ntmps159
 go_wp2_with fail
 go_loop [5] (fun v=>∃k:Nat,k <= s.size /\ v=.int .i64 k /\ (s.data.toList.takeWhile cD).length=k+((s.data.toList.drop k).takeWhile cD).length) (fun v=>s.size-(intOf v).toNat)
 case atStart=>exact ⟨0,by omega,rfl,by simp⟩
 case round=>
  obtain ⟨k,hk,rfl,hr⟩:=hrel
  by_cases hlt:k<s.size
  ·have HT:=Lib.hid (lH cD s.data.toList k (by rw [HL.out];exact hlt) hr);clear hr
   by_cases hp:cD s[k]=true
   ·go_wp2_with (first|(go_at_call 126;refine (oV _ _).mono ?_;rintro e w' ⟨rfl,rfl⟩))
    go_round
    case rel=>exact ⟨k+1,by omega,by go_num,HT.out.1 hp⟩
    case measure=>simp [intOf];omega
   have hp':cD s[k]=false:=by simpa using hp
   clear hp
   go_wp2_with (first|(go_at_call 126;refine (oV _ _).mono ?_;rintro e w' ⟨rfl,rfl⟩))
   go_ret
   exact ⟨gG (by rw [HT.out.2 hp']),rfl⟩
  have HR:=Lib.hid hr;clear hr
  go_wp2_with fail
  go_ret
  refine ⟨gG ?_,rfl⟩
  rw [HR.out,List.drop_eq_nil_of_le (by rw [HL.out];omega)];rfl
theorem aM0(s:ByteArray)(w:World)(hs:s.size <= 9223372036854775807):
  Calls prog 159 #[.string s,.func (.func 160) #[] #[]] w fun e w'=>e=.returned (.int .i64 (s.data.toList.takeWhile cT).length) /\ w=w':=by
 have HL:=Lib.hid (show s.data.toList.length=s.size from rfl)
 go_enter func159,Tryz.ntmps159
 go_wp2_with fail
 go_loop [5] (fun v=>∃k:Nat,k <= s.size /\ v=.int .i64 k /\ (s.data.toList.takeWhile cT).length=k+((s.data.toList.drop k).takeWhile cT).length) (fun v=>s.size-(intOf v).toNat)
 case atStart=>exact ⟨0,by omega,rfl,by simp⟩
 case round=>
  obtain ⟨k,hk,rfl,hr⟩:=hrel
  by_cases hlt:k<s.size
  ·have HT:=Lib.hid (lH cT s.data.toList k (by rw [HL.out];exact hlt) hr);clear hr
   by_cases hp:cT s[k]=true
   ·go_wp2_with (first|(go_at_call 160;refine (tC _ _).mono ?_;rintro e w' ⟨rfl,rfl⟩))
    go_round
    case rel=>exact ⟨k+1,by omega,by go_num,HT.out.1 hp⟩
    case measure=>simp [intOf];omega
   have hp':cT s[k]=false:=by simpa using hp
   clear hp
   go_wp2_with (first|(go_at_call 160;refine (tC _ _).mono ?_;rintro e w' ⟨rfl,rfl⟩))
   go_ret
   exact ⟨gG (by rw [HT.out.2 hp']),rfl⟩
  have HR:=Lib.hid hr;clear hr
  go_wp2_with fail
  go_ret
  refine ⟨gG ?_,rfl⟩
  rw [HR.out,List.drop_eq_nil_of_le (by rw [HL.out];omega)];rfl
end
section
open Go.RowKit
structure Env (w:World):Prop where
 words:∀j,j<words.length -> w.cell? ⟨0,0+j,none⟩=some (.string (words.getD j ByteArray.empty))
 maxLen:∃m:Int,w.cell? ⟨1,0,none⟩=some (.int .i64 m)
 size:Nat.max 0 1+1 <= w.heap.size
theorem Env.below{B:Nat}{w w':World}(h:Env w)(hb:Below B w w')(hB:Nat.max 0 1+1 <= B):Env w':=by
 refine ⟨fun j hj=>?_,?_,Nat.le_trans h.size hb.size⟩
 ·rw [hb.cell (p:=⟨0,0+j,none⟩) (Nat.lt_of_lt_of_le (by decide:0<Nat.max 0 1+1) hB)];exact h.words j hj
 rw [hb.cell (p:=⟨1,0,none⟩) (Nat.lt_of_lt_of_le (by decide:1<Nat.max 0 1+1) hB)];exact h.maxLen
theorem Env.alloc{w:World}(h:Env w)(o:Obj):Env (w.alloc o):=h.below ((Below.refl w.heap.size w).alloc (Nat.le_refl _) o) h.size
theorem Env.drew{w:World}(h:Env w):Env w.drew:=h.below ((Below.refl w.heap.size w).drew) h.size
theorem Env.setCell{w:World}(h:Env w){a:Addr}(ha:Nat.max 0 1+1 <= a.block)(u:Value):Env (w.setCell a u):=h.below ((Below.refl (Nat.max 0 1+1) w).setCell ha u) (Nat.le_refl _)
theorem yL(s:ByteArray)(w:World)(he:Env w):
  Calls prog 188 #[.slice (some ⟨0,0,none⟩) 11 11,.string s] w fun e w'=>e=.returned (.bool (dA s)) /\ w=w':=by
 refine (Tryz.slices_Contains_string 0 0 11 11 words s w (by decide) (by decide) he.words).mono fun e w' h=>⟨?_,h.2.symm⟩
 rw [h.1]
 refine kB ?_
 rw [Lib.containsS_iff,mK];rfl
theorem aC5(s:ByteArray)(w:World)(he:Env w):
  Calls prog 161 #[.string s] w fun e w'=>e=.returned (.bool (dA s)) /\ w=w':=by
 go_enter func161,Tryz.ntmps161
 go_wp2_with (first|(go_at_call 188;refine (yL _ _ he).mono ?_;rintro e w' ⟨rfl,rfl⟩))
 go_ret
 exact ⟨rfl,rfl⟩
theorem nZ(s:ByteArray)(p:UInt8 -> Bool):s.extract 0 (s.data.toList.takeWhile p).length=bytes (s.data.toList.takeWhile p):=by
 have:=ByteArray.extract_mk s.data.toList 0 (s.data.toList.takeWhile p).length
 rw [show (ByteArray.mk s.data.toList.toArray)=s from by simp] at this
 rw [this,bytes,List.drop_zero,Nat.sub_zero]
 congr 2
 conv=>rhs;rw [List.takeWhile_eq_take_findIdx_not]
 rw [List.takeWhile_eq_take_findIdx_not,List.length_take,List.take_eq_take_iff];omega
theorem aMr(s:ByteArray)(w:World)(hs:s.size <= 9223372036854775807)(he:Env w):
  Calls prog 125 #[.string s] w fun e w'=>e=.returned (.tuple #[.agg #[.int .i64 ((if dA (bytes (s.data.toList.takeWhile cT)) then 3 else 1:Nat):Int),.string (bytes (s.data.toList.takeWhile cT)),.int .i64 0,.int .i64 0],.int .i64 ((if 16<(s.data.toList.takeWhile cT).length then 3 else 0:Nat):Int)]) /\ Below w.heap.size w w':=by
 have hle:(s.data.toList.takeWhile cT).length <= s.size:=(List.takeWhile_sublist _).length_le
 have hx:=nZ s cT
 have hsz:(bytes (s.data.toList.takeWhile cT)).size=(s.data.toList.takeWhile cT).length:=by simp [bytes,ByteArray.size]
 go_enter func125,Tryz.ntmps125
 go_wp2_with (first|(go_at_call 159;refine (aM0 _ _ hs).mono ?_;rintro e w' ⟨rfl,rfl⟩)|(go_at_call 161;refine (aC5 _ _ ((he.alloc _).alloc _)).mono ?_;rintro e w' ⟨rfl,rfl⟩))
 all_goals (go_returns;refine ⟨?_,by go_grown⟩)
 all_goals first|rfl|(rw [if_pos (by omega)];rfl)|(rw [if_neg (by omega)];rfl)
theorem aJc(t:ByteArray)(k n:Nat)(hk:k<t.size)(h:iT 0 t.data.toList=iT n (t.data.toList.drop k)):
  ((9223372036854775807-(t[k].toNat-48))/10<n -> iT 0 t.data.toList=none) /\ (¬(9223372036854775807-(t[k].toNat-48))/10<n -> iT 0 t.data.toList=iT (10*n+(t[k].toNat-48)) (t.data.toList.drop (k+1))):=by
 rw [dR _ k (by exact hk),iT] at h
 refine ⟨fun hn=>?_,fun hn=>?_⟩
 ·rw [h];exact if_pos hn
 rw [h];exact if_neg hn
def aXp(t:ByteArray)(e:Ending):Prop:=∃n:Nat,(n:Int) <= 9223372036854775807 /\ ((iT 0 t.data.toList=none /\ e=.returned (.tuple #[.agg #[.int .i64 2,.string t,.int .i64 n,.int .i64 0],.int .i64 2]))∨(iT 0 t.data.toList=some n /\ e=.returned (.tuple #[.agg #[.int .i64 2,.string t,.int .i64 n,.int .i64 0],.int .i64 0])))
theorem aHi(s:ByteArray)(w:World)(hs:s.size <= 9223372036854775807):
  Calls prog 127 #[.string s] w fun e w'=>aXp (bytes (s.data.toList.takeWhile cD)) e /\ Below w.heap.size w w':=by
 have hle:(s.data.toList.takeWhile cD).length <= s.size:=(List.takeWhile_sublist _).length_le
 have hx:=nZ s cD
 have hsz:(bytes (s.data.toList.takeWhile cD)).size=(s.data.toList.takeWhile cD).length:=by simp [bytes,ByteArray.size]
 have hall:∀c∈(bytes (s.data.toList.takeWhile cD)).data.toList,cD c=true:=by
  intro c hc;simp only [bytes] at hc;exact (List.all_eq_true.1 (List.all_takeWhile (p:=cD) (l:=s.data.toList))) c hc
 generalize hm:(s.data.toList.takeWhile cD).length=m at *
 generalize ht:bytes (s.data.toList.takeWhile cD)=t at *
 have HM:=Lib.hid hm
 have HT:=Lib.hid ht
 have HA:=Lib.hid hall
 have HX:=Lib.hid hx
 clear hm ht hall
 subst hsz
 go_enter func127,Tryz.ntmps127
 go_wp2_with (first|(go_at_call 159;refine (aI6 _ _ hs).mono ?_;rintro e w' ⟨rfl,rfl⟩;rw [HM.out]))
 go_loopw [15] (fun v wr=>∃k n:Nat,k <= t.size /\ v=.int .i64 k /\ n <= 9223372036854775807 /\ iT 0 t.data.toList=iT n (t.data.toList.drop k) /\ wr=(w.alloc (Obj.cells #[Value.int IntKind.i64 0,Value.string {data:=#[]},Value.int IntKind.i64 0,Value.int IntKind.i64 0] 99)).alloc (Obj.cells #[Value.int IntKind.i64 2,Value.string t,Value.int IntKind.i64 n,Value.int IntKind.i64 0] 99)) (fun v _=>t.size-(intOf v).toNat)
 case atStart=>exact ⟨0,0,by omega,rfl,by omega,rfl,rfl⟩
 case round=>
  obtain ⟨k,n,hk,rfl,hn,hv,rfl⟩:=hrel
  by_cases hlt:k<t.size
  ·have hst:=aJc t k n hlt hv
   have hd:cD t[k]=true:=HA.out _ (by simp [ByteArray.getElem_eq_getElem_data])
   have HS:=Lib.hid hst
   clear hst hv
   simp only [cD,decide_eq_true_eq] at hd
   obtain ⟨hd1,hd2⟩:=hd
   by_cases hov:(9223372036854775807-(t[k].toNat-48))/10<n
   ·have hov':(9223372036854775807-((t[k].toNat:Int)-48))/10<(n:Int):=by omega
    have HO:=Lib.hid hov
    clear hov
    go_wp2_with fail
    go_returns
    exact ⟨⟨n,by omega,.inl ⟨HS.out.1 HO.out,rfl⟩⟩,by go_grown⟩
   have hov':(n:Int) <= (9223372036854775807-((t[k].toNat:Int)-48))/10:=by omega
   have HO:=Lib.hid hov
   clear hov
   go_wp2_with fail
   go_roundw
   case rel=>exact ⟨k+1,10*n+(t[k].toNat-48),by omega,by go_num,by omega,HS.out.2 HO.out,by congr 5;go_num⟩
   case measure=>simp [intOf];omega
  have HV:=Lib.hid hv
  clear hv
  go_wp2_with fail
  go_returns
  refine ⟨⟨n,by omega,.inr ⟨?_,rfl⟩⟩,by go_grown⟩
  rw [HV.out,List.drop_eq_nil_of_le (by show t.size <= k;omega),iT]
theorem nT(sub:ByteArray)(w:World)(he:Env w):
  Calls prog 162 #[.string ⟨#[60,61,32,62,61,32,61,61,32,33,61,32,38,38,32,124,124]⟩,.string sub] w fun e w'=>e=.returned (.bool (Lib.contains wG sub.data.toList)) /\ w=w':=by
 obtain ⟨m,hm⟩:=he.maxLen
 exact (Tryz.strings_Contains _ sub m w (by decide) hm).mono fun e w' h=>⟨h.1,h.2.symm⟩
theorem oD(c:UInt8)(w:World):
  Calls prog 123 #[.string ⟨#[40,41,123,125,91,93,44,59,61,43,45,42,47,37,60,62,33]⟩,.int .u8 c.toNat] w fun e w'=>e=.returned (.int .i64 (Lib.indexByte dW c)) /\ w=w':=by
 refine (oL _ _ _).mono fun e w' h=>⟨?_,h.2⟩
 rw [h.1];congr 3;simp
def aE9(s:ByteArray)(n:Nat):Value:=.tuple #[.agg #[.int .i64 (if n=0 then 0 else 4),.string (bytes (s.data.toList.take n)),.int .i64 0,.int .i64 0],.int .i64 (if n=0 then 1 else 0)]
theorem pY(s:ByteArray)(n:Nat):s.extract 0 n=bytes (s.data.toList.take n):=by
 have:=ByteArray.extract_mk s.data.toList 0 n
 rw [show (ByteArray.mk s.data.toList.toArray)=s from by simp] at this
 rw [this,bytes,List.drop_zero,Nat.sub_zero]
theorem jR(l:List UInt8):(bytes l).data.toList=l:=by simp [bytes]
theorem aLh(s:ByteArray)(w:World)(he:Env w)(h2:1<s.size)(h0:((s[0].toNat:Int) == 32)=false)(h1:((s[1].toNat:Int) == 32)=false)(hc:Lib.contains wG (s.data.toList.take 2)=true):
  Calls prog 128 #[.string s] w fun e w'=>e=.returned (aE9 s 2) /\ Below w.heap.size w w':=by
 have h0':((s[0].toNat:Int) != 32)=true:=by simp at h0⊢;exact h0
 have h1':((s[1].toNat:Int) != 32)=true:=by simp at h1⊢;exact h1
 have h2':(1:Int)<s.size:=by omega
 have hx:=pY s 2
 have hbd:=jR (s.data.toList.take 2)
 go_enter func128,Tryz.ntmps128
 go_wp2_with (first|(go_at_call 162;refine (nT _ _ (he.alloc _)).mono ?_;rintro e w' ⟨rfl,rfl⟩))
 go_returns
 exact ⟨rfl,by go_grown⟩
inductive aH1 (s:ByteArray):Prop
 |short (h:(s.size:Int) <= 1)
 |first (h2:(1:Int)<s.size) (h0:0<s.size) (h:((s[0].toNat:Int) != 32)=false)
 |second (h2:(1:Int)<s.size) (h3:1<s.size) (h0:((s[0].toNat:Int) != 32)=true) (h:((s[1].toNat:Int) != 32)=false)
 |other (h2:(1:Int)<s.size) (h3:1<s.size) (h0:((s[0].toNat:Int) != 32)=true) (h1:((s[1].toNat:Int) != 32)=true) (hc:Lib.contains wG (s.data.toList.take 2)=false)
theorem aK7(s:ByteArray)(w:World)(he:Env w)(h2:0<s.size)(hn:aH1 s)(hb:0 <= Lib.indexByte dW s[0]):
  Calls prog 128 #[.string s] w fun e w'=>e=.returned (aE9 s 1) /\ Below w.heap.size w w':=by
 have hx:=pY s 1
 cases hn
 all_goals
  go_enter func128,Tryz.ntmps128
  go_wp2_with (first|(go_at_call 162;refine (nT _ _ (he.alloc _)).mono ?_;rintro e w' ⟨rfl,rfl⟩)|(go_at_call 123;refine (oD _ _).mono ?_;rintro e w' ⟨rfl,rfl⟩))
  go_returns
  exact ⟨rfl,by go_grown⟩
theorem aKr(s:ByteArray)(w:World)(he:Env w)(h2:0<s.size)(hn:aH1 s)(hb:Lib.indexByte dW s[0]<0):
  Calls prog 128 #[.string s] w fun e w'=>e=.returned (aE9 s 0) /\ Below w.heap.size w w':=by
 have hx:=pY s 1
 cases hn
 all_goals
  go_enter func128,Tryz.ntmps128
  go_wp2_with (first|(go_at_call 162;refine (nT _ _ (he.alloc _)).mono ?_;rintro e w' ⟨rfl,rfl⟩)|(go_at_call 123;refine (oD _ _).mono ?_;rintro e w' ⟨rfl,rfl⟩))
  go_returns
  exact ⟨rfl,by go_grown⟩
theorem aHm(c:UInt8):(c≠32 -> ((c.toNat:Int) != 32)=true) /\ (c=32 -> ((c.toNat:Int) != 32)=false):=by
 refine ⟨fun h=>?_,fun h=>by subst h;rfl⟩
 simp only [bne_iff_ne,ne_eq]
 intro h3;apply h;apply UInt8.toNat_inj.1;show c.toNat=32;omega
theorem aLp(s:ByteArray)(w:World)(he:Env w)(h0:0<s.size):
  Calls prog 128 #[.string s] w fun e w'=>e=.returned (aE9 s (jE s.data.toList)) /\ Below w.heap.size w w':=by
 have hl:s.data.toList.length=s.size:=rfl
 have hcons:=dR s.data.toList 0 (by omega)
 rw [List.drop_zero] at hcons
 have key:aH1 s /\ ¬(2 <= s.data.toList.length /\ s.data.toList.take 2∈fE) -> Calls prog 128 #[.string s] w fun e w'=>e=.returned (aE9 s (jE s.data.toList)) /\ Below w.heap.size w w':=by
  rintro ⟨hn,hm⟩
  by_cases hb:Lib.indexByte dW s[0]<0
  ·have:=(vL _).1 hb
   rw [show jE s.data.toList=0 from by rw [hcons] at hm⊢;exact tL hm this]
   exact aKr s w he h0 hn hb
  have:s[0]∈dW:=Classical.byContradiction fun h=>hb ((vL _).2 h)
  rw [show jE s.data.toList=1 from by rw [hcons] at hm⊢;exact oR hm this]
  exact aK7 s w he h0 hn (by omega)
 by_cases h2:1<s.size
 ·have e2:s.data.toList.take 2=[s[0],s[1]]:=by
   rw [hcons,dR s.data.toList 1 (by omega)];rfl
  by_cases ha:s[0]=32
  ·refine key ⟨.first (by omega) h0 ((aHm _).2 ha),fun h=>?_⟩
   rw [e2] at h;exact (rK _ _ h.2).1 ha
  by_cases hb:s[1]=32
  ·refine key ⟨.second (by omega) h2 ((aHm _).1 ha) ((aHm _).2 hb),fun h=>?_⟩
   rw [e2] at h;exact (rK _ _ h.2).2 hb
  by_cases hc:Lib.contains wG (s.data.toList.take 2)=true
  ·have hm:s.data.toList.take 2∈fE:=by rw [e2] at hc⊢;exact (aBy _ _ ha hb).1 hc
   rw [pA (by omega) hm]
   have h3:=(aHm _).1 ha
   have h4:=(aHm _).1 hb
   exact aLh s w he h2 (by simp at h3⊢;exact h3) (by simp at h4⊢;exact h4) hc
  refine key ⟨.other (by omega) h2 ((aHm _).1 ha) ((aHm _).1 hb) (by simpa using hc),fun h=>hc ?_⟩
  have hm:=h.2
  rw [e2] at hm⊢;exact (aBy _ _ ha hb).2 hm
 ·exact key ⟨.short (by omega),by rintro ⟨h,_⟩;omega⟩
structure TB (P:Program) (E e:TypeId) (i:TypeInfo) (z bytes:Nat) (zv:Value):Prop where
  hu:P.underlying E=some (.slice e)
  hi:P.info? e=some i
  hz:i.zero=some zv
  hsz:i.size=z
  hby:i.bytes=bytes
  hzs:zv.cells.size=z
  h0:0<z
structure ZB (P:Program) (E e:TypeId) (i:TypeInfo) (len:Nat) (z:Value) (zc:List AC):Prop where
  hu:P.underlying E=some (.slice e)
  hi:P.info? e=some i
  hz:i.zero=some z
  hsmall:¬len*i.size>2 ^ 24
  hpos:¬len*i.size=0
  hzc:(((Array.range (len*i.size)).map (z.cells[·% z.cells.size]!)).toList.all (·.oneCell'))=true
  hzr:((Array.range (len*i.size)).map (z.cells[·% z.cells.size]!)).toList.map .val=zc
section
variable {P:Program}{U:List Nat}{o:Oper}{n d:Nat}{T:List Nat}{s:Sto}{ts:List (Nat×AT)}{bx:List Box}{K:AS -> Prop}
theorem bDm{E e:TypeId}{i:TypeInfo}{x y:Operand}{k m z bytes:Nat}{v zv:Value}{cs ds r:List AC}(A:List bA)(t:TB P E e i z bytes zv){B:List bA}(h0:(o.op,o.dst,Nat.blt d n,evA ⟨n,T,⟨bx,A++⟨v,e,z,k,cs⟩::B⟩,ts⟩ x,evA ⟨n,T,⟨bx,A++⟨v,e,z,k,cs⟩::B⟩,ts⟩ y)=(.call {callee:=.builtin .append,args:=#[x,y],argTypes:=#[E,E]},some d,true,some (.c (.val v)),some (.c (.sl m ds))))
    (hm:ds.length=m*z) (hm0:0<m) (hlen:k+m <= maxLen) (hbytes:(k+m)*bytes <= 140737488355328) {N:Nat} (hN:k+m=N) (hU:(⟨bx,A++⟨v,e,z,k,cs⟩::B⟩:Sto).bl.Nodup -> ∀b,b∈aY v -> b∈U) (hT:∀b,b∈aY v -> b∈T) (hr:cs++ds=r)
    (h:∀v',K ⟨n,aY v'++T,⟨bx,A++⟨v',e,z,N,r⟩::B⟩,(d,.c (.val v'))::ts⟩):AO P U o ⟨n,T,⟨bx,A++⟨v,e,z,k,cs⟩::B⟩,ts⟩ K:=by
  simp only [Prod.mk.injEq] at h0
  exact eV A i bytes h0.1 h0.2.1 (Nat.le_of_ble_eq_true h0.2.2.1) h0.2.2.2.1 h0.2.2.2.2 t.hu t.hi t.hz t.hsz t.hby t.hzs t.h0 hm hm0 hlen hbytes hN hU hT hr h
theorem bDk{E e:TypeId}{i:TypeInfo}{z:Value}{len:Nat}{parts:Array (Nat×Operand)}{ps:List (Nat×AT)}{zc r:List AC}(t:ZB P E e i len z zc)(h0:(o.op,o.dst,Nat.blt d n)=(.buildSlice E len parts,some d,true))(hps:EvP ⟨n,T,s,ts⟩ parts.toList ps)
    (hf:qO (fun k=>some (k*i.size,i.size)) zc ps=some r) (h:K ⟨n,T,s,(d,.c (.sl len r))::ts⟩):AO P U o ⟨n,T,s,ts⟩ K:=by
  simp only [Prod.mk.injEq] at h0
  exact wbs i zc h0.1 h0.2.1 (Nat.le_of_ble_eq_true h0.2.2) hps t.hu t.hi t.hz t.hsmall t.hpos t.hzc t.hzr hf h
end
def bHh:=(⟨underlying92,(by kernel_rfl),rfl,rfl,rfl,rfl,(by decide)⟩:TB prog 92 142 Tryz.t142 7 104 _)
def bDv:=(⟨underlying33,(by kernel_rfl),rfl,rfl,rfl,rfl,(by decide)⟩:TB prog 33 44 Tryz.t44 3 64 _)
def bN3:=(⟨underlying23,(by kernel_rfl),rfl,rfl,rfl,rfl,(by decide)⟩:TB prog 23 5 Tryz.t5 1 1 _)
def bDq:=(⟨underlying31,(by kernel_rfl),rfl,rfl,rfl,rfl,(by decide)⟩:TB prog 31 69 Tryz.t69 2 24 _)
def bDp:=(⟨underlying32,(by kernel_rfl),rfl,rfl,rfl,rfl,(by decide)⟩:TB prog 32 71 Tryz.t71 3 32 _)
def bHg:=(⟨underlying41,(by kernel_rfl),rfl,rfl,rfl,rfl,(by decide)⟩:TB prog 41 73 Tryz.t73 2 24 _)
def bDn:=(⟨underlying26,(by kernel_rfl),rfl,rfl,rfl,rfl,(by decide)⟩:TB prog 26 9 Tryz.t9 1 16 _)
def bHj:=(⟨underlying42,(by kernel_rfl),rfl,rfl,rfl,rfl,(by decide)⟩:TB prog 42 94 Tryz.t94 11 192 _)
def zb0:=(⟨underlying92,(by kernel_rfl),rfl,(by decide),(by decide),(by kernel_rfl),(by kernel_rfl)⟩:ZB prog 92 142 Tryz.t142 1 _ [.val (.bool false),.val (.string ⟨#[]⟩),.val (.slice none 0 0),.val (.int .i64 0),.val (.int .i64 0),.val (.string ⟨#[]⟩),.val (.slice none 0 0)])
def zb1:=(⟨underlying33,(by kernel_rfl),rfl,(by decide),(by decide),(by kernel_rfl),(by kernel_rfl)⟩:ZB prog 33 44 Tryz.t44 1 _ [.val (.string ⟨#[]⟩),.val (.slice none 0 0),.val (.slice none 0 0)])
def zb2:=(⟨underlying23,(by kernel_rfl),rfl,(by decide),(by decide),(by kernel_rfl),(by kernel_rfl)⟩:ZB prog 23 5 Tryz.t5 2 _ [.val (.int .u8 0),.val (.int .u8 0)])
def zb3:=(⟨underlying23,(by kernel_rfl),rfl,(by decide),(by decide),(by kernel_rfl),(by kernel_rfl)⟩:ZB prog 23 5 Tryz.t5 1 _ [.val (.int .u8 0)])
def zb4:=(⟨underlying31,(by kernel_rfl),rfl,(by decide),(by decide),(by kernel_rfl),(by kernel_rfl)⟩:ZB prog 31 69 Tryz.t69 1 _ [.val (.string ⟨#[]⟩),.val (.int .i64 0)])
def zb5:=(⟨underlying32,(by kernel_rfl),rfl,(by decide),(by decide),(by kernel_rfl),(by kernel_rfl)⟩:ZB prog 32 71 Tryz.t71 1 _ [.val (.string ⟨#[]⟩),.val (.bool false),.val (.int .i64 0)])
def zb6:=(⟨underlying41,(by kernel_rfl),rfl,(by decide),(by decide),(by kernel_rfl),(by kernel_rfl)⟩:ZB prog 41 73 Tryz.t73 1 _ [.val (.string ⟨#[]⟩),.val (.bool false)])
def zb7:=(⟨underlying87,(by kernel_rfl),rfl,(by decide),(by decide),(by kernel_rfl),(by kernel_rfl)⟩:ZB prog 87 89 Tryz.t89 2 _ [.val (.int .i64 0),.val (.int .i64 0),.val (.string ⟨#[]⟩),.val (.slice none 0 0),.val (.int .i64 0),.val (.int .i64 0),.val (.string ⟨#[]⟩),.val (.slice none 0 0)])
def zb8:=(⟨underlying87,(by kernel_rfl),rfl,(by decide),(by decide),(by kernel_rfl),(by kernel_rfl)⟩:ZB prog 87 89 Tryz.t89 1 _ [.val (.int .i64 0),.val (.int .i64 0),.val (.string ⟨#[]⟩),.val (.slice none 0 0)])
def bDs:=(⟨underlying26,(by kernel_rfl),rfl,(by decide),(by decide),(by kernel_rfl),(by kernel_rfl)⟩:ZB prog 26 9 Tryz.t9 5 _ [.val (.string ⟨#[]⟩),.val (.string ⟨#[]⟩),.val (.string ⟨#[]⟩),.val (.string ⟨#[]⟩),.val (.string ⟨#[]⟩)])
def bHf:=(⟨underlying26,(by kernel_rfl),rfl,(by decide),(by decide),(by kernel_rfl),(by kernel_rfl)⟩:ZB prog 26 9 Tryz.t9 3 _ [.val (.string ⟨#[]⟩),.val (.string ⟨#[]⟩),.val (.string ⟨#[]⟩)])
def bLv:=(⟨underlying26,(by kernel_rfl),rfl,(by decide),(by decide),(by kernel_rfl),(by kernel_rfl)⟩:ZB prog 26 9 Tryz.t9 2 _ [.val (.string ⟨#[]⟩),.val (.string ⟨#[]⟩)])
def bDy:=(⟨underlying26,(by kernel_rfl),rfl,(by decide),(by decide),(by kernel_rfl),(by kernel_rfl)⟩:ZB prog 26 9 Tryz.t9 1 _ [.val (.string ⟨#[]⟩)])
def bDo:=(⟨underlying42,(by kernel_rfl),rfl,(by decide),(by decide),(by kernel_rfl),(by kernel_rfl)⟩:ZB prog 42 94 Tryz.t94 1 _ [.val (.int .i64 0),.val (.string ⟨#[]⟩),.val (.int .i64 0),.val (.int .i64 0),.val (.string ⟨#[]⟩),.val (.slice none 0 0),.val (.string ⟨#[]⟩),.val (.slice none 0 0),.val (.slice none 0 0),.val (.slice none 0 0),.val (.slice none 0 0)])
end
end Go.Proofs.YtlmpchoaebhhmaaGreatDoor
