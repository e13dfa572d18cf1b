import Derived.Test.YtojinfngbbajgaaGreatDoorP4J
import Derived.Test.YtojinfngbbajgaaGreatDoorProg
import Derived.Test.YtojinfngbbajgaaGreatDoorRows
import Derived.Test.YtojinfngbbajgaaGreatDoorShelfJ
import Derived.Test.YtojinfngbbajgaaGreatDoorB1J
import Derived.WalkKit
import Derived.WalkSpells
import Derived.WalkLawsBesides
import Derived.Handy
import Derived.Lib.Hide
set_option linter.all false
set_option synthInstance.maxHeartbeats 1000000
set_option synthInstance.maxSize 1000000
set_option maxHeartbeats 1600000
set_option maxRecDepth 100000
namespace Go.Proofs.YtojinfngbbajgaaGreatDoor
open Go.Proofs.Tryz
open List (length_append length_cons length_nil mem_append mem_cons not_mem_nil append_assoc getElem_mem take_of_length_le)
section
open Go.RowKit
instance bCw:TY prog 2 false 1:=⟨isAgg2,sizeOf2⟩
instance bCx:eM prog 2 [.val (.int .i64 0)]:=⟨_,zeroValue2,rfl⟩
instance bCu:TY prog 3 false 1:=⟨isAgg3,sizeOf3⟩
instance bC3:eM prog 3 [.val (.int .i64 0)]:=⟨_,zeroValue3,rfl⟩
instance bCr:TY prog 4 false 1:=⟨isAgg4,sizeOf4⟩
instance bDa:eM prog 4 [.val (.bool false)]:=⟨_,zeroValue4,rfl⟩
instance bC0:TY prog 5 false 1:=⟨isAgg5,sizeOf5⟩
instance bCt:eM prog 5 [.val (.int .u8 0)]:=⟨_,zeroValue5,rfl⟩
instance bDc:TY prog 9 false 1:=⟨isAgg9,sizeOf9⟩
instance aXn:aRy prog 9:=⟨runUnderlying9⟩
instance bC6:eM prog 9 [.val (.string ⟨#[]⟩)]:=⟨_,zeroValue9,rfl⟩
instance bCz:TY prog 12 false 1:=⟨isAgg12,sizeOf12⟩
instance bDb:eM prog 12 [.val (.int .u64 0)]:=⟨_,zeroValue12,rfl⟩
instance bC8:TY prog 19 true 1:=⟨isAgg19,sizeOf19⟩
instance aX2:eG prog 19 0 0 17:=⟨_,runUnderlying19,rfl⟩
instance bCv:eM prog 19 [.val (.pointer none)]:=⟨_,zeroValue19,rfl⟩
instance bCy:Plc prog 19 [(0,1)] [.val (.pointer none)]:=⟨_,Tryz.t19,_,underlying19,by kernel_rfl,rfl,by kernel_rfl,rfl⟩
instance bC4:TY prog 21 false 1:=⟨isAgg21,sizeOf21⟩
instance bC7:eM prog 21 [.val (.int .i32 0)]:=⟨_,zeroValue21,rfl⟩
instance bC5:TY prog 22 false 1:=⟨isAgg22,sizeOf22⟩
instance bBu:TSl prog 22 3:=⟨runUnderlying22⟩
instance bDe:eM prog 22 [.val (.slice none 0 0)]:=⟨_,zeroValue22,rfl⟩
instance bC2:TY prog 23 false 1:=⟨isAgg23,sizeOf23⟩
instance bAd:TSl prog 23 5:=⟨runUnderlying23⟩
instance bDd:eM prog 23 [.val (.slice none 0 0)]:=⟨_,zeroValue23,rfl⟩
instance aZ8:TY prog 26 false 1:=⟨isAgg26,sizeOf26⟩
instance aX8:TSl prog 26 86:=⟨runUnderlying26⟩
instance bB9:eM prog 26 [.val (.slice none 0 0)]:=⟨_,zeroValue26,rfl⟩
instance bB6:TY prog 27 false 1:=⟨isAgg27,sizeOf27⟩
instance bXh:TSl prog 27 70:=⟨runUnderlying27⟩
instance bAb:eM prog 27 [.val (.slice none 0 0)]:=⟨_,zeroValue27,rfl⟩
instance aZz:TY prog 28 false 1:=⟨isAgg28,sizeOf28⟩
instance aYp:TSl prog 28 58:=⟨runUnderlying28⟩
instance bAs:eM prog 28 [.val (.slice none 0 0)]:=⟨_,zeroValue28,rfl⟩
instance bA3:TY prog 30 true 3:=⟨isAgg30,sizeOf30⟩
instance bW5:eG prog 30 0 0 26:=⟨_,runUnderlying30,rfl⟩
instance bWz:eG prog 30 1 1 27:=⟨_,runUnderlying30,rfl⟩
instance bW8:eG prog 30 2 2 28:=⟨_,runUnderlying30,rfl⟩
instance bCn:eM prog 30 [.val (.slice none 0 0),.val (.slice none 0 0),.val (.slice none 0 0)]:=⟨_,zeroValue30,rfl⟩
instance bXl:Plc prog 30 [(0,1),(1,1),(2,1)] [.val (.slice none 0 0),.val (.slice none 0 0),.val (.slice none 0 0)]:=⟨_,Tryz.t30,_,underlying30,by kernel_rfl,rfl,by kernel_rfl,rfl⟩
instance aZh:TY prog 31 false 1:=⟨isAgg31,sizeOf31⟩
instance bAn:eM prog 31 [.val (.int .i64 0)]:=⟨_,zeroValue31,rfl⟩
instance bAx:TY prog 36 false 1:=⟨isAgg36,sizeOf36⟩
instance bXg:TSl prog 36 66:=⟨runUnderlying36⟩
instance bAk:eM prog 36 [.val (.slice none 0 0)]:=⟨_,zeroValue36,rfl⟩
instance aZc:TY prog 50 false 1:=⟨isAgg50,sizeOf50⟩
instance bJs:TSl prog 50 9:=⟨runUnderlying50⟩
instance aZd:eM prog 50 [.val (.slice none 0 0)]:=⟨_,zeroValue50,rfl⟩
instance bBs:TY prog 55 false 1:=⟨isAgg55,sizeOf55⟩
instance aYv:TSl prog 55 89:=⟨runUnderlying55⟩
instance aZ1:eM prog 55 [.val (.slice none 0 0)]:=⟨_,zeroValue55,rfl⟩
instance bBk:TY prog 56 false 1:=⟨isAgg56,sizeOf56⟩
instance aXs:TSl prog 56 78:=⟨runUnderlying56⟩
instance bA8:eM prog 56 [.val (.slice none 0 0)]:=⟨_,zeroValue56,rfl⟩
instance aZe:TY prog 58 true 3:=⟨isAgg58,sizeOf58⟩
instance bWp:eG prog 58 0 0 9:=⟨_,runUnderlying58,rfl⟩
instance bWs:eG prog 58 1 1 55:=⟨_,runUnderlying58,rfl⟩
instance bW0:eG prog 58 2 2 56:=⟨_,runUnderlying58,rfl⟩
instance bCd:eM prog 58 [.val (.string ⟨#[]⟩),.val (.slice none 0 0),.val (.slice none 0 0)]:=⟨_,zeroValue58,rfl⟩
instance bXn:Plc prog 58 [(0,1),(1,1),(2,1)] [.val (.string ⟨#[]⟩),.val (.slice none 0 0),.val (.slice none 0 0)]:=⟨_,Tryz.t58,_,underlying58,by kernel_rfl,rfl,by kernel_rfl,rfl⟩
instance bAe:TY prog 62 false 1:=⟨isAgg62,sizeOf62⟩
instance bBh:TY prog 64 true 4:=⟨isAgg64,sizeOf64⟩
instance bIu:eG prog 64 0 0 36:=⟨_,runUnderlying64,rfl⟩
instance bJi:eG prog 64 1 1 3:=⟨_,runUnderlying64,rfl⟩
instance bXb:eG prog 64 2 2 3:=⟨_,runUnderlying64,rfl⟩
instance bW3:eG prog 64 3 3 31:=⟨_,runUnderlying64,rfl⟩
instance bJy:eM prog 64 [.val (.slice none 0 0),.val (.int .i64 0),.val (.int .i64 0),.val (.int .i64 0)]:=⟨_,zeroValue64,rfl⟩
instance bKz:Plc prog 64 [(0,1),(1,1),(2,1),(3,1)] [.val (.slice none 0 0),.val (.int .i64 0),.val (.int .i64 0),.val (.int .i64 0)]:=⟨_,Tryz.t64,_,underlying64,by kernel_rfl,rfl,by kernel_rfl,rfl⟩
instance bBo:TY prog 66 true 4:=⟨isAgg66,sizeOf66⟩
instance bH6:eG prog 66 0 0 3:=⟨_,runUnderlying66,rfl⟩
instance bIr:eG prog 66 1 1 9:=⟨_,runUnderlying66,rfl⟩
instance bH4:eG prog 66 2 2 3:=⟨_,runUnderlying66,rfl⟩
instance bW6:eG prog 66 3 3 3:=⟨_,runUnderlying66,rfl⟩
instance bJ2:eM prog 66 [.val (.int .i64 0),.val (.string ⟨#[]⟩),.val (.int .i64 0),.val (.int .i64 0)]:=⟨_,zeroValue66,rfl⟩
instance bKt:Plc prog 66 [(0,1),(1,1),(2,1),(3,1)] [.val (.int .i64 0),.val (.string ⟨#[]⟩),.val (.int .i64 0),.val (.int .i64 0)]:=⟨_,Tryz.t66,_,underlying66,by kernel_rfl,rfl,by kernel_rfl,rfl⟩
instance bAt:TY prog 68 false 1:=⟨isAgg68,sizeOf68⟩
instance bBn:TY prog 70 true 3:=⟨isAgg70,sizeOf70⟩
instance aWb:eG prog 70 0 0 9:=⟨_,runUnderlying70,rfl⟩
instance aU5:eG prog 70 1 1 4:=⟨_,runUnderlying70,rfl⟩
instance aVn:eG prog 70 2 2 3:=⟨_,runUnderlying70,rfl⟩
instance bAi:eM prog 70 [.val (.string ⟨#[]⟩),.val (.bool false),.val (.int .i64 0)]:=⟨_,zeroValue70,rfl⟩
instance bCi:Plc prog 70 [(0,1),(1,1),(2,1)] [.val (.string ⟨#[]⟩),.val (.bool false),.val (.int .i64 0)]:=⟨_,Tryz.t70,_,underlying70,by kernel_rfl,rfl,by kernel_rfl,rfl⟩
instance bBp:TY prog 71 false 1:=⟨isAgg71,sizeOf71⟩
instance bXi:TSl prog 71 73:=⟨runUnderlying71⟩
instance bCm:eM prog 71 [.val (.slice none 0 0)]:=⟨_,zeroValue71,rfl⟩
instance bBv:TY prog 73 true 4:=⟨isAgg73,sizeOf73⟩
instance aUm:eG prog 73 0 0 3:=⟨_,runUnderlying73,rfl⟩
instance aWo:eG prog 73 1 1 3:=⟨_,runUnderlying73,rfl⟩
instance bWu:eG prog 73 2 2 9:=⟨_,runUnderlying73,rfl⟩
instance bWt:eG prog 73 3 3 71:=⟨_,runUnderlying73,rfl⟩
instance aZs:eM prog 73 [.val (.int .i64 0),.val (.int .i64 0),.val (.string ⟨#[]⟩),.val (.slice none 0 0)]:=⟨_,zeroValue73,rfl⟩
instance aZ6:Plc prog 73 [(0,1),(1,1),(2,1),(3,1)] [.val (.int .i64 0),.val (.int .i64 0),.val (.string ⟨#[]⟩),.val (.slice none 0 0)]:=⟨_,Tryz.t73,_,underlying73,by kernel_rfl,rfl,by kernel_rfl,rfl⟩
instance bCo:TY prog 75 true 2:=⟨isAgg75,sizeOf75⟩
instance aWp:eG prog 75 0 0 9:=⟨_,runUnderlying75,rfl⟩
instance aUo:eG prog 75 1 1 71:=⟨_,runUnderlying75,rfl⟩
instance aZ2:eM prog 75 [.val (.string ⟨#[]⟩),.val (.slice none 0 0)]:=⟨_,zeroValue75,rfl⟩
instance bBj:Plc prog 75 [(0,1),(1,1)] [.val (.string ⟨#[]⟩),.val (.slice none 0 0)]:=⟨_,Tryz.t75,_,underlying75,by kernel_rfl,rfl,by kernel_rfl,rfl⟩
instance bBr:TY prog 76 false 1:=⟨isAgg76,sizeOf76⟩
instance bJr:TSl prog 76 141:=⟨runUnderlying76⟩
instance bKq:eM prog 76 [.val (.slice none 0 0)]:=⟨_,zeroValue76,rfl⟩
instance bAw:TY prog 78 true 11:=⟨isAgg78,sizeOf78⟩
instance aW8:eG prog 78 0 0 3:=⟨_,runUnderlying78,rfl⟩
instance aXg:eG prog 78 1 1 9:=⟨_,runUnderlying78,rfl⟩
instance aW7:eG prog 78 2 2 73:=⟨_,runUnderlying78,rfl⟩
instance aWc:eG prog 78 3 6 75:=⟨_,runUnderlying78,rfl⟩
instance bWv:eG prog 78 4 8 76:=⟨_,runUnderlying78,rfl⟩
instance bW4:eG prog 78 5 9 56:=⟨_,runUnderlying78,rfl⟩
instance bWx:eG prog 78 6 10 56:=⟨_,runUnderlying78,rfl⟩
instance aZu:eM prog 78 [.val (.int .i64 0),.val (.string ⟨#[]⟩),.val (.int .i64 0),.val (.int .i64 0),.val (.string ⟨#[]⟩),.val (.slice none 0 0),.val (.string ⟨#[]⟩),.val (.slice none 0 0),.val (.slice none 0 0),.val (.slice none 0 0),.val (.slice none 0 0)]:=⟨_,zeroValue78,rfl⟩
instance bAf:Plc prog 78 [(0,1),(1,1),(2,4),(6,2),(8,1),(9,1),(10,1)] [.val (.int .i64 0),.val (.string ⟨#[]⟩),.val (.int .i64 0),.val (.int .i64 0),.val (.string ⟨#[]⟩),.val (.slice none 0 0),.val (.string ⟨#[]⟩),.val (.slice none 0 0),.val (.slice none 0 0),.val (.slice none 0 0),.val (.slice none 0 0)]:=⟨_,Tryz.t78,_,underlying78,by kernel_rfl,rfl,by kernel_rfl,rfl⟩
instance bBc:TY prog 86 true 2:=⟨isAgg86,sizeOf86⟩
instance aUx:eG prog 86 0 0 9:=⟨_,runUnderlying86,rfl⟩
instance aXb:eG prog 86 1 1 3:=⟨_,runUnderlying86,rfl⟩
instance aZ9:eM prog 86 [.val (.string ⟨#[]⟩),.val (.int .i64 0)]:=⟨_,zeroValue86,rfl⟩
instance aZ5:Plc prog 86 [(0,1),(1,1)] [.val (.string ⟨#[]⟩),.val (.int .i64 0)]:=⟨_,Tryz.t86,_,underlying86,by kernel_rfl,rfl,by kernel_rfl,rfl⟩
instance bAr:TY prog 89 true 2:=⟨isAgg89,sizeOf89⟩
instance bWw:eG prog 89 0 0 9:=⟨_,runUnderlying89,rfl⟩
instance bW2:eG prog 89 1 1 4:=⟨_,runUnderlying89,rfl⟩
instance bJ7:eM prog 89 [.val (.string ⟨#[]⟩),.val (.bool false)]:=⟨_,zeroValue89,rfl⟩
instance bXo:Plc prog 89 [(0,1),(1,1)] [.val (.string ⟨#[]⟩),.val (.bool false)]:=⟨_,Tryz.t89,_,underlying89,by kernel_rfl,rfl,by kernel_rfl,rfl⟩
instance bAy:TY prog 90 false 1:=⟨isAgg90,sizeOf90⟩
instance bBe:TY prog 91 false 1:=⟨isAgg91,sizeOf91⟩
instance bA1:TY prog 92 false 1:=⟨isAgg92,sizeOf92⟩
instance bCe:TY prog 94 true 7:=⟨isAgg94,sizeOf94⟩
instance aW5:eG prog 94 0 0 30:=⟨_,runUnderlying94,rfl⟩
instance aVz:eG prog 94 1 3 91:=⟨_,runUnderlying94,rfl⟩
instance aUp:eG prog 94 2 4 92:=⟨_,runUnderlying94,rfl⟩
instance aWs:eG prog 94 3 5 3:=⟨_,runUnderlying94,rfl⟩
instance bW1:eG prog 94 4 6 3:=⟨_,runUnderlying94,rfl⟩
instance bBd:TY prog 98 false 1:=⟨isAgg98,sizeOf98⟩
instance bAu:TY prog 99 false 1:=⟨isAgg99,sizeOf99⟩
instance bCg:TY prog 102 true 2:=⟨isAgg102,sizeOf102⟩
instance aWj:eG prog 102 0 0 22:=⟨_,runUnderlying102,rfl⟩
instance aUu:eG prog 102 1 1 3:=⟨_,runUnderlying102,rfl⟩
instance bAv:eM prog 102 [.val (.slice none 0 0),.val (.int .i64 0)]:=⟨_,zeroValue102,rfl⟩
instance bBf:Plc prog 102 [(0,1),(1,1)] [.val (.slice none 0 0),.val (.int .i64 0)]:=⟨_,Tryz.t102,_,underlying102,by kernel_rfl,rfl,by kernel_rfl,rfl⟩
instance bAm:TY prog 104 true 6:=⟨isAgg104,sizeOf104⟩
instance aUs:eG prog 104 0 0 99:=⟨_,runUnderlying104,rfl⟩
instance aV3:eG prog 104 1 1 30:=⟨_,runUnderlying104,rfl⟩
instance aXe:eG prog 104 2 4 3:=⟨_,runUnderlying104,rfl⟩
instance bXd:eG prog 104 3 5 4:=⟨_,runUnderlying104,rfl⟩
instance bCc:eM prog 104 [.val (.pointer none),.val (.slice none 0 0),.val (.slice none 0 0),.val (.slice none 0 0),.val (.int .i64 0),.val (.bool false)]:=⟨_,zeroValue104,rfl⟩
instance aZj:Plc prog 104 [(0,1),(1,3),(4,1),(5,1)] [.val (.pointer none),.val (.slice none 0 0),.val (.slice none 0 0),.val (.slice none 0 0),.val (.int .i64 0),.val (.bool false)]:=⟨_,Tryz.t104,_,underlying104,by kernel_rfl,rfl,by kernel_rfl,rfl⟩
instance aZi:TY prog 109 false 1:=⟨isAgg109,sizeOf109⟩
instance bXp:eM prog 109 [.val (.int .u64 0)]:=⟨_,zeroValue109,rfl⟩
instance bCq:TY prog 110 false 1:=⟨isAgg110,sizeOf110⟩
instance bB1:TY prog 112 true 6:=⟨isAgg112,sizeOf112⟩
instance bI8:eG prog 112 0 0 36:=⟨_,runUnderlying112,rfl⟩
instance bJh:eG prog 112 1 1 3:=⟨_,runUnderlying112,rfl⟩
instance bI2:eG prog 112 2 2 3:=⟨_,runUnderlying112,rfl⟩
instance bIj:eG prog 112 3 3 31:=⟨_,runUnderlying112,rfl⟩
instance bH1:eG prog 112 4 4 3:=⟨_,runUnderlying112,rfl⟩
instance bIk:eG prog 112 5 5 3:=⟨_,runUnderlying112,rfl⟩
instance bJ4:eM prog 112 [.val (.slice none 0 0),.val (.int .i64 0),.val (.int .i64 0),.val (.int .i64 0),.val (.int .i64 0),.val (.int .i64 0)]:=⟨_,zeroValue112,rfl⟩
instance bJ9:Plc prog 112 [(0,1),(1,1),(2,1),(3,1),(4,1),(5,1)] [.val (.slice none 0 0),.val (.int .i64 0),.val (.int .i64 0),.val (.int .i64 0),.val (.int .i64 0),.val (.int .i64 0)]:=⟨_,Tryz.t112,_,underlying112,by kernel_rfl,rfl,by kernel_rfl,rfl⟩
instance bAj:TY prog 130 false 1:=⟨isAgg130,sizeOf130⟩
instance bB4:TY prog 131 false 1:=⟨isAgg131,sizeOf131⟩
instance aZg:TY prog 133 true 2:=⟨isAgg133,sizeOf133⟩
instance bJa:eG prog 133 0 0 131:=⟨_,runUnderlying133,rfl⟩
instance bIt:eG prog 133 1 1 23:=⟨_,runUnderlying133,rfl⟩
instance bKe:eM prog 133 [.val (.pointer none),.val (.slice none 0 0)]:=⟨_,zeroValue133,rfl⟩
instance bKa:Plc prog 133 [(0,1),(1,1)] [.val (.pointer none),.val (.slice none 0 0)]:=⟨_,Tryz.t133,_,underlying133,by kernel_rfl,rfl,by kernel_rfl,rfl⟩
instance bCl:TY prog 135 true 3:=⟨isAgg135,sizeOf135⟩
instance aWr:eG prog 135 0 0 133:=⟨_,runUnderlying135,rfl⟩
instance aWm:eG prog 135 1 2 3:=⟨_,runUnderlying135,rfl⟩
instance bA2:eM prog 135 [.val (.pointer none),.val (.slice none 0 0),.val (.int .i64 0)]:=⟨_,zeroValue135,rfl⟩
instance bAa:Plc prog 135 [(0,2),(2,1)] [.val (.pointer none),.val (.slice none 0 0),.val (.int .i64 0)]:=⟨_,Tryz.t135,_,underlying135,by kernel_rfl,rfl,by kernel_rfl,rfl⟩
instance bAh:TY prog 141 true 7:=⟨isAgg141,sizeOf141⟩
instance aXi:eG prog 141 0 0 4:=⟨_,runUnderlying141,rfl⟩
instance aUe:eG prog 141 1 1 75:=⟨_,runUnderlying141,rfl⟩
instance bHm:eG prog 141 2 3 73:=⟨_,runUnderlying141,rfl⟩
instance bA4:eM prog 141 [.val (.bool false),.val (.string ⟨#[]⟩),.val (.slice none 0 0),.val (.int .i64 0),.val (.int .i64 0),.val (.string ⟨#[]⟩),.val (.slice none 0 0)]:=⟨_,zeroValue141,rfl⟩
instance bBm:Plc prog 141 [(0,1),(1,2),(3,4)] [.val (.bool false),.val (.string ⟨#[]⟩),.val (.slice none 0 0),.val (.int .i64 0),.val (.int .i64 0),.val (.string ⟨#[]⟩),.val (.slice none 0 0)]:=⟨_,Tryz.t141,_,underlying141,by kernel_rfl,rfl,by kernel_rfl,rfl⟩
instance bCj:TY prog 142 false 1:=⟨isAgg142,sizeOf142⟩
instance bAz:eM prog 142 [.val (.int .i64 0)]:=⟨_,zeroValue142,rfl⟩
instance bA0:TY prog 148 false 1:=⟨isAgg148,sizeOf148⟩
instance bJp:TSl prog 148 180:=⟨runUnderlying148⟩
instance aZx:eM prog 148 [.val (.slice none 0 0)]:=⟨_,zeroValue148,rfl⟩
instance aZ7:TY prog 150 true 4:=⟨isAgg150,sizeOf150⟩
instance bH2:eG prog 150 0 0 22:=⟨_,runUnderlying150,rfl⟩
instance bJm:eG prog 150 1 1 27:=⟨_,runUnderlying150,rfl⟩
instance bIi:eG prog 150 2 2 148:=⟨_,runUnderlying150,rfl⟩
instance bI4:eG prog 150 3 3 3:=⟨_,runUnderlying150,rfl⟩
instance bJz:eM prog 150 [.val (.slice none 0 0),.val (.slice none 0 0),.val (.slice none 0 0),.val (.int .i64 0)]:=⟨_,zeroValue150,rfl⟩
instance bKx:Plc prog 150 [(0,1),(1,1),(2,1),(3,1)] [.val (.slice none 0 0),.val (.slice none 0 0),.val (.slice none 0 0),.val (.int .i64 0)]:=⟨_,Tryz.t150,_,underlying150,by kernel_rfl,rfl,by kernel_rfl,rfl⟩
instance bB8:TY prog 168 false 1:=⟨isAgg168,sizeOf168⟩
instance bCf:TY prog 171 false 1:=⟨isAgg171,sizeOf171⟩
instance bXe:TSl prog 171 175:=⟨runUnderlying171⟩
instance bK1:eM prog 171 [.val (.slice none 0 0)]:=⟨_,zeroValue171,rfl⟩
instance bAc:TY prog 175 true 3:=⟨isAgg175,sizeOf175⟩
instance aUz:eG prog 175 0 0 9:=⟨_,runUnderlying175,rfl⟩
instance aWl:eG prog 175 1 1 3:=⟨_,runUnderlying175,rfl⟩
instance aWy:eG prog 175 2 2 3:=⟨_,runUnderlying175,rfl⟩
instance aZf:eM prog 175 [.val (.string ⟨#[]⟩),.val (.int .i64 0),.val (.int .i64 0)]:=⟨_,zeroValue175,rfl⟩
instance bBi:Plc prog 175 [(0,1),(1,1),(2,1)] [.val (.string ⟨#[]⟩),.val (.int .i64 0),.val (.int .i64 0)]:=⟨_,Tryz.t175,_,underlying175,by kernel_rfl,rfl,by kernel_rfl,rfl⟩
instance bCb:TY prog 178 false 1:=⟨isAgg178,sizeOf178⟩
instance bXf:TSl prog 178 216:=⟨runUnderlying178⟩
instance bJ1:eM prog 178 [.val (.slice none 0 0)]:=⟨_,zeroValue178,rfl⟩
instance bAg:TY prog 180 true 5:=⟨isAgg180,sizeOf180⟩
instance aV1:eG prog 180 0 0 9:=⟨_,runUnderlying180,rfl⟩
instance aU1:eG prog 180 1 1 3:=⟨_,runUnderlying180,rfl⟩
instance aVd:eG prog 180 2 2 3:=⟨_,runUnderlying180,rfl⟩
instance aUb:eG prog 180 3 3 3:=⟨_,runUnderlying180,rfl⟩
instance bXc:eG prog 180 4 4 178:=⟨_,runUnderlying180,rfl⟩
instance bA9:eM prog 180 [.val (.string ⟨#[]⟩),.val (.int .i64 0),.val (.int .i64 0),.val (.int .i64 0),.val (.slice none 0 0)]:=⟨_,zeroValue180,rfl⟩
instance aZv:Plc prog 180 [(0,1),(1,1),(2,1),(3,1),(4,1)] [.val (.string ⟨#[]⟩),.val (.int .i64 0),.val (.int .i64 0),.val (.int .i64 0),.val (.slice none 0 0)]:=⟨_,Tryz.t180,_,underlying180,by kernel_rfl,rfl,by kernel_rfl,rfl⟩
instance bA7:TY prog 189 false 1:=⟨isAgg189,sizeOf189⟩
instance bKd:eM prog 189 [.val (.int .u64 0)]:=⟨_,zeroValue189,rfl⟩
instance bAq:TY prog 199 false 1:=⟨isAgg199,sizeOf199⟩
instance bB5:TY prog 208 false 1:=⟨isAgg208,sizeOf208⟩
instance bBg:TY prog 210 true 10:=⟨isAgg210,sizeOf210⟩
instance bI5:eG prog 210 0 0 30:=⟨_,runUnderlying210,rfl⟩
instance bH5:eG prog 210 1 3 171:=⟨_,runUnderlying210,rfl⟩
instance bHr:eG prog 210 2 4 3:=⟨_,runUnderlying210,rfl⟩
instance bIf:eG prog 210 3 5 3:=⟨_,runUnderlying210,rfl⟩
instance bIw:eG prog 210 4 6 3:=⟨_,runUnderlying210,rfl⟩
instance bH3:eG prog 210 5 7 31:=⟨_,runUnderlying210,rfl⟩
instance bIo:eG prog 210 6 8 178:=⟨_,runUnderlying210,rfl⟩
instance bH0:eG prog 210 7 9 22:=⟨_,runUnderlying210,rfl⟩
instance bKj:eM prog 210 [.val (.slice none 0 0),.val (.slice none 0 0),.val (.slice none 0 0),.val (.slice none 0 0),.val (.int .i64 0),.val (.int .i64 0),.val (.int .i64 0),.val (.int .i64 0),.val (.slice none 0 0),.val (.slice none 0 0)]:=⟨_,zeroValue210,rfl⟩
instance bKb:Plc prog 210 [(0,3),(3,1),(4,1),(5,1),(6,1),(7,1),(8,1),(9,1)] [.val (.slice none 0 0),.val (.slice none 0 0),.val (.slice none 0 0),.val (.slice none 0 0),.val (.int .i64 0),.val (.int .i64 0),.val (.int .i64 0),.val (.int .i64 0),.val (.slice none 0 0),.val (.slice none 0 0)]:=⟨_,Tryz.t210,_,underlying210,by kernel_rfl,rfl,by kernel_rfl,rfl⟩
instance bBt:TY prog 213 true 3:=⟨isAgg213,sizeOf213⟩
instance bIp:eG prog 213 0 0 4:=⟨_,runUnderlying213,rfl⟩
instance bIg:eG prog 213 1 1 3:=⟨_,runUnderlying213,rfl⟩
instance bHv:eG prog 213 2 2 71:=⟨_,runUnderlying213,rfl⟩
instance bKi:eM prog 213 [.val (.bool false),.val (.int .i64 0),.val (.slice none 0 0)]:=⟨_,zeroValue213,rfl⟩
instance bKg:Plc prog 213 [(0,1),(1,1),(2,1)] [.val (.bool false),.val (.int .i64 0),.val (.slice none 0 0)]:=⟨_,Tryz.t213,_,underlying213,by kernel_rfl,rfl,by kernel_rfl,rfl⟩
instance aZm:TY prog 214 false 1:=⟨isAgg214,sizeOf214⟩
instance bJt:TSl prog 214 213:=⟨runUnderlying214⟩
instance bKh:eM prog 214 [.val (.slice none 0 0)]:=⟨_,zeroValue214,rfl⟩
instance bB0:TY prog 216 true 12:=⟨isAgg216,sizeOf216⟩
instance bHp:eG prog 216 0 0 3:=⟨_,runUnderlying216,rfl⟩
instance bId:eG prog 216 1 1 3:=⟨_,runUnderlying216,rfl⟩
instance bJl:eG prog 216 2 2 4:=⟨_,runUnderlying216,rfl⟩
instance bIs:eG prog 216 3 3 73:=⟨_,runUnderlying216,rfl⟩
instance bIx:eG prog 216 4 7 213:=⟨_,runUnderlying216,rfl⟩
instance bJj:eG prog 216 5 10 71:=⟨_,runUnderlying216,rfl⟩
instance bIe:eG prog 216 6 11 214:=⟨_,runUnderlying216,rfl⟩
instance bK2:eM prog 216 [.val (.int .i64 0),.val (.int .i64 0),.val (.bool false),.val (.int .i64 0),.val (.int .i64 0),.val (.string ⟨#[]⟩),.val (.slice none 0 0),.val (.bool false),.val (.int .i64 0),.val (.slice none 0 0),.val (.slice none 0 0),.val (.slice none 0 0)]:=⟨_,zeroValue216,rfl⟩
instance bKy:Plc prog 216 [(0,1),(1,1),(2,1),(3,4),(7,3),(10,1),(11,1)] [.val (.int .i64 0),.val (.int .i64 0),.val (.bool false),.val (.int .i64 0),.val (.int .i64 0),.val (.string ⟨#[]⟩),.val (.slice none 0 0),.val (.bool false),.val (.int .i64 0),.val (.slice none 0 0),.val (.slice none 0 0),.val (.slice none 0 0)]:=⟨_,Tryz.t216,_,underlying216,by kernel_rfl,rfl,by kernel_rfl,rfl⟩
instance bJw:TY prog 222 true 11:=⟨isAgg222,sizeOf222⟩
instance bJ0:TY prog 227 true 6:=⟨isAgg227,sizeOf227⟩
instance bXa:eG prog 227 0 0 4:=⟨_,runUnderlying227,rfl⟩
instance bWr:eG prog 227 1 1 4:=⟨_,runUnderlying227,rfl⟩
instance bWy:eG prog 227 2 2 4:=⟨_,runUnderlying227,rfl⟩
instance bW9:eG prog 227 3 3 4:=⟨_,runUnderlying227,rfl⟩
instance bWq:eG prog 227 4 4 4:=⟨_,runUnderlying227,rfl⟩
instance bW7:eG prog 227 5 5 4:=⟨_,runUnderlying227,rfl⟩
instance bXm:eM prog 227 [.val (.bool false),.val (.bool false),.val (.bool false),.val (.bool false),.val (.bool false),.val (.bool false)]:=⟨_,zeroValue227,rfl⟩
instance bXk:Plc prog 227 [(0,1),(1,1),(2,1),(3,1),(4,1),(5,1)] [.val (.bool false),.val (.bool false),.val (.bool false),.val (.bool false),.val (.bool false),.val (.bool false)]:=⟨_,Tryz.t227,_,underlying227,by kernel_rfl,rfl,by kernel_rfl,rfl⟩
instance bKk:TY prog 244 true 24:=⟨isAgg244,sizeOf244⟩
instance bJ5:TY prog 256 true 20:=⟨isAgg256,sizeOf256⟩
instance bKn:TY prog 257 false 1:=⟨isAgg257,sizeOf257⟩
instance bK0:eM prog 257 [.val (.int .u32 0)]:=⟨_,zeroValue257,rfl⟩
instance bKc:TY prog 258 true 65:=⟨isAgg258,sizeOf258⟩
instance bKw:TY prog 261 true 18:=⟨isAgg261,sizeOf261⟩
instance bKo:TY prog 265 false 1:=⟨isAgg265,sizeOf265⟩
instance bKp:TY prog 267 true 4:=⟨isAgg267,sizeOf267⟩
instance bI1:eG prog 267 0 0 36:=⟨_,runUnderlying267,rfl⟩
instance bIa:eG prog 267 1 1 3:=⟨_,runUnderlying267,rfl⟩
instance bI7:eG prog 267 2 2 3:=⟨_,runUnderlying267,rfl⟩
instance bHw:eG prog 267 3 3 31:=⟨_,runUnderlying267,rfl⟩
instance bKu:eM prog 267 [.val (.slice none 0 0),.val (.int .i64 0),.val (.int .i64 0),.val (.int .i64 0)]:=⟨_,zeroValue267,rfl⟩
instance bJx:Plc prog 267 [(0,1),(1,1),(2,1),(3,1)] [.val (.slice none 0 0),.val (.int .i64 0),.val (.int .i64 0),.val (.int .i64 0)]:=⟨_,Tryz.t267,_,underlying267,by kernel_rfl,rfl,by kernel_rfl,rfl⟩
instance bJ6:TY prog 271 true 32:=⟨isAgg271,sizeOf271⟩
instance bKl:TY prog 272 true 64:=⟨isAgg272,sizeOf272⟩
end
section
open Go.RowKit
instance (priority:=900) boxIn_appG{A0 R A B:List Box}{b:Nat}{T:TypeId}{cs:List AC}[h:lY R b A T cs B]:lY (A0++R) b (A0++A) T cs B:=⟨by rw [h.h,append_assoc]⟩
instance (priority:=1050) appL_app{A0 X ds r:List Box}[h:aDk X ds r]:aDk (A0++X) ds (A0++r):=⟨by rw [append_assoc,h.h]⟩
instance aS8:hP 1 1 2:=⟨rfl⟩
instance aSv:hP 1 2 3:=⟨rfl⟩
instance aSi:hP 1 3 4:=⟨rfl⟩
instance aTa:hP 1 4 5:=⟨rfl⟩
instance aTf:hP 1 5 6:=⟨rfl⟩
instance aS0:hP 2 1 3:=⟨rfl⟩
instance aSx:hP 2 2 4:=⟨rfl⟩
instance aTk:hP 2 3 5:=⟨rfl⟩
instance aT2:hP 2 4 6:=⟨rfl⟩
instance aRx:hP 2 5 7:=⟨rfl⟩
instance aTw:hP 3 1 4:=⟨rfl⟩
instance aSs:hP 3 2 5:=⟨rfl⟩
instance aSa:hP 3 3 6:=⟨rfl⟩
instance aS6:hP 3 4 7:=⟨rfl⟩
instance aRv:hP 3 5 8:=⟨rfl⟩
instance aR2:hP 4 1 5:=⟨rfl⟩
instance aSy:hP 4 2 6:=⟨rfl⟩
instance aR1:hP 4 3 7:=⟨rfl⟩
instance aSw:hP 4 4 8:=⟨rfl⟩
instance aTt:hP 4 5 9:=⟨rfl⟩
instance aSj:hP 5 1 6:=⟨rfl⟩
instance aSz:hP 5 2 7:=⟨rfl⟩
instance aTg:hP 5 3 8:=⟨rfl⟩
instance aR9:hP 5 4 9:=⟨rfl⟩
instance aTb:hP 5 5 10:=⟨rfl⟩
instance aS4:hP 6 1 7:=⟨rfl⟩
instance aT5:hP 6 2 8:=⟨rfl⟩
instance aSt:hP 6 3 9:=⟨rfl⟩
instance aS5:hP 6 4 10:=⟨rfl⟩
instance aSl:hP 6 5 11:=⟨rfl⟩
instance aSu:hP 7 1 8:=⟨rfl⟩
instance aTz:hP 7 2 9:=⟨rfl⟩
instance aTl:hP 7 3 10:=⟨rfl⟩
instance aS3:hP 7 4 11:=⟨rfl⟩
instance aR7:hP 7 5 12:=⟨rfl⟩
instance aR6:hP 8 1 9:=⟨rfl⟩
instance aTy:hP 8 2 10:=⟨rfl⟩
instance aS2:hP 8 3 11:=⟨rfl⟩
instance aR5:hP 8 4 12:=⟨rfl⟩
instance aSe:hP 8 5 13:=⟨rfl⟩
theorem jJ{bx:List Box}{rw:List bA}{Z:List Nat}{b:Nat}[h1:BIn bx b][h2:aLt bx b Z](hn:(⟨bx,rw⟩:Sto).bl.Nodup):b∈lM ⟨bx,rw⟩ Z:=kH.2 ⟨List.mem_append_left _ h1.h,h2.h (List.nodup_append.1 hn).1⟩
theorem kV{P:Program}{U:List Nat}{o:Oper}{st:AS}{x:Operand}{t e E:TypeId}{v:Value}{z n:Nat}{cs:List AC}(A:List bA){B:List bA}(ho:o.op=.call {callee:=.builtin .len,args:=#[x],argTypes:=#[t]})(hx:evA st x=some (.c (.val v)))(hrow:st.s.rows=A++⟨v,E,z,n,cs⟩::B)(hu:∀w,(underlying t).run P w=.ok (.slice e) w)(hz:0<z:=by decide):AY P U o st (.c (.val (.int .i64 n))):=
 fW rfl fun a w hs w'=>by
  obtain ⟨us,hownR,-⟩:=hs.mem.row ⟨v,E,z,n,cs⟩ (by rw [hrow];simp)
  have hown:=hownR.row hz
  have hv:∃p c,v=.slice p n c:=by
   rcases hown.2 with ⟨h1,h2⟩|⟨g,cap,cur,h1,-⟩
   ·dsimp only at h1 h2;subst h2;exact ⟨_,_,h1⟩
   exact ⟨_,_,h1⟩
  obtain ⟨p,c,rfl⟩:=hv
  simp only [execOp,ho,resolve,List.map_toArray,List.map_cons,List.map_nil,hs.val hx]
  simp [go_sem,invoke,builtin,Builtin.len_,hu,goInt]
class aL0 (bx:List Box) (Z:List Nat):Prop where h:∀z,z∈Z -> z∈bx.map Box.b
instance aTn{bx:List Box}:aL0 bx []:=⟨by simp⟩
instance aRr{bx:List Box}{z:Nat}{Z:List Nat}[h1:BIn bx z][h2:aL0 bx Z]:aL0 bx (z::Z):=⟨fun y hy=>by rcases mem_cons.1 hy with rfl|h;exact h1.h;exact h2.h _ h⟩
theorem qW{bx:List Box}{rw:List bA}{Z:List Nat}{v:Value}{E:TypeId}{z n b:Nat}{cs:List AC}[h1:aL0 bx Z](hn:(⟨bx,⟨v,E,z,n,cs⟩::rw⟩:Sto).bl.Nodup)(hb:b∈aY v):b∈lM ⟨bx,⟨v,E,z,n,cs⟩::rw⟩ Z:=by
 have h3:b∈(⟨v,E,z,n,cs⟩::rw:List bA).flatMap fun r=>aY r.v:=by simp [hb]
 refine kH.2 ⟨List.mem_append_right _ h3,fun hz=>?_⟩
 exact (List.nodup_append.1 hn).2.2 b (h1.h b hz) b h3 rfl
theorem aE1{P:Program}{ops:Array Oper}{n:Nat}{T:List Nat}{bx:List Box}{rw:List bA}{ts:List (Nat×AT)}{Q:Exit -> AS -> Prop}{l:List Oper}(i:Nat){v:Value}{E:TypeId}{z k:Nat}{cs:List AC}(hi:look ts i=some (.c (.val v)))(h:eQ P ops l ⟨n,T,⟨bx,rw⟩,(i,.c (.sl k cs))::ts⟩ Q)(hz:0<z:=by decide):eQ P ops l ⟨n,T,⟨bx,⟨v,E,z,k,cs⟩::rw⟩,ts⟩ Q:=
 uQ (yS (st:=⟨n,T,⟨bx,⟨v,E,z,k,cs⟩::rw⟩,ts⟩) (A:=[]) i hi rfl hz) h
end
section
open Go.RowKit
section
variable {P:Program}{ops:Array Oper}{U T:List Nat}{o:Oper}{n d:Nat}{bx:List Box}{rw:List bA}{ts:List (Nat×AT)}{Q:Exit -> AS -> Prop}{l:List Oper}{K:AS -> Prop}{st:AS}{t:AT}
theorem rV{s:Sto}{w:World}(hm:Mem s w){r:bA}(hr:r∈s.rows)(hn:0<r.n)(hz:0<r.z):∃g cap,r.v=.slice (some ⟨g,0,none⟩) r.n cap:=by
 obtain ⟨us,h0,-⟩:=hm.row r hr
 obtain ⟨h1,h2⟩:=h0.row hz
 rcases h2 with ⟨-,h2⟩|⟨g,cap,cur,h2,-⟩
 ·omega
 exact ⟨g,cap,h2⟩
theorem aF1(A:List bA){B:List bA}{v:Value}{E:TypeId}{z k:Nat}{cs:List AC}(hk:0<k)(h:∀g cap,v=.slice (some ⟨g,0,none⟩) k cap -> eQ P ops l ⟨n,T,⟨bx,A++⟨v,E,z,k,cs⟩::B⟩,ts⟩ Q)(hz:0<z:=by decide):eQ P ops l ⟨n,T,⟨bx,A++⟨v,E,z,k,cs⟩::B⟩,ts⟩ Q:=fun a w hs QQ hQ=>by
 obtain ⟨g,cap,hv⟩:=rV hs.mem (r:=⟨v,E,z,k,cs⟩) (by simp) hk hz
 exact h g cap hv a w hs QQ hQ
theorem aEw(A:List bA){c:Code}{B:List bA}{v:Value}{E:TypeId}{z k:Nat}{cs:List AC}(hk:0<k)(h:∀g cap,v=.slice (some ⟨g,0,none⟩) k cap -> AWp P c ⟨n,T,⟨bx,A++⟨v,E,z,k,cs⟩::B⟩,ts⟩ Q)(hz:0<z:=by decide):AWp P c ⟨n,T,⟨bx,A++⟨v,E,z,k,cs⟩::B⟩,ts⟩ Q:=fun a w hs QQ hQ=>by
 obtain ⟨g,cap,hv⟩:=rV hs.mem (r:=⟨v,E,z,k,cs⟩) (by simp) hk hz
 exact h g cap hv a w hs QQ hQ
theorem rM{E E0:TypeId}{x:Operand}{g off z zz k cap:Nat}{cs:List AC}{ag:Bool}(A:List bA){B:List bA}(ho:o.op=.load E x)(hx:evA st x=some (.c (.val (.pointer (some ⟨g,off,none⟩)))))(hrow:st.s.rows=A++⟨.slice (some ⟨g,0,none⟩) k cap,E0,zz,k,cs⟩::B)
  (hA:∀w,(isAgg E).run P w=.ok ag w) (hS:∀w,(sizeOf E).run P w=.ok z w) (hp:pk ag z cs off=some t) (hU:st.s.bl.Nodup -> g∉U):AY P U o st t:=by
 intro a w hs hU2
 obtain ⟨us,hownR,h2⟩:=hs.mem.row ⟨.slice (some ⟨g,0,none⟩) k cap,E0,zz,k,cs⟩ (by rw [hrow];simp)
 have hown:=hownR.row0 rfl
 obtain ⟨h3,h4⟩:=hown
 rcases h4 with ⟨h4,-⟩|⟨g',cap',cur,hv,-,hh,hk,hcm,hcs,htk⟩
 ·cases h4
 cases hv
 obtain ⟨v,hv,hl⟩:=pR (P:=P) (b:=g) (o:=0) hA hS h2 hp
 refine ⟨v,hv,fun w' hkp=>?_⟩
 have hlt:g<w.heap.size:=hs.mem.lt g (List.mem_append_right _ (by rw [hrow];simp [aY,Value.ownBlock]))
 have hb:=hkp.block g hlt (hU hs.mem.nodup)
 have hl2:=hl w' (fun j u hj=>by
  unfold World.cell?
  simp only [hb,hh]
  have h9:(cur.toList.take (k*zz))[j]?=some u:=by rw [htk];exact hj
  rw [List.getElem?_take] at h9
  split at h9
  ·simpa using h9
  cases h9)
 simp only [Nat.zero_add] at hl2
 simp only [execOp,ho,hs.val hx,Instr.loadAt,Instr.sureAddr,Sem.run_bind,Sem.run_pure,Result.andThen_ok]
 rw [hl2];rfl
theorem aTr{E e:TypeId}{z:Nat}(ho:o.op=.buildSlice E 0 #[])(hd:o.dst=some d)(hn:d<n)(hu:P.underlying E=some (.slice e))(hS:∀w,(sizeOf e).run P w=.ok z w)
  (h:∀g,K ⟨n,g::T,⟨bx,⟨.slice (some ⟨g,0,none⟩) 0 0,e,z,0,[]⟩::rw⟩,(d,.c (.val (.slice (some ⟨g,0,none⟩) 0 0)))::ts⟩):AO P U o ⟨n,T,⟨bx,rw⟩,ts⟩ K:=by
 intro a w hs KK QQ hK
 unfold Oper.wp
 have hrun:(execOp a.eval o).run P w=.ok (.value (.slice (some ⟨w.heap.size,0,none⟩) 0 0)) (w.alloc (.cells #[] e)):=by
  have h1:(underlying E).run P w=.ok (.slice e) w:=run_underlying hu w
  have h2:(sizeOf e).run P w=.ok z w:=hS w
  simp only [execOp,ho,Instr.buildSlice,Sem.run_bind,h1,Result.andThen_ok,h2,Nat.zero_mul]
  simp [go_sem,Instr.fill,newRow]
 rw [hrun,Oper.upon_value,hd]
 have hk:cW [] w (w.alloc (.cells #[] e)):=(cW.refl _ _).alloc _
 have hne:w.heap.size∉(⟨bx,rw⟩:Sto).bl:=fun hm=>by have h9:w.heap.size<w.heap.size:=hs.mem.lt _ hm;omega
 have hbl:(⟨bx,⟨.slice (some ⟨w.heap.size,0,none⟩) 0 0,e,z,0,[]⟩::rw⟩:Sto).bl=bx.map Box.b++w.heap.size::rw.flatMap fun r=>aY r.v:=by unfold Sto.bl;simp [aY,Value.ownBlock]
 have hsub:∀b,b∈(⟨bx,⟨.slice (some ⟨w.heap.size,0,none⟩) 0 0,e,z,0,[]⟩::rw⟩:Sto).bl -> b∈(⟨bx,rw⟩:Sto).bl∨w.heap.size <= b:=fun b hb=>by
  rw [hbl] at hb
  simp only [mem_append,mem_cons] at hb
  rcases hb with h|rfl|h
  ·exact .inl (List.mem_append_left _ h)
  ·exact .inr (Nat.le_refl _)
  exact .inl (List.mem_append_right _ h)
 have hup:Up2 (bI (⟨bx,rw⟩:Sto).bl w) (bI (⟨bx,⟨.slice (some ⟨w.heap.size,0,none⟩) 0 0,e,z,0,[]⟩::rw⟩:Sto).bl (w.alloc (.cells #[] e))):=jA hk (fun _ h=>by cases h) hsub
 have hsz:(w.alloc (.cells #[] e)).heap.size=w.heap.size+1:=by simp
 have hm:Mem ⟨bx,⟨.slice (some ⟨w.heap.size,0,none⟩) 0 0,e,z,0,[]⟩::rw⟩ (w.alloc (.cells #[] e)):=by
  refine ⟨?_,fun b hb=>?_,fun x hx=>?_,fun r hr=>?_⟩
  ·rw [hbl]
   have hnd:(bx.map Box.b++rw.flatMap fun r=>aY r.v).Nodup:=hs.mem.nodup
   rw [List.nodup_append] at hnd⊢
   refine ⟨hnd.1,List.nodup_cons.2 ⟨fun h=>hne (List.mem_append_right _ h),hnd.2.1⟩,fun a ha b hb=>?_⟩
   rcases mem_cons.1 hb with rfl|hb
   ·intro he;subst he;exact hne (List.mem_append_left _ ha)
   exact hnd.2.2 a ha b hb
  ·rw [hbl] at hb
   simp only [mem_append,mem_cons] at hb
   rw [hsz]
   rcases hb with h|rfl|h
   ·exact Nat.lt_succ_of_lt (hs.mem.lt b (List.mem_append_left _ h))
   ·exact Nat.lt_succ_self _
   exact Nat.lt_succ_of_lt (hs.mem.lt b (List.mem_append_right _ h))
  ·obtain ⟨us,e1,e2⟩:=hs.mem.box x hx
   exact ⟨us,by rw [hk.block _ (hs.mem.lt _ (List.mem_append_left _ (List.mem_map.2 ⟨x,hx,rfl⟩))) (by simp)];exact e1,e2.mono hup⟩
  rcases mem_cons.1 hr with rfl|hr
  ·refine ⟨[],.inl ⟨by simp,.inr ⟨w.heap.size,0,#[],rfl,Nat.zero_le _,?_,Nat.le_refl _,Nat.zero_le _,by simp,by simp⟩⟩,.nil _⟩
   show (w.heap.push _)[w.heap.size]?=_
   simp
  obtain ⟨us,e1,e2⟩:=hs.mem.row r hr
  exact ⟨us,e1.keep fun g hg=>hk.block g (hs.mem.lt g (List.mem_append_right _ (List.mem_flatMap.2 ⟨r,hr,hg⟩))) (by simp),e2.mono hup⟩
 have s1:=hs.step (st:=⟨n,T,⟨bx,rw⟩,ts⟩) (w.heap.size::T) (hk.mono (by simp)) hm hsub
 refine hK _ _ _ (h _) (s1.put (v:=.slice (some ⟨w.heap.size,0,none⟩) 0 0) hn (.c _ _ (.val _ rfl))) ⟨hk.mono (by simp),hk.mono (by simp),hsub,fun b hb=>?_⟩ (hk.mono (by simp))
 rcases mem_cons.1 hb with rfl|hb
 ·exact .inr (Nat.le_refl _)
 exact .inl hb
end
end
section
open Go.RowKit
theorem kB{a b:Bool}(h:a=true↔b=true):Ending.returned (.bool a)=.returned (.bool b):=by rw [Bool.eq_iff_iff.2 h]
theorem gG{k:IntKind}{a b:Int}(h:a=b):Ending.returned (.int k a)=.returned (.int k b):=by rw [h]
theorem sB(c:UInt8)(w:World):
  Calls prog 94 #[.int .u8 c.toNat] w fun e w'=>e=.returned (.bool (isSp c)) /\ w=w':=by
 unfold isSp
 generalize (c.toNat:Int)=n
 go_enter func94,Tryz.ntmps94
 go_wp2
 all_goals (go_ret;refine ⟨kB ?_,rfl⟩;simp;try omega)
theorem qG(c:UInt8)(w:World):
  Calls prog 97 #[.int .u8 c.toNat] w fun e w'=>e=.returned (.bool (fU c)) /\ w=w':=by
 unfold fU
 generalize (c.toNat:Int)=n
 go_enter func97,Tryz.ntmps97
 go_wp2
 all_goals (go_ret;refine ⟨kB ?_,rfl⟩;simp;try omega)
theorem oV(c:UInt8)(w:World):
  Calls prog 99 #[.int .u8 c.toNat] w fun e w'=>e=.returned (.bool (cD c)) /\ w=w':=by
 unfold cD
 generalize (c.toNat:Int)=n
 go_enter func99,Tryz.ntmps99
 go_wp2
 all_goals (go_ret;refine ⟨kB ?_,rfl⟩;simp;try omega)
theorem tC(c:UInt8)(w:World):
  Calls prog 139 #[.int .u8 c.toNat] w fun e w'=>e=.returned (.bool (cT c)) /\ w=w':=by
 go_enter func139,Tryz.ntmps139
 go_wp2_with (first|(go_at_call 97;refine (qG _ _).mono ?_;rintro e w' ⟨rfl,rfl⟩)|(go_at_call 99;refine (oV _ _).mono ?_;rintro e w' ⟨rfl,rfl⟩))
 all_goals (go_ret;refine ⟨kB ?_,rfl⟩;simp [cT, *])
theorem oK(s p:ByteArray)(w:World):
  Calls prog 95 #[.string s,.string p] w fun e w'=>e=.returned (.bool (Lib.hasPrefix s.data.toList p.data.toList)) /\ w=w':=
 (Tryz.strings_HasPrefix s p w).mono fun _ _ h=>⟨h.1,h.2.symm⟩
theorem oL(s:ByteArray)(c:Int)(w:World):
  Calls prog 96 #[.string s,.int .u8 c] w fun e w'=>e=.returned (.int .i64 (Lib.indexByte s.data.toList c.toNat.toUInt8)) /\ w=w':=
 (Tryz.strings_IndexByte s c w).mono fun _ _ h=>⟨h.1,h.2.symm⟩
theorem uH(s:ByteArray)(k0:Nat)(w:World)(hs:s.size <= 9223372036854775807)(hk:k0 <= s.size):
  Calls prog 63 #[.string s,.int .i64 k0] w fun e w'=>e=.returned (.int .i64 (bF s.data.toList k0)) /\ w=w':=by
 have hlen:s.data.toList.length=s.size:=rfl
 go_enter func63,Tryz.ntmps63
 go_wp2_with fail
 go_loop [1,5] (fun v _=>∃k:Nat,k <= s.size /\ v=.int .i64 k /\ bF s.data.toList k=bF s.data.toList k0) (fun v _=>s.size-(intOf v).toNat)
 case atStart=>exact ⟨k0,hk,rfl,rfl⟩
 case round=>
  obtain ⟨k,hk,rfl,hr⟩:=hrel
  have HR:=Lib.hid hr;clear hr
  have HL:=Lib.hid hlen;clear hlen
  by_cases hlt:k<s.size
  ·by_cases hsp:isSp s[k]=true
   ·go_wp2_with (first|(go_at_call 94;refine (sB _ _).mono ?_;rintro e w' ⟨rfl,rfl⟩))
    go_round
    case rel=>exact ⟨k+1,by omega,by go_num,(aGh _ _ (by rw [HL.out];exact hlt) hsp).trans HR.out⟩
    case measure=>simp [intOf];omega
   have hsp':isSp s[k]=false:=by simpa using hsp
   clear hsp
   by_cases hc:Lib.hasPrefix (s.data.toList.drop k) [47,47]=true
   ·have hcom:=aJa _ _ (by rw [HL.out];exact hlt) hc
    have HC:=Lib.hid hcom;clear hcom
    have htk:List.take (s.size-k) (List.drop k s.data.toList)=List.drop k s.data.toList:=take_of_length_le (by simp)
    by_cases hn:Lib.indexByte (s.data.toList.drop k) 10<0
    ·go_wp2_with (first|(go_at_call 94;refine (sB _ _).mono ?_;rintro e w' ⟨rfl,rfl⟩)|(go_at_call 95;refine (oK _ _ _).mono ?_;rintro e w' ⟨rfl,rfl⟩)|(go_at_call 96;refine (oL _ _ _).mono ?_;rintro e w' ⟨rfl,rfl⟩))
     go_ret
     exact ⟨gG (by rw [←HR.out,HC.out.1 hn,HL.out]),rfl⟩
    obtain ⟨j,hj⟩:∃j:Nat,Lib.indexByte (s.data.toList.drop k) 10=j:=⟨(Lib.indexByte (s.data.toList.drop k) 10).toNat,by omega⟩
    obtain ⟨h1,h2,h3⟩:=HC.out.2 j hj
    rw [HL.out] at h2
    have H1:=Lib.hid h1;clear h1
    clear hn
    go_wp2_with (first|(go_at_call 94;refine (sB _ _).mono ?_;rintro e w' ⟨rfl,rfl⟩)|(go_at_call 95;refine (oK _ _ _).mono ?_;rintro e w' ⟨rfl,rfl⟩)|(go_at_call 96;refine (oL _ _ _).mono ?_;rintro e w' ⟨rfl,rfl⟩))
    go_round
    case rel=>exact ⟨k+j,by omega,by go_num,H1.out.trans HR.out⟩
    case measure=>simp [intOf];omega
   have hc':Lib.hasPrefix (s.data.toList.drop k) [47,47]=false:=by simpa using hc
   have hstop:bF s.data.toList k=k:=by
    refine zX _ _ (by rw [HL.out];exact hlt) hsp' ?_
    rintro ⟨h1,h2⟩
    apply hc
    rw [sZ,dR _ _ (by rw [HL.out];exact hlt),h1]
    cases hd:s.data.toList.drop (k+1) with
    |nil=>simp [hd] at h2
    |cons a r=>rw [hd] at h2;simp at h2;subst h2;exact ⟨r,rfl⟩
   have HS:=Lib.hid hstop;clear hstop
   clear hc
   have htk:List.take (s.size-k) (List.drop k s.data.toList)=List.drop k s.data.toList:=take_of_length_le (by simp)
   go_wp2_with (first|(go_at_call 94;refine (sB _ _).mono ?_;rintro e w' ⟨rfl,rfl⟩)|(go_at_call 95;refine (oK _ _ _).mono ?_;rintro e w' ⟨rfl,rfl⟩))
   go_ret
   exact ⟨gG (by rw [←HR.out,HS.out]),rfl⟩
  go_wp2_with fail
  go_ret
  exact ⟨gG (by rw [←HR.out,aA5 _ _ (by rw [HL.out];omega),HL.out];omega),rfl⟩
theorem lH(p:UInt8 -> Bool)(l:List UInt8)(k:Nat)(hk:k<l.length)(h:(l.takeWhile p).length=k+((l.drop k).takeWhile p).length):
  (p l[k]=true -> (l.takeWhile p).length=(k+1)+((l.drop (k+1)).takeWhile p).length) /\ (p l[k]=false -> (l.takeWhile p).length=k):=by
 rw [dR l k hk] at h
 refine ⟨fun hp=>?_,fun hp=>?_⟩
 ·rw [List.takeWhile_cons_of_pos hp] at h;simp at h;omega
 rw [List.takeWhile_cons_of_neg (by simp [hp])] at h;simpa using h
theorem aI6(s:ByteArray)(w:World)(hs:s.size <= 9223372036854775807):
  Calls prog 138 #[.string s,.func (.func 99) #[] #[]] w fun e w'=>e=.returned (.int .i64 (s.data.toList.takeWhile cD).length) /\ w=w':=by
 have HL:=Lib.hid (show s.data.toList.length=s.size from rfl)
 go_enter func138,Tryz.ntmps138
 go_wp2_with fail
 go_loop [5] (fun v=>∃k:Nat,k <= s.size /\ v=.int .i64 k /\ (s.data.toList.takeWhile cD).length=k+((s.data.toList.drop k).takeWhile cD).length) (fun v=>s.size-(intOf v).toNat)
 case atStart=>exact ⟨0,by omega,rfl,by simp⟩
 case round=>
  obtain ⟨k,hk,rfl,hr⟩:=hrel
  by_cases hlt:k<s.size
  ·have HT:=Lib.hid (lH cD s.data.toList k (by rw [HL.out];exact hlt) hr);clear hr
   by_cases hp:cD s[k]=true
   ·go_wp2_with (first|(go_at_call 99;refine (oV _ _).mono ?_;rintro e w' ⟨rfl,rfl⟩))
    go_round
    case rel=>exact ⟨k+1,by omega,by go_num,HT.out.1 hp⟩
    case measure=>simp [intOf];omega
   have hp':cD s[k]=false:=by simpa using hp
   clear hp
   go_wp2_with (first|(go_at_call 99;refine (oV _ _).mono ?_;rintro e w' ⟨rfl,rfl⟩))
   go_ret
   exact ⟨gG (by rw [HT.out.2 hp']),rfl⟩
  have HR:=Lib.hid hr;clear hr
  go_wp2_with fail
  go_ret
  refine ⟨gG ?_,rfl⟩
  rw [HR.out,List.drop_eq_nil_of_le (by rw [HL.out];omega)];rfl
theorem aM0(s:ByteArray)(w:World)(hs:s.size <= 9223372036854775807):
  Calls prog 138 #[.string s,.func (.func 139) #[] #[]] w fun e w'=>e=.returned (.int .i64 (s.data.toList.takeWhile cT).length) /\ w=w':=by
 have HL:=Lib.hid (show s.data.toList.length=s.size from rfl)
 go_enter func138,Tryz.ntmps138
 go_wp2_with fail
 go_loop [5] (fun v=>∃k:Nat,k <= s.size /\ v=.int .i64 k /\ (s.data.toList.takeWhile cT).length=k+((s.data.toList.drop k).takeWhile cT).length) (fun v=>s.size-(intOf v).toNat)
 case atStart=>exact ⟨0,by omega,rfl,by simp⟩
 case round=>
  obtain ⟨k,hk,rfl,hr⟩:=hrel
  by_cases hlt:k<s.size
  ·have HT:=Lib.hid (lH cT s.data.toList k (by rw [HL.out];exact hlt) hr);clear hr
   by_cases hp:cT s[k]=true
   ·go_wp2_with (first|(go_at_call 139;refine (tC _ _).mono ?_;rintro e w' ⟨rfl,rfl⟩))
    go_round
    case rel=>exact ⟨k+1,by omega,by go_num,HT.out.1 hp⟩
    case measure=>simp [intOf];omega
   have hp':cT s[k]=false:=by simpa using hp
   clear hp
   go_wp2_with (first|(go_at_call 139;refine (tC _ _).mono ?_;rintro e w' ⟨rfl,rfl⟩))
   go_ret
   exact ⟨gG (by rw [HT.out.2 hp']),rfl⟩
  have HR:=Lib.hid hr;clear hr
  go_wp2_with fail
  go_ret
  refine ⟨gG ?_,rfl⟩
  rw [HR.out,List.drop_eq_nil_of_le (by rw [HL.out];omega)];rfl
structure TB (P:Program) (E e:TypeId) (i:TypeInfo) (z bytes:Nat) (zv:Value):Prop where
  hu:P.underlying E=some (.slice e)
  hi:P.info? e=some i
  hz:i.zero=some zv
  hsz:i.size=z
  hby:i.bytes=bytes
  hzs:zv.cells.size=z
  h0:0<z
structure ZB (P:Program) (E e:TypeId) (i:TypeInfo) (len:Nat) (z:Value) (zc:List AC):Prop where
  hu:P.underlying E=some (.slice e)
  hi:P.info? e=some i
  hz:i.zero=some z
  hsmall:¬len*i.size>2 ^ 24
  hpos:¬len*i.size=0
  hzc:(((Array.range (len*i.size)).map (z.cells[·% z.cells.size]!)).toList.all (·.oneCell'))=true
  hzr:((Array.range (len*i.size)).map (z.cells[·% z.cells.size]!)).toList.map .val=zc
section
variable {P:Program}{U:List Nat}{o:Oper}{n d:Nat}{T:List Nat}{s:Sto}{ts:List (Nat×AT)}{bx:List Box}{K:AS -> Prop}
theorem bDm{E e:TypeId}{i:TypeInfo}{x y:Operand}{k m z bytes:Nat}{v zv:Value}{cs ds r:List AC}(A:List bA)(t:TB P E e i z bytes zv){B:List bA}(h0:(o.op,o.dst,Nat.blt d n,evA ⟨n,T,⟨bx,A++⟨v,e,z,k,cs⟩::B⟩,ts⟩ x,evA ⟨n,T,⟨bx,A++⟨v,e,z,k,cs⟩::B⟩,ts⟩ y)=(.call {callee:=.builtin .append,args:=#[x,y],argTypes:=#[E,E]},some d,true,some (.c (.val v)),some (.c (.sl m ds))))
    (hm:ds.length=m*z) (hm0:0<m) (hlen:k+m <= maxLen) (hbytes:(k+m)*bytes <= 140737488355328) {N:Nat} (hN:k+m=N) (hU:(⟨bx,A++⟨v,e,z,k,cs⟩::B⟩:Sto).bl.Nodup -> ∀b,b∈aY v -> b∈U) (hT:∀b,b∈aY v -> b∈T) (hr:cs++ds=r)
    (h:∀v',K ⟨n,aY v'++T,⟨bx,A++⟨v',e,z,N,r⟩::B⟩,(d,.c (.val v'))::ts⟩):AO P U o ⟨n,T,⟨bx,A++⟨v,e,z,k,cs⟩::B⟩,ts⟩ K:=by
  simp only [Prod.mk.injEq] at h0
  exact eV A i bytes h0.1 h0.2.1 (Nat.le_of_ble_eq_true h0.2.2.1) h0.2.2.2.1 h0.2.2.2.2 t.hu t.hi t.hz t.hsz t.hby t.hzs t.h0 hm hm0 hlen hbytes hN hU hT hr h
theorem bDk{E e:TypeId}{i:TypeInfo}{z:Value}{len:Nat}{parts:Array (Nat×Operand)}{ps:List (Nat×AT)}{zc r:List AC}(t:ZB P E e i len z zc)(h0:(o.op,o.dst,Nat.blt d n)=(.buildSlice E len parts,some d,true))(hps:EvP ⟨n,T,s,ts⟩ parts.toList ps)
    (hf:qO (fun k=>some (k*i.size,i.size)) zc ps=some r) (h:K ⟨n,T,s,(d,.c (.sl len r))::ts⟩):AO P U o ⟨n,T,s,ts⟩ K:=by
  simp only [Prod.mk.injEq] at h0
  exact wbs i zc h0.1 h0.2.1 (Nat.le_of_ble_eq_true h0.2.2) hps t.hu t.hi t.hz t.hsmall t.hpos t.hzc t.hzr hf h
end
def bWj:=(⟨underlying76,(by kernel_rfl),rfl,rfl,rfl,rfl,(by decide)⟩:TB prog 76 141 Tryz.t141 7 104 _)
def bN3:=(⟨underlying23,(by kernel_rfl),rfl,rfl,rfl,rfl,(by decide)⟩:TB prog 23 5 Tryz.t5 1 1 _)
def bWk:=(⟨underlying28,(by kernel_rfl),rfl,rfl,rfl,rfl,(by decide)⟩:TB prog 28 58 Tryz.t58 3 64 _)
def bWh:=(⟨underlying27,(by kernel_rfl),rfl,rfl,rfl,rfl,(by decide)⟩:TB prog 27 70 Tryz.t70 3 32 _)
def bWo:=(⟨underlying56,(by kernel_rfl),rfl,rfl,rfl,rfl,(by decide)⟩:TB prog 56 78 Tryz.t78 11 192 _)
def bDn:=(⟨underlying26,(by kernel_rfl),rfl,rfl,rfl,rfl,(by decide)⟩:TB prog 26 86 Tryz.t86 2 24 _)
def bDt:=(⟨underlying55,(by kernel_rfl),rfl,rfl,rfl,rfl,(by decide)⟩:TB prog 55 89 Tryz.t89 2 24 _)
def bWi:=(⟨underlying50,(by kernel_rfl),rfl,rfl,rfl,rfl,(by decide)⟩:TB prog 50 9 Tryz.t9 1 16 _)
def zb0:=(⟨underlying76,(by kernel_rfl),rfl,(by decide),(by decide),(by kernel_rfl),(by kernel_rfl)⟩:ZB prog 76 141 Tryz.t141 1 _ [.val (.bool false),.val (.string ⟨#[]⟩),.val (.slice none 0 0),.val (.int .i64 0),.val (.int .i64 0),.val (.string ⟨#[]⟩),.val (.slice none 0 0)])
def zb4:=(⟨underlying22,(by kernel_rfl),rfl,(by decide),(by decide),(by kernel_rfl),(by kernel_rfl)⟩:ZB prog 22 3 Tryz.t3 1 _ [.val (.int .i64 0)])
def zb5:=(⟨underlying23,(by kernel_rfl),rfl,(by decide),(by decide),(by kernel_rfl),(by kernel_rfl)⟩:ZB prog 23 5 Tryz.t5 2 _ [.val (.int .u8 0),.val (.int .u8 0)])
def zb6:=(⟨underlying23,(by kernel_rfl),rfl,(by decide),(by decide),(by kernel_rfl),(by kernel_rfl)⟩:ZB prog 23 5 Tryz.t5 1 _ [.val (.int .u8 0)])
def zb7:=(⟨underlying28,(by kernel_rfl),rfl,(by decide),(by decide),(by kernel_rfl),(by kernel_rfl)⟩:ZB prog 28 58 Tryz.t58 1 _ [.val (.string ⟨#[]⟩),.val (.slice none 0 0),.val (.slice none 0 0)])
def zb8:=(⟨underlying27,(by kernel_rfl),rfl,(by decide),(by decide),(by kernel_rfl),(by kernel_rfl)⟩:ZB prog 27 70 Tryz.t70 1 _ [.val (.string ⟨#[]⟩),.val (.bool false),.val (.int .i64 0)])
def zb9:=(⟨underlying71,(by kernel_rfl),rfl,(by decide),(by decide),(by kernel_rfl),(by kernel_rfl)⟩:ZB prog 71 73 Tryz.t73 2 _ [.val (.int .i64 0),.val (.int .i64 0),.val (.string ⟨#[]⟩),.val (.slice none 0 0),.val (.int .i64 0),.val (.int .i64 0),.val (.string ⟨#[]⟩),.val (.slice none 0 0)])
def bDs:=(⟨underlying71,(by kernel_rfl),rfl,(by decide),(by decide),(by kernel_rfl),(by kernel_rfl)⟩:ZB prog 71 73 Tryz.t73 1 _ [.val (.int .i64 0),.val (.int .i64 0),.val (.string ⟨#[]⟩),.val (.slice none 0 0)])
def bDu:=(⟨underlying56,(by kernel_rfl),rfl,(by decide),(by decide),(by kernel_rfl),(by kernel_rfl)⟩:ZB prog 56 78 Tryz.t78 1 _ [.val (.int .i64 0),.val (.string ⟨#[]⟩),.val (.int .i64 0),.val (.int .i64 0),.val (.string ⟨#[]⟩),.val (.slice none 0 0),.val (.string ⟨#[]⟩),.val (.slice none 0 0),.val (.slice none 0 0),.val (.slice none 0 0),.val (.slice none 0 0)])
def bHf:=(⟨underlying26,(by kernel_rfl),rfl,(by decide),(by decide),(by kernel_rfl),(by kernel_rfl)⟩:ZB prog 26 86 Tryz.t86 1 _ [.val (.string ⟨#[]⟩),.val (.int .i64 0)])
def bLv:=(⟨underlying55,(by kernel_rfl),rfl,(by decide),(by decide),(by kernel_rfl),(by kernel_rfl)⟩:ZB prog 55 89 Tryz.t89 1 _ [.val (.string ⟨#[]⟩),.val (.bool false)])
def bDo:=(⟨underlying50,(by kernel_rfl),rfl,(by decide),(by decide),(by kernel_rfl),(by kernel_rfl)⟩:ZB prog 50 9 Tryz.t9 5 _ [.val (.string ⟨#[]⟩),.val (.string ⟨#[]⟩),.val (.string ⟨#[]⟩),.val (.string ⟨#[]⟩),.val (.string ⟨#[]⟩)])
def bDw:=(⟨underlying50,(by kernel_rfl),rfl,(by decide),(by decide),(by kernel_rfl),(by kernel_rfl)⟩:ZB prog 50 9 Tryz.t9 3 _ [.val (.string ⟨#[]⟩),.val (.string ⟨#[]⟩),.val (.string ⟨#[]⟩)])
def bGy:=(⟨underlying50,(by kernel_rfl),rfl,(by decide),(by decide),(by kernel_rfl),(by kernel_rfl)⟩:ZB prog 50 9 Tryz.t9 2 _ [.val (.string ⟨#[]⟩),.val (.string ⟨#[]⟩)])
def bSq:=(⟨underlying50,(by kernel_rfl),rfl,(by decide),(by decide),(by kernel_rfl),(by kernel_rfl)⟩:ZB prog 50 9 Tryz.t9 1 _ [.val (.string ⟨#[]⟩)])
end
end Go.Proofs.YtojinfngbbajgaaGreatDoor
