import Derived.Test.YtojinfngbbajgaaGreatDoorK4J
import Derived.Test.YtojinfngbbajgaaGreatDoorProg
import Derived.Test.YtojinfngbbajgaaGreatDoorRows
import Derived.Test.YtojinfngbbajgaaGreatDoorShelfJ
import Derived.Test.YtojinfngbbajgaaGreatDoorC1J
import Derived.WalkKit
import Derived.WalkSpells
import Derived.WalkLawsBesides
import Derived.Handy
import Derived.Lib.Hide
set_option linter.all false
set_option synthInstance.maxHeartbeats 1000000
set_option synthInstance.maxSize 1000000
set_option maxHeartbeats 1600000
set_option maxRecDepth 100000
namespace Go.Proofs.YtojinfngbbajgaaGreatDoor
open Go.Proofs.Tryz
open List (length_append length_cons length_nil mem_append mem_cons not_mem_nil append_assoc getElem_mem take_of_length_le)
section
open Go.RowKit
instance bCw:TY prog 2 false 1:=⟨isAgg2,sizeOf2⟩
instance bCx:eM prog 2 [.val (.int .i64 0)]:=⟨_,zeroValue2,rfl⟩
instance bCu:TY prog 3 false 1:=⟨isAgg3,sizeOf3⟩
instance bC3:eM prog 3 [.val (.int .i64 0)]:=⟨_,zeroValue3,rfl⟩
instance bCr:TY prog 4 false 1:=⟨isAgg4,sizeOf4⟩
instance bDa:eM prog 4 [.val (.bool false)]:=⟨_,zeroValue4,rfl⟩
instance bC0:TY prog 5 false 1:=⟨isAgg5,sizeOf5⟩
instance bCt:eM prog 5 [.val (.int .u8 0)]:=⟨_,zeroValue5,rfl⟩
instance bDc:TY prog 9 false 1:=⟨isAgg9,sizeOf9⟩
instance aXn:aRy prog 9:=⟨runUnderlying9⟩
instance bC6:eM prog 9 [.val (.string ⟨#[]⟩)]:=⟨_,zeroValue9,rfl⟩
instance bCz:TY prog 12 false 1:=⟨isAgg12,sizeOf12⟩
instance bDb:eM prog 12 [.val (.int .u64 0)]:=⟨_,zeroValue12,rfl⟩
instance bC8:TY prog 19 true 1:=⟨isAgg19,sizeOf19⟩
instance aX2:eG prog 19 0 0 17:=⟨_,runUnderlying19,rfl⟩
instance bCv:eM prog 19 [.val (.pointer none)]:=⟨_,zeroValue19,rfl⟩
instance bCy:Plc prog 19 [(0,1)] [.val (.pointer none)]:=⟨_,Tryz.t19,_,underlying19,by kernel_rfl,rfl,by kernel_rfl,rfl⟩
instance bC4:TY prog 21 false 1:=⟨isAgg21,sizeOf21⟩
instance bC7:eM prog 21 [.val (.int .i32 0)]:=⟨_,zeroValue21,rfl⟩
instance bC5:TY prog 22 false 1:=⟨isAgg22,sizeOf22⟩
instance bBu:TSl prog 22 3:=⟨runUnderlying22⟩
instance bDe:eM prog 22 [.val (.slice none 0 0)]:=⟨_,zeroValue22,rfl⟩
instance bC2:TY prog 23 false 1:=⟨isAgg23,sizeOf23⟩
instance bAd:TSl prog 23 5:=⟨runUnderlying23⟩
instance bDd:eM prog 23 [.val (.slice none 0 0)]:=⟨_,zeroValue23,rfl⟩
instance aZ8:TY prog 26 false 1:=⟨isAgg26,sizeOf26⟩
instance aX8:TSl prog 26 86:=⟨runUnderlying26⟩
instance bB9:eM prog 26 [.val (.slice none 0 0)]:=⟨_,zeroValue26,rfl⟩
instance bB6:TY prog 27 false 1:=⟨isAgg27,sizeOf27⟩
instance bXh:TSl prog 27 70:=⟨runUnderlying27⟩
instance bAb:eM prog 27 [.val (.slice none 0 0)]:=⟨_,zeroValue27,rfl⟩
instance aZz:TY prog 28 false 1:=⟨isAgg28,sizeOf28⟩
instance aYp:TSl prog 28 58:=⟨runUnderlying28⟩
instance bAs:eM prog 28 [.val (.slice none 0 0)]:=⟨_,zeroValue28,rfl⟩
instance bA3:TY prog 30 true 3:=⟨isAgg30,sizeOf30⟩
instance bW5:eG prog 30 0 0 26:=⟨_,runUnderlying30,rfl⟩
instance bWz:eG prog 30 1 1 27:=⟨_,runUnderlying30,rfl⟩
instance bW8:eG prog 30 2 2 28:=⟨_,runUnderlying30,rfl⟩
instance bCn:eM prog 30 [.val (.slice none 0 0),.val (.slice none 0 0),.val (.slice none 0 0)]:=⟨_,zeroValue30,rfl⟩
instance bXl:Plc prog 30 [(0,1),(1,1),(2,1)] [.val (.slice none 0 0),.val (.slice none 0 0),.val (.slice none 0 0)]:=⟨_,Tryz.t30,_,underlying30,by kernel_rfl,rfl,by kernel_rfl,rfl⟩
instance aZh:TY prog 31 false 1:=⟨isAgg31,sizeOf31⟩
instance bAn:eM prog 31 [.val (.int .i64 0)]:=⟨_,zeroValue31,rfl⟩
instance bAx:TY prog 36 false 1:=⟨isAgg36,sizeOf36⟩
instance bXg:TSl prog 36 66:=⟨runUnderlying36⟩
instance bAk:eM prog 36 [.val (.slice none 0 0)]:=⟨_,zeroValue36,rfl⟩
instance aZc:TY prog 50 false 1:=⟨isAgg50,sizeOf50⟩
instance bJs:TSl prog 50 9:=⟨runUnderlying50⟩
instance aZd:eM prog 50 [.val (.slice none 0 0)]:=⟨_,zeroValue50,rfl⟩
instance bBs:TY prog 55 false 1:=⟨isAgg55,sizeOf55⟩
instance aYv:TSl prog 55 89:=⟨runUnderlying55⟩
instance aZ1:eM prog 55 [.val (.slice none 0 0)]:=⟨_,zeroValue55,rfl⟩
instance bBk:TY prog 56 false 1:=⟨isAgg56,sizeOf56⟩
instance aXs:TSl prog 56 78:=⟨runUnderlying56⟩
instance bA8:eM prog 56 [.val (.slice none 0 0)]:=⟨_,zeroValue56,rfl⟩
instance aZe:TY prog 58 true 3:=⟨isAgg58,sizeOf58⟩
instance bWp:eG prog 58 0 0 9:=⟨_,runUnderlying58,rfl⟩
instance bWs:eG prog 58 1 1 55:=⟨_,runUnderlying58,rfl⟩
instance bW0:eG prog 58 2 2 56:=⟨_,runUnderlying58,rfl⟩
instance bCd:eM prog 58 [.val (.string ⟨#[]⟩),.val (.slice none 0 0),.val (.slice none 0 0)]:=⟨_,zeroValue58,rfl⟩
instance bXn:Plc prog 58 [(0,1),(1,1),(2,1)] [.val (.string ⟨#[]⟩),.val (.slice none 0 0),.val (.slice none 0 0)]:=⟨_,Tryz.t58,_,underlying58,by kernel_rfl,rfl,by kernel_rfl,rfl⟩
instance bAe:TY prog 62 false 1:=⟨isAgg62,sizeOf62⟩
instance bBh:TY prog 64 true 4:=⟨isAgg64,sizeOf64⟩
instance bIu:eG prog 64 0 0 36:=⟨_,runUnderlying64,rfl⟩
instance bJi:eG prog 64 1 1 3:=⟨_,runUnderlying64,rfl⟩
instance bXb:eG prog 64 2 2 3:=⟨_,runUnderlying64,rfl⟩
instance bW3:eG prog 64 3 3 31:=⟨_,runUnderlying64,rfl⟩
instance bJy:eM prog 64 [.val (.slice none 0 0),.val (.int .i64 0),.val (.int .i64 0),.val (.int .i64 0)]:=⟨_,zeroValue64,rfl⟩
instance bKz:Plc prog 64 [(0,1),(1,1),(2,1),(3,1)] [.val (.slice none 0 0),.val (.int .i64 0),.val (.int .i64 0),.val (.int .i64 0)]:=⟨_,Tryz.t64,_,underlying64,by kernel_rfl,rfl,by kernel_rfl,rfl⟩
instance bBo:TY prog 66 true 4:=⟨isAgg66,sizeOf66⟩
instance bH6:eG prog 66 0 0 3:=⟨_,runUnderlying66,rfl⟩
instance bIr:eG prog 66 1 1 9:=⟨_,runUnderlying66,rfl⟩
instance bH4:eG prog 66 2 2 3:=⟨_,runUnderlying66,rfl⟩
instance bW6:eG prog 66 3 3 3:=⟨_,runUnderlying66,rfl⟩
instance bJ2:eM prog 66 [.val (.int .i64 0),.val (.string ⟨#[]⟩),.val (.int .i64 0),.val (.int .i64 0)]:=⟨_,zeroValue66,rfl⟩
instance bKt:Plc prog 66 [(0,1),(1,1),(2,1),(3,1)] [.val (.int .i64 0),.val (.string ⟨#[]⟩),.val (.int .i64 0),.val (.int .i64 0)]:=⟨_,Tryz.t66,_,underlying66,by kernel_rfl,rfl,by kernel_rfl,rfl⟩
instance bAt:TY prog 68 false 1:=⟨isAgg68,sizeOf68⟩
instance bBn:TY prog 70 true 3:=⟨isAgg70,sizeOf70⟩
instance aWb:eG prog 70 0 0 9:=⟨_,runUnderlying70,rfl⟩
instance aU5:eG prog 70 1 1 4:=⟨_,runUnderlying70,rfl⟩
instance aVn:eG prog 70 2 2 3:=⟨_,runUnderlying70,rfl⟩
instance bAi:eM prog 70 [.val (.string ⟨#[]⟩),.val (.bool false),.val (.int .i64 0)]:=⟨_,zeroValue70,rfl⟩
instance bCi:Plc prog 70 [(0,1),(1,1),(2,1)] [.val (.string ⟨#[]⟩),.val (.bool false),.val (.int .i64 0)]:=⟨_,Tryz.t70,_,underlying70,by kernel_rfl,rfl,by kernel_rfl,rfl⟩
instance bBp:TY prog 71 false 1:=⟨isAgg71,sizeOf71⟩
instance bXi:TSl prog 71 73:=⟨runUnderlying71⟩
instance bCm:eM prog 71 [.val (.slice none 0 0)]:=⟨_,zeroValue71,rfl⟩
instance bBv:TY prog 73 true 4:=⟨isAgg73,sizeOf73⟩
instance aUm:eG prog 73 0 0 3:=⟨_,runUnderlying73,rfl⟩
instance aWo:eG prog 73 1 1 3:=⟨_,runUnderlying73,rfl⟩
instance bWu:eG prog 73 2 2 9:=⟨_,runUnderlying73,rfl⟩
instance bWt:eG prog 73 3 3 71:=⟨_,runUnderlying73,rfl⟩
instance aZs:eM prog 73 [.val (.int .i64 0),.val (.int .i64 0),.val (.string ⟨#[]⟩),.val (.slice none 0 0)]:=⟨_,zeroValue73,rfl⟩
instance aZ6:Plc prog 73 [(0,1),(1,1),(2,1),(3,1)] [.val (.int .i64 0),.val (.int .i64 0),.val (.string ⟨#[]⟩),.val (.slice none 0 0)]:=⟨_,Tryz.t73,_,underlying73,by kernel_rfl,rfl,by kernel_rfl,rfl⟩
instance bCo:TY prog 75 true 2:=⟨isAgg75,sizeOf75⟩
instance aWp:eG prog 75 0 0 9:=⟨_,runUnderlying75,rfl⟩
instance aUo:eG prog 75 1 1 71:=⟨_,runUnderlying75,rfl⟩
instance aZ2:eM prog 75 [.val (.string ⟨#[]⟩),.val (.slice none 0 0)]:=⟨_,zeroValue75,rfl⟩
instance bBj:Plc prog 75 [(0,1),(1,1)] [.val (.string ⟨#[]⟩),.val (.slice none 0 0)]:=⟨_,Tryz.t75,_,underlying75,by kernel_rfl,rfl,by kernel_rfl,rfl⟩
instance bBr:TY prog 76 false 1:=⟨isAgg76,sizeOf76⟩
instance bJr:TSl prog 76 141:=⟨runUnderlying76⟩
instance bKq:eM prog 76 [.val (.slice none 0 0)]:=⟨_,zeroValue76,rfl⟩
instance bAw:TY prog 78 true 11:=⟨isAgg78,sizeOf78⟩
instance aW8:eG prog 78 0 0 3:=⟨_,runUnderlying78,rfl⟩
instance aXg:eG prog 78 1 1 9:=⟨_,runUnderlying78,rfl⟩
instance aW7:eG prog 78 2 2 73:=⟨_,runUnderlying78,rfl⟩
instance aWc:eG prog 78 3 6 75:=⟨_,runUnderlying78,rfl⟩
instance bWv:eG prog 78 4 8 76:=⟨_,runUnderlying78,rfl⟩
instance bW4:eG prog 78 5 9 56:=⟨_,runUnderlying78,rfl⟩
instance bWx:eG prog 78 6 10 56:=⟨_,runUnderlying78,rfl⟩
instance aZu:eM prog 78 [.val (.int .i64 0),.val (.string ⟨#[]⟩),.val (.int .i64 0),.val (.int .i64 0),.val (.string ⟨#[]⟩),.val (.slice none 0 0),.val (.string ⟨#[]⟩),.val (.slice none 0 0),.val (.slice none 0 0),.val (.slice none 0 0),.val (.slice none 0 0)]:=⟨_,zeroValue78,rfl⟩
instance bAf:Plc prog 78 [(0,1),(1,1),(2,4),(6,2),(8,1),(9,1),(10,1)] [.val (.int .i64 0),.val (.string ⟨#[]⟩),.val (.int .i64 0),.val (.int .i64 0),.val (.string ⟨#[]⟩),.val (.slice none 0 0),.val (.string ⟨#[]⟩),.val (.slice none 0 0),.val (.slice none 0 0),.val (.slice none 0 0),.val (.slice none 0 0)]:=⟨_,Tryz.t78,_,underlying78,by kernel_rfl,rfl,by kernel_rfl,rfl⟩
instance bBc:TY prog 86 true 2:=⟨isAgg86,sizeOf86⟩
instance aUx:eG prog 86 0 0 9:=⟨_,runUnderlying86,rfl⟩
instance aXb:eG prog 86 1 1 3:=⟨_,runUnderlying86,rfl⟩
instance aZ9:eM prog 86 [.val (.string ⟨#[]⟩),.val (.int .i64 0)]:=⟨_,zeroValue86,rfl⟩
instance aZ5:Plc prog 86 [(0,1),(1,1)] [.val (.string ⟨#[]⟩),.val (.int .i64 0)]:=⟨_,Tryz.t86,_,underlying86,by kernel_rfl,rfl,by kernel_rfl,rfl⟩
instance bAr:TY prog 89 true 2:=⟨isAgg89,sizeOf89⟩
instance bWw:eG prog 89 0 0 9:=⟨_,runUnderlying89,rfl⟩
instance bW2:eG prog 89 1 1 4:=⟨_,runUnderlying89,rfl⟩
instance bJ7:eM prog 89 [.val (.string ⟨#[]⟩),.val (.bool false)]:=⟨_,zeroValue89,rfl⟩
instance bXo:Plc prog 89 [(0,1),(1,1)] [.val (.string ⟨#[]⟩),.val (.bool false)]:=⟨_,Tryz.t89,_,underlying89,by kernel_rfl,rfl,by kernel_rfl,rfl⟩
instance bAy:TY prog 90 false 1:=⟨isAgg90,sizeOf90⟩
instance bBe:TY prog 91 false 1:=⟨isAgg91,sizeOf91⟩
instance bA1:TY prog 92 false 1:=⟨isAgg92,sizeOf92⟩
instance bCe:TY prog 94 true 7:=⟨isAgg94,sizeOf94⟩
instance aW5:eG prog 94 0 0 30:=⟨_,runUnderlying94,rfl⟩
instance aVz:eG prog 94 1 3 91:=⟨_,runUnderlying94,rfl⟩
instance aUp:eG prog 94 2 4 92:=⟨_,runUnderlying94,rfl⟩
instance aWs:eG prog 94 3 5 3:=⟨_,runUnderlying94,rfl⟩
instance bW1:eG prog 94 4 6 3:=⟨_,runUnderlying94,rfl⟩
instance bBd:TY prog 98 false 1:=⟨isAgg98,sizeOf98⟩
instance bAu:TY prog 99 false 1:=⟨isAgg99,sizeOf99⟩
instance bCg:TY prog 102 true 2:=⟨isAgg102,sizeOf102⟩
instance aWj:eG prog 102 0 0 22:=⟨_,runUnderlying102,rfl⟩
instance aUu:eG prog 102 1 1 3:=⟨_,runUnderlying102,rfl⟩
instance bAv:eM prog 102 [.val (.slice none 0 0),.val (.int .i64 0)]:=⟨_,zeroValue102,rfl⟩
instance bBf:Plc prog 102 [(0,1),(1,1)] [.val (.slice none 0 0),.val (.int .i64 0)]:=⟨_,Tryz.t102,_,underlying102,by kernel_rfl,rfl,by kernel_rfl,rfl⟩
instance bAm:TY prog 104 true 6:=⟨isAgg104,sizeOf104⟩
instance aUs:eG prog 104 0 0 99:=⟨_,runUnderlying104,rfl⟩
instance aV3:eG prog 104 1 1 30:=⟨_,runUnderlying104,rfl⟩
instance aXe:eG prog 104 2 4 3:=⟨_,runUnderlying104,rfl⟩
instance bXd:eG prog 104 3 5 4:=⟨_,runUnderlying104,rfl⟩
instance bCc:eM prog 104 [.val (.pointer none),.val (.slice none 0 0),.val (.slice none 0 0),.val (.slice none 0 0),.val (.int .i64 0),.val (.bool false)]:=⟨_,zeroValue104,rfl⟩
instance aZj:Plc prog 104 [(0,1),(1,3),(4,1),(5,1)] [.val (.pointer none),.val (.slice none 0 0),.val (.slice none 0 0),.val (.slice none 0 0),.val (.int .i64 0),.val (.bool false)]:=⟨_,Tryz.t104,_,underlying104,by kernel_rfl,rfl,by kernel_rfl,rfl⟩
instance aZi:TY prog 109 false 1:=⟨isAgg109,sizeOf109⟩
instance bXp:eM prog 109 [.val (.int .u64 0)]:=⟨_,zeroValue109,rfl⟩
instance bCq:TY prog 110 false 1:=⟨isAgg110,sizeOf110⟩
instance bB1:TY prog 112 true 6:=⟨isAgg112,sizeOf112⟩
instance bI8:eG prog 112 0 0 36:=⟨_,runUnderlying112,rfl⟩
instance bJh:eG prog 112 1 1 3:=⟨_,runUnderlying112,rfl⟩
instance bI2:eG prog 112 2 2 3:=⟨_,runUnderlying112,rfl⟩
instance bIj:eG prog 112 3 3 31:=⟨_,runUnderlying112,rfl⟩
instance bH1:eG prog 112 4 4 3:=⟨_,runUnderlying112,rfl⟩
instance bIk:eG prog 112 5 5 3:=⟨_,runUnderlying112,rfl⟩
instance bJ4:eM prog 112 [.val (.slice none 0 0),.val (.int .i64 0),.val (.int .i64 0),.val (.int .i64 0),.val (.int .i64 0),.val (.int .i64 0)]:=⟨_,zeroValue112,rfl⟩
instance bJ9:Plc prog 112 [(0,1),(1,1),(2,1),(3,1),(4,1),(5,1)] [.val (.slice none 0 0),.val (.int .i64 0),.val (.int .i64 0),.val (.int .i64 0),.val (.int .i64 0),.val (.int .i64 0)]:=⟨_,Tryz.t112,_,underlying112,by kernel_rfl,rfl,by kernel_rfl,rfl⟩
instance bAj:TY prog 130 false 1:=⟨isAgg130,sizeOf130⟩
instance bB4:TY prog 131 false 1:=⟨isAgg131,sizeOf131⟩
instance aZg:TY prog 133 true 2:=⟨isAgg133,sizeOf133⟩
instance bJa:eG prog 133 0 0 131:=⟨_,runUnderlying133,rfl⟩
instance bIt:eG prog 133 1 1 23:=⟨_,runUnderlying133,rfl⟩
instance bKe:eM prog 133 [.val (.pointer none),.val (.slice none 0 0)]:=⟨_,zeroValue133,rfl⟩
instance bKa:Plc prog 133 [(0,1),(1,1)] [.val (.pointer none),.val (.slice none 0 0)]:=⟨_,Tryz.t133,_,underlying133,by kernel_rfl,rfl,by kernel_rfl,rfl⟩
instance bCl:TY prog 135 true 3:=⟨isAgg135,sizeOf135⟩
instance aWr:eG prog 135 0 0 133:=⟨_,runUnderlying135,rfl⟩
instance aWm:eG prog 135 1 2 3:=⟨_,runUnderlying135,rfl⟩
instance bA2:eM prog 135 [.val (.pointer none),.val (.slice none 0 0),.val (.int .i64 0)]:=⟨_,zeroValue135,rfl⟩
instance bAa:Plc prog 135 [(0,2),(2,1)] [.val (.pointer none),.val (.slice none 0 0),.val (.int .i64 0)]:=⟨_,Tryz.t135,_,underlying135,by kernel_rfl,rfl,by kernel_rfl,rfl⟩
instance bAh:TY prog 141 true 7:=⟨isAgg141,sizeOf141⟩
instance aXi:eG prog 141 0 0 4:=⟨_,runUnderlying141,rfl⟩
instance aUe:eG prog 141 1 1 75:=⟨_,runUnderlying141,rfl⟩
instance bHm:eG prog 141 2 3 73:=⟨_,runUnderlying141,rfl⟩
instance bA4:eM prog 141 [.val (.bool false),.val (.string ⟨#[]⟩),.val (.slice none 0 0),.val (.int .i64 0),.val (.int .i64 0),.val (.string ⟨#[]⟩),.val (.slice none 0 0)]:=⟨_,zeroValue141,rfl⟩
instance bBm:Plc prog 141 [(0,1),(1,2),(3,4)] [.val (.bool false),.val (.string ⟨#[]⟩),.val (.slice none 0 0),.val (.int .i64 0),.val (.int .i64 0),.val (.string ⟨#[]⟩),.val (.slice none 0 0)]:=⟨_,Tryz.t141,_,underlying141,by kernel_rfl,rfl,by kernel_rfl,rfl⟩
instance bCj:TY prog 142 false 1:=⟨isAgg142,sizeOf142⟩
instance bAz:eM prog 142 [.val (.int .i64 0)]:=⟨_,zeroValue142,rfl⟩
instance bA0:TY prog 148 false 1:=⟨isAgg148,sizeOf148⟩
instance bJp:TSl prog 148 180:=⟨runUnderlying148⟩
instance aZx:eM prog 148 [.val (.slice none 0 0)]:=⟨_,zeroValue148,rfl⟩
instance aZ7:TY prog 150 true 4:=⟨isAgg150,sizeOf150⟩
instance bH2:eG prog 150 0 0 22:=⟨_,runUnderlying150,rfl⟩
instance bJm:eG prog 150 1 1 27:=⟨_,runUnderlying150,rfl⟩
instance bIi:eG prog 150 2 2 148:=⟨_,runUnderlying150,rfl⟩
instance bI4:eG prog 150 3 3 3:=⟨_,runUnderlying150,rfl⟩
instance bJz:eM prog 150 [.val (.slice none 0 0),.val (.slice none 0 0),.val (.slice none 0 0),.val (.int .i64 0)]:=⟨_,zeroValue150,rfl⟩
instance bKx:Plc prog 150 [(0,1),(1,1),(2,1),(3,1)] [.val (.slice none 0 0),.val (.slice none 0 0),.val (.slice none 0 0),.val (.int .i64 0)]:=⟨_,Tryz.t150,_,underlying150,by kernel_rfl,rfl,by kernel_rfl,rfl⟩
instance bB8:TY prog 168 false 1:=⟨isAgg168,sizeOf168⟩
instance bCf:TY prog 171 false 1:=⟨isAgg171,sizeOf171⟩
instance bXe:TSl prog 171 175:=⟨runUnderlying171⟩
instance bK1:eM prog 171 [.val (.slice none 0 0)]:=⟨_,zeroValue171,rfl⟩
instance bAc:TY prog 175 true 3:=⟨isAgg175,sizeOf175⟩
instance aUz:eG prog 175 0 0 9:=⟨_,runUnderlying175,rfl⟩
instance aWl:eG prog 175 1 1 3:=⟨_,runUnderlying175,rfl⟩
instance aWy:eG prog 175 2 2 3:=⟨_,runUnderlying175,rfl⟩
instance aZf:eM prog 175 [.val (.string ⟨#[]⟩),.val (.int .i64 0),.val (.int .i64 0)]:=⟨_,zeroValue175,rfl⟩
instance bBi:Plc prog 175 [(0,1),(1,1),(2,1)] [.val (.string ⟨#[]⟩),.val (.int .i64 0),.val (.int .i64 0)]:=⟨_,Tryz.t175,_,underlying175,by kernel_rfl,rfl,by kernel_rfl,rfl⟩
instance bCb:TY prog 178 false 1:=⟨isAgg178,sizeOf178⟩
instance bXf:TSl prog 178 216:=⟨runUnderlying178⟩
instance bJ1:eM prog 178 [.val (.slice none 0 0)]:=⟨_,zeroValue178,rfl⟩
instance bAg:TY prog 180 true 5:=⟨isAgg180,sizeOf180⟩
instance aV1:eG prog 180 0 0 9:=⟨_,runUnderlying180,rfl⟩
instance aU1:eG prog 180 1 1 3:=⟨_,runUnderlying180,rfl⟩
instance aVd:eG prog 180 2 2 3:=⟨_,runUnderlying180,rfl⟩
instance aUb:eG prog 180 3 3 3:=⟨_,runUnderlying180,rfl⟩
instance bXc:eG prog 180 4 4 178:=⟨_,runUnderlying180,rfl⟩
instance bA9:eM prog 180 [.val (.string ⟨#[]⟩),.val (.int .i64 0),.val (.int .i64 0),.val (.int .i64 0),.val (.slice none 0 0)]:=⟨_,zeroValue180,rfl⟩
instance aZv:Plc prog 180 [(0,1),(1,1),(2,1),(3,1),(4,1)] [.val (.string ⟨#[]⟩),.val (.int .i64 0),.val (.int .i64 0),.val (.int .i64 0),.val (.slice none 0 0)]:=⟨_,Tryz.t180,_,underlying180,by kernel_rfl,rfl,by kernel_rfl,rfl⟩
instance bA7:TY prog 189 false 1:=⟨isAgg189,sizeOf189⟩
instance bKd:eM prog 189 [.val (.int .u64 0)]:=⟨_,zeroValue189,rfl⟩
instance bAq:TY prog 199 false 1:=⟨isAgg199,sizeOf199⟩
instance bB5:TY prog 208 false 1:=⟨isAgg208,sizeOf208⟩
instance bBg:TY prog 210 true 10:=⟨isAgg210,sizeOf210⟩
instance bI5:eG prog 210 0 0 30:=⟨_,runUnderlying210,rfl⟩
instance bH5:eG prog 210 1 3 171:=⟨_,runUnderlying210,rfl⟩
instance bHr:eG prog 210 2 4 3:=⟨_,runUnderlying210,rfl⟩
instance bIf:eG prog 210 3 5 3:=⟨_,runUnderlying210,rfl⟩
instance bIw:eG prog 210 4 6 3:=⟨_,runUnderlying210,rfl⟩
instance bH3:eG prog 210 5 7 31:=⟨_,runUnderlying210,rfl⟩
instance bIo:eG prog 210 6 8 178:=⟨_,runUnderlying210,rfl⟩
instance bH0:eG prog 210 7 9 22:=⟨_,runUnderlying210,rfl⟩
instance bKj:eM prog 210 [.val (.slice none 0 0),.val (.slice none 0 0),.val (.slice none 0 0),.val (.slice none 0 0),.val (.int .i64 0),.val (.int .i64 0),.val (.int .i64 0),.val (.int .i64 0),.val (.slice none 0 0),.val (.slice none 0 0)]:=⟨_,zeroValue210,rfl⟩
instance bKb:Plc prog 210 [(0,3),(3,1),(4,1),(5,1),(6,1),(7,1),(8,1),(9,1)] [.val (.slice none 0 0),.val (.slice none 0 0),.val (.slice none 0 0),.val (.slice none 0 0),.val (.int .i64 0),.val (.int .i64 0),.val (.int .i64 0),.val (.int .i64 0),.val (.slice none 0 0),.val (.slice none 0 0)]:=⟨_,Tryz.t210,_,underlying210,by kernel_rfl,rfl,by kernel_rfl,rfl⟩
instance bBt:TY prog 213 true 3:=⟨isAgg213,sizeOf213⟩
instance bIp:eG prog 213 0 0 4:=⟨_,runUnderlying213,rfl⟩
instance bIg:eG prog 213 1 1 3:=⟨_,runUnderlying213,rfl⟩
instance bHv:eG prog 213 2 2 71:=⟨_,runUnderlying213,rfl⟩
instance bKi:eM prog 213 [.val (.bool false),.val (.int .i64 0),.val (.slice none 0 0)]:=⟨_,zeroValue213,rfl⟩
instance bKg:Plc prog 213 [(0,1),(1,1),(2,1)] [.val (.bool false),.val (.int .i64 0),.val (.slice none 0 0)]:=⟨_,Tryz.t213,_,underlying213,by kernel_rfl,rfl,by kernel_rfl,rfl⟩
instance aZm:TY prog 214 false 1:=⟨isAgg214,sizeOf214⟩
instance bJt:TSl prog 214 213:=⟨runUnderlying214⟩
instance bKh:eM prog 214 [.val (.slice none 0 0)]:=⟨_,zeroValue214,rfl⟩
instance bB0:TY prog 216 true 12:=⟨isAgg216,sizeOf216⟩
instance bHp:eG prog 216 0 0 3:=⟨_,runUnderlying216,rfl⟩
instance bId:eG prog 216 1 1 3:=⟨_,runUnderlying216,rfl⟩
instance bJl:eG prog 216 2 2 4:=⟨_,runUnderlying216,rfl⟩
instance bIs:eG prog 216 3 3 73:=⟨_,runUnderlying216,rfl⟩
instance bIx:eG prog 216 4 7 213:=⟨_,runUnderlying216,rfl⟩
instance bJj:eG prog 216 5 10 71:=⟨_,runUnderlying216,rfl⟩
instance bIe:eG prog 216 6 11 214:=⟨_,runUnderlying216,rfl⟩
instance bK2:eM prog 216 [.val (.int .i64 0),.val (.int .i64 0),.val (.bool false),.val (.int .i64 0),.val (.int .i64 0),.val (.string ⟨#[]⟩),.val (.slice none 0 0),.val (.bool false),.val (.int .i64 0),.val (.slice none 0 0),.val (.slice none 0 0),.val (.slice none 0 0)]:=⟨_,zeroValue216,rfl⟩
instance bKy:Plc prog 216 [(0,1),(1,1),(2,1),(3,4),(7,3),(10,1),(11,1)] [.val (.int .i64 0),.val (.int .i64 0),.val (.bool false),.val (.int .i64 0),.val (.int .i64 0),.val (.string ⟨#[]⟩),.val (.slice none 0 0),.val (.bool false),.val (.int .i64 0),.val (.slice none 0 0),.val (.slice none 0 0),.val (.slice none 0 0)]:=⟨_,Tryz.t216,_,underlying216,by kernel_rfl,rfl,by kernel_rfl,rfl⟩
instance bJw:TY prog 222 true 11:=⟨isAgg222,sizeOf222⟩
instance bJ0:TY prog 227 true 6:=⟨isAgg227,sizeOf227⟩
instance bXa:eG prog 227 0 0 4:=⟨_,runUnderlying227,rfl⟩
instance bWr:eG prog 227 1 1 4:=⟨_,runUnderlying227,rfl⟩
instance bWy:eG prog 227 2 2 4:=⟨_,runUnderlying227,rfl⟩
instance bW9:eG prog 227 3 3 4:=⟨_,runUnderlying227,rfl⟩
instance bWq:eG prog 227 4 4 4:=⟨_,runUnderlying227,rfl⟩
instance bW7:eG prog 227 5 5 4:=⟨_,runUnderlying227,rfl⟩
instance bXm:eM prog 227 [.val (.bool false),.val (.bool false),.val (.bool false),.val (.bool false),.val (.bool false),.val (.bool false)]:=⟨_,zeroValue227,rfl⟩
instance bXk:Plc prog 227 [(0,1),(1,1),(2,1),(3,1),(4,1),(5,1)] [.val (.bool false),.val (.bool false),.val (.bool false),.val (.bool false),.val (.bool false),.val (.bool false)]:=⟨_,Tryz.t227,_,underlying227,by kernel_rfl,rfl,by kernel_rfl,rfl⟩
instance bKk:TY prog 244 true 24:=⟨isAgg244,sizeOf244⟩
instance bJ5:TY prog 256 true 20:=⟨isAgg256,sizeOf256⟩
instance bKn:TY prog 257 false 1:=⟨isAgg257,sizeOf257⟩
instance bK0:eM prog 257 [.val (.int .u32 0)]:=⟨_,zeroValue257,rfl⟩
instance bKc:TY prog 258 true 65:=⟨isAgg258,sizeOf258⟩
instance bKw:TY prog 261 true 18:=⟨isAgg261,sizeOf261⟩
instance bKo:TY prog 265 false 1:=⟨isAgg265,sizeOf265⟩
instance bKp:TY prog 267 true 4:=⟨isAgg267,sizeOf267⟩
instance bI1:eG prog 267 0 0 36:=⟨_,runUnderlying267,rfl⟩
instance bIa:eG prog 267 1 1 3:=⟨_,runUnderlying267,rfl⟩
instance bI7:eG prog 267 2 2 3:=⟨_,runUnderlying267,rfl⟩
instance bHw:eG prog 267 3 3 31:=⟨_,runUnderlying267,rfl⟩
instance bKu:eM prog 267 [.val (.slice none 0 0),.val (.int .i64 0),.val (.int .i64 0),.val (.int .i64 0)]:=⟨_,zeroValue267,rfl⟩
instance bJx:Plc prog 267 [(0,1),(1,1),(2,1),(3,1)] [.val (.slice none 0 0),.val (.int .i64 0),.val (.int .i64 0),.val (.int .i64 0)]:=⟨_,Tryz.t267,_,underlying267,by kernel_rfl,rfl,by kernel_rfl,rfl⟩
instance bJ6:TY prog 271 true 32:=⟨isAgg271,sizeOf271⟩
instance bKl:TY prog 272 true 64:=⟨isAgg272,sizeOf272⟩
end
section
open Go.RowKit
instance (priority:=900) boxIn_appG{A0 R A B:List Box}{b:Nat}{T:TypeId}{cs:List AC}[h:lY R b A T cs B]:lY (A0++R) b (A0++A) T cs B:=⟨by rw [h.h,append_assoc]⟩
instance (priority:=1050) appL_app{A0 X ds r:List Box}[h:aDk X ds r]:aDk (A0++X) ds (A0++r):=⟨by rw [append_assoc,h.h]⟩
instance aS8:hP 1 1 2:=⟨rfl⟩
instance aSv:hP 1 2 3:=⟨rfl⟩
instance aSi:hP 1 3 4:=⟨rfl⟩
instance aTa:hP 1 4 5:=⟨rfl⟩
instance aTf:hP 1 5 6:=⟨rfl⟩
instance aS0:hP 2 1 3:=⟨rfl⟩
instance aSx:hP 2 2 4:=⟨rfl⟩
instance aTk:hP 2 3 5:=⟨rfl⟩
instance aT2:hP 2 4 6:=⟨rfl⟩
instance aRx:hP 2 5 7:=⟨rfl⟩
instance aTw:hP 3 1 4:=⟨rfl⟩
instance aSs:hP 3 2 5:=⟨rfl⟩
instance aSa:hP 3 3 6:=⟨rfl⟩
instance aS6:hP 3 4 7:=⟨rfl⟩
instance aRv:hP 3 5 8:=⟨rfl⟩
instance aR2:hP 4 1 5:=⟨rfl⟩
instance aSy:hP 4 2 6:=⟨rfl⟩
instance aR1:hP 4 3 7:=⟨rfl⟩
instance aSw:hP 4 4 8:=⟨rfl⟩
instance aTt:hP 4 5 9:=⟨rfl⟩
instance aSj:hP 5 1 6:=⟨rfl⟩
instance aSz:hP 5 2 7:=⟨rfl⟩
instance aTg:hP 5 3 8:=⟨rfl⟩
instance aR9:hP 5 4 9:=⟨rfl⟩
instance aTb:hP 5 5 10:=⟨rfl⟩
instance aS4:hP 6 1 7:=⟨rfl⟩
instance aT5:hP 6 2 8:=⟨rfl⟩
instance aSt:hP 6 3 9:=⟨rfl⟩
instance aS5:hP 6 4 10:=⟨rfl⟩
instance aSl:hP 6 5 11:=⟨rfl⟩
instance aSu:hP 7 1 8:=⟨rfl⟩
instance aTz:hP 7 2 9:=⟨rfl⟩
instance aTl:hP 7 3 10:=⟨rfl⟩
instance aS3:hP 7 4 11:=⟨rfl⟩
instance aR7:hP 7 5 12:=⟨rfl⟩
instance aR6:hP 8 1 9:=⟨rfl⟩
instance aTy:hP 8 2 10:=⟨rfl⟩
instance aS2:hP 8 3 11:=⟨rfl⟩
instance aR5:hP 8 4 12:=⟨rfl⟩
instance aSe:hP 8 5 13:=⟨rfl⟩
theorem jJ{bx:List Box}{rw:List bA}{Z:List Nat}{b:Nat}[h1:BIn bx b][h2:aLt bx b Z](hn:(⟨bx,rw⟩:Sto).bl.Nodup):b∈lM ⟨bx,rw⟩ Z:=kH.2 ⟨List.mem_append_left _ h1.h,h2.h (List.nodup_append.1 hn).1⟩
class aL0 (bx:List Box) (Z:List Nat):Prop where h:∀z,z∈Z -> z∈bx.map Box.b
instance aTn{bx:List Box}:aL0 bx []:=⟨by simp⟩
instance aRr{bx:List Box}{z:Nat}{Z:List Nat}[h1:BIn bx z][h2:aL0 bx Z]:aL0 bx (z::Z):=⟨fun y hy=>by rcases mem_cons.1 hy with rfl|h;exact h1.h;exact h2.h _ h⟩
theorem qW{bx:List Box}{rw:List bA}{Z:List Nat}{v:Value}{E:TypeId}{z n b:Nat}{cs:List AC}[h1:aL0 bx Z](hn:(⟨bx,⟨v,E,z,n,cs⟩::rw⟩:Sto).bl.Nodup)(hb:b∈aY v):b∈lM ⟨bx,⟨v,E,z,n,cs⟩::rw⟩ Z:=by
 have h3:b∈(⟨v,E,z,n,cs⟩::rw:List bA).flatMap fun r=>aY r.v:=by simp [hb]
 refine kH.2 ⟨List.mem_append_right _ h3,fun hz=>?_⟩
 exact (List.nodup_append.1 hn).2.2 b (h1.h b hz) b h3 rfl
theorem aE1{P:Program}{ops:Array Oper}{n:Nat}{T:List Nat}{bx:List Box}{rw:List bA}{ts:List (Nat×AT)}{Q:Exit -> AS -> Prop}{l:List Oper}(i:Nat){v:Value}{E:TypeId}{z k:Nat}{cs:List AC}(hi:look ts i=some (.c (.val v)))(h:eQ P ops l ⟨n,T,⟨bx,rw⟩,(i,.c (.sl k cs))::ts⟩ Q)(hz:0<z:=by decide):eQ P ops l ⟨n,T,⟨bx,⟨v,E,z,k,cs⟩::rw⟩,ts⟩ Q:=
 uQ (yS (st:=⟨n,T,⟨bx,⟨v,E,z,k,cs⟩::rw⟩,ts⟩) (A:=[]) i hi rfl hz) h
end
section
open Go.RowKit
theorem kB{a b:Bool}(h:a=true↔b=true):Ending.returned (.bool a)=.returned (.bool b):=by rw [Bool.eq_iff_iff.2 h]
theorem gG{k:IntKind}{a b:Int}(h:a=b):Ending.returned (.int k a)=.returned (.int k b):=by rw [h]
theorem sB(c:UInt8)(w:World):
  Calls prog 94 #[.int .u8 c.toNat] w fun e w'=>e=.returned (.bool (isSp c)) /\ w=w':=by
 unfold isSp
 generalize (c.toNat:Int)=n
 go_enter func94,Tryz.ntmps94
 go_wp2
 all_goals (go_ret;refine ⟨kB ?_,rfl⟩;simp;try omega)
theorem qG(c:UInt8)(w:World):
  Calls prog 97 #[.int .u8 c.toNat] w fun e w'=>e=.returned (.bool (fU c)) /\ w=w':=by
 unfold fU
 generalize (c.toNat:Int)=n
 go_enter func97,Tryz.ntmps97
 go_wp2
 all_goals (go_ret;refine ⟨kB ?_,rfl⟩;simp;try omega)
theorem oV(c:UInt8)(w:World):
  Calls prog 99 #[.int .u8 c.toNat] w fun e w'=>e=.returned (.bool (cD c)) /\ w=w':=by
 unfold cD
 generalize (c.toNat:Int)=n
 go_enter func99,Tryz.ntmps99
 go_wp2
 all_goals (go_ret;refine ⟨kB ?_,rfl⟩;simp;try omega)
theorem tC(c:UInt8)(w:World):
  Calls prog 139 #[.int .u8 c.toNat] w fun e w'=>e=.returned (.bool (cT c)) /\ w=w':=by
 go_enter func139,Tryz.ntmps139
 go_wp2_with (first|(go_at_call 97;refine (qG _ _).mono ?_;rintro e w' ⟨rfl,rfl⟩)|(go_at_call 99;refine (oV _ _).mono ?_;rintro e w' ⟨rfl,rfl⟩))
 all_goals (go_ret;refine ⟨kB ?_,rfl⟩;simp [cT, *])
theorem oK(s p:ByteArray)(w:World):
  Calls prog 95 #[.string s,.string p] w fun e w'=>e=.returned (.bool (Lib.hasPrefix s.data.toList p.data.toList)) /\ w=w':=
 (Tryz.strings_HasPrefix s p w).mono fun _ _ h=>⟨h.1,h.2.symm⟩
theorem oL(s:ByteArray)(c:Int)(w:World):
  Calls prog 96 #[.string s,.int .u8 c] w fun e w'=>e=.returned (.int .i64 (Lib.indexByte s.data.toList c.toNat.toUInt8)) /\ w=w':=
 (Tryz.strings_IndexByte s c w).mono fun _ _ h=>⟨h.1,h.2.symm⟩
theorem uH(s:ByteArray)(k0:Nat)(w:World)(hs:s.size <= 9223372036854775807)(hk:k0 <= s.size):
  Calls prog 63 #[.string s,.int .i64 k0] w fun e w'=>e=.returned (.int .i64 (bF s.data.toList k0)) /\ w=w':=by
 have hlen:s.data.toList.length=s.size:=rfl
 go_enter func63,Tryz.ntmps63
 go_wp2_with fail
 go_loop [1,5] (fun v _=>∃k:Nat,k <= s.size /\ v=.int .i64 k /\ bF s.data.toList k=bF s.data.toList k0) (fun v _=>s.size-(intOf v).toNat)
 case atStart=>exact ⟨k0,hk,rfl,rfl⟩
 case round=>
  obtain ⟨k,hk,rfl,hr⟩:=hrel
  have HR:=Lib.hid hr;clear hr
  have HL:=Lib.hid hlen;clear hlen
  by_cases hlt:k<s.size
  ·by_cases hsp:isSp s[k]=true
   ·go_wp2_with (first|(go_at_call 94;refine (sB _ _).mono ?_;rintro e w' ⟨rfl,rfl⟩))
    go_round
    case rel=>exact ⟨k+1,by omega,by go_num,(aGh _ _ (by rw [HL.out];exact hlt) hsp).trans HR.out⟩
    case measure=>simp [intOf];omega
   have hsp':isSp s[k]=false:=by simpa using hsp
   clear hsp
   by_cases hc:Lib.hasPrefix (s.data.toList.drop k) [47,47]=true
   ·have hcom:=aJa _ _ (by rw [HL.out];exact hlt) hc
    have HC:=Lib.hid hcom;clear hcom
    have htk:List.take (s.size-k) (List.drop k s.data.toList)=List.drop k s.data.toList:=take_of_length_le (by simp)
    by_cases hn:Lib.indexByte (s.data.toList.drop k) 10<0
    ·go_wp2_with (first|(go_at_call 94;refine (sB _ _).mono ?_;rintro e w' ⟨rfl,rfl⟩)|(go_at_call 95;refine (oK _ _ _).mono ?_;rintro e w' ⟨rfl,rfl⟩)|(go_at_call 96;refine (oL _ _ _).mono ?_;rintro e w' ⟨rfl,rfl⟩))
     go_ret
     exact ⟨gG (by rw [←HR.out,HC.out.1 hn,HL.out]),rfl⟩
    obtain ⟨j,hj⟩:∃j:Nat,Lib.indexByte (s.data.toList.drop k) 10=j:=⟨(Lib.indexByte (s.data.toList.drop k) 10).toNat,by omega⟩
    obtain ⟨h1,h2,h3⟩:=HC.out.2 j hj
    rw [HL.out] at h2
    have H1:=Lib.hid h1;clear h1
    clear hn
    go_wp2_with (first|(go_at_call 94;refine (sB _ _).mono ?_;rintro e w' ⟨rfl,rfl⟩)|(go_at_call 95;refine (oK _ _ _).mono ?_;rintro e w' ⟨rfl,rfl⟩)|(go_at_call 96;refine (oL _ _ _).mono ?_;rintro e w' ⟨rfl,rfl⟩))
    go_round
    case rel=>exact ⟨k+j,by omega,by go_num,H1.out.trans HR.out⟩
    case measure=>simp [intOf];omega
   have hc':Lib.hasPrefix (s.data.toList.drop k) [47,47]=false:=by simpa using hc
   have hstop:bF s.data.toList k=k:=by
    refine zX _ _ (by rw [HL.out];exact hlt) hsp' ?_
    rintro ⟨h1,h2⟩
    apply hc
    rw [sZ,dR _ _ (by rw [HL.out];exact hlt),h1]
    cases hd:s.data.toList.drop (k+1) with
    |nil=>simp [hd] at h2
    |cons a r=>rw [hd] at h2;simp at h2;subst h2;exact ⟨r,rfl⟩
   have HS:=Lib.hid hstop;clear hstop
   clear hc
   have htk:List.take (s.size-k) (List.drop k s.data.toList)=List.drop k s.data.toList:=take_of_length_le (by simp)
   go_wp2_with (first|(go_at_call 94;refine (sB _ _).mono ?_;rintro e w' ⟨rfl,rfl⟩)|(go_at_call 95;refine (oK _ _ _).mono ?_;rintro e w' ⟨rfl,rfl⟩))
   go_ret
   exact ⟨gG (by rw [←HR.out,HS.out]),rfl⟩
  go_wp2_with fail
  go_ret
  exact ⟨gG (by rw [←HR.out,aA5 _ _ (by rw [HL.out];omega),HL.out];omega),rfl⟩
theorem lH(p:UInt8 -> Bool)(l:List UInt8)(k:Nat)(hk:k<l.length)(h:(l.takeWhile p).length=k+((l.drop k).takeWhile p).length):
  (p l[k]=true -> (l.takeWhile p).length=(k+1)+((l.drop (k+1)).takeWhile p).length) /\ (p l[k]=false -> (l.takeWhile p).length=k):=by
 rw [dR l k hk] at h
 refine ⟨fun hp=>?_,fun hp=>?_⟩
 ·rw [List.takeWhile_cons_of_pos hp] at h;simp at h;omega
 rw [List.takeWhile_cons_of_neg (by simp [hp])] at h;simpa using h
theorem aI6(s:ByteArray)(w:World)(hs:s.size <= 9223372036854775807):
  Calls prog 138 #[.string s,.func (.func 99) #[] #[]] w fun e w'=>e=.returned (.int .i64 (s.data.toList.takeWhile cD).length) /\ w=w':=by
 have HL:=Lib.hid (show s.data.toList.length=s.size from rfl)
 go_enter func138,Tryz.ntmps138
 go_wp2_with fail
 go_loop [5] (fun v=>∃k:Nat,k <= s.size /\ v=.int .i64 k /\ (s.data.toList.takeWhile cD).length=k+((s.data.toList.drop k).takeWhile cD).length) (fun v=>s.size-(intOf v).toNat)
 case atStart=>exact ⟨0,by omega,rfl,by simp⟩
 case round=>
  obtain ⟨k,hk,rfl,hr⟩:=hrel
  by_cases hlt:k<s.size
  ·have HT:=Lib.hid (lH cD s.data.toList k (by rw [HL.out];exact hlt) hr);clear hr
   by_cases hp:cD s[k]=true
   ·go_wp2_with (first|(go_at_call 99;refine (oV _ _).mono ?_;rintro e w' ⟨rfl,rfl⟩))
    go_round
    case rel=>exact ⟨k+1,by omega,by go_num,HT.out.1 hp⟩
    case measure=>simp [intOf];omega
   have hp':cD s[k]=false:=by simpa using hp
   clear hp
   go_wp2_with (first|(go_at_call 99;refine (oV _ _).mono ?_;rintro e w' ⟨rfl,rfl⟩))
   go_ret
   exact ⟨gG (by rw [HT.out.2 hp']),rfl⟩
  have HR:=Lib.hid hr;clear hr
  go_wp2_with fail
  go_ret
  refine ⟨gG ?_,rfl⟩
  rw [HR.out,List.drop_eq_nil_of_le (by rw [HL.out];omega)];rfl
theorem aM0(s:ByteArray)(w:World)(hs:s.size <= 9223372036854775807):
  Calls prog 138 #[.string s,.func (.func 139) #[] #[]] w fun e w'=>e=.returned (.int .i64 (s.data.toList.takeWhile cT).length) /\ w=w':=by
 have HL:=Lib.hid (show s.data.toList.length=s.size from rfl)
 go_enter func138,Tryz.ntmps138
 go_wp2_with fail
 go_loop [5] (fun v=>∃k:Nat,k <= s.size /\ v=.int .i64 k /\ (s.data.toList.takeWhile cT).length=k+((s.data.toList.drop k).takeWhile cT).length) (fun v=>s.size-(intOf v).toNat)
 case atStart=>exact ⟨0,by omega,rfl,by simp⟩
 case round=>
  obtain ⟨k,hk,rfl,hr⟩:=hrel
  by_cases hlt:k<s.size
  ·have HT:=Lib.hid (lH cT s.data.toList k (by rw [HL.out];exact hlt) hr);clear hr
   by_cases hp:cT s[k]=true
   ·go_wp2_with (first|(go_at_call 139;refine (tC _ _).mono ?_;rintro e w' ⟨rfl,rfl⟩))
    go_round
    case rel=>exact ⟨k+1,by omega,by go_num,HT.out.1 hp⟩
    case measure=>simp [intOf];omega
   have hp':cT s[k]=false:=by simpa using hp
   clear hp
   go_wp2_with (first|(go_at_call 139;refine (tC _ _).mono ?_;rintro e w' ⟨rfl,rfl⟩))
   go_ret
   exact ⟨gG (by rw [HT.out.2 hp']),rfl⟩
  have HR:=Lib.hid hr;clear hr
  go_wp2_with fail
  go_ret
  refine ⟨gG ?_,rfl⟩
  rw [HR.out,List.drop_eq_nil_of_le (by rw [HL.out];omega)];rfl
end
section
open Go.RowKit
structure Env (w:World):Prop where
 words:∀j,j<words.length -> w.cell? ⟨0,0+j,none⟩=some (.string (words.getD j ByteArray.empty))
 maxLen:∃m:Int,w.cell? ⟨1,0,none⟩=some (.int .i64 m)
 size:Nat.max 0 1+1 <= w.heap.size
theorem Env.below{B:Nat}{w w':World}(h:Env w)(hb:Below B w w')(hB:Nat.max 0 1+1 <= B):Env w':=by
 refine ⟨fun j hj=>?_,?_,Nat.le_trans h.size hb.size⟩
 ·rw [hb.cell (p:=⟨0,0+j,none⟩) (Nat.lt_of_lt_of_le (by decide:0<Nat.max 0 1+1) hB)];exact h.words j hj
 rw [hb.cell (p:=⟨1,0,none⟩) (Nat.lt_of_lt_of_le (by decide:1<Nat.max 0 1+1) hB)];exact h.maxLen
theorem Env.alloc{w:World}(h:Env w)(o:Obj):Env (w.alloc o):=h.below ((Below.refl w.heap.size w).alloc (Nat.le_refl _) o) h.size
theorem Env.drew{w:World}(h:Env w):Env w.drew:=h.below ((Below.refl w.heap.size w).drew) h.size
theorem Env.setCell{w:World}(h:Env w){a:Addr}(ha:Nat.max 0 1+1 <= a.block)(u:Value):Env (w.setCell a u):=h.below ((Below.refl (Nat.max 0 1+1) w).setCell ha u) (Nat.le_refl _)
theorem yL(s:ByteArray)(w:World)(he:Env w):
  Calls prog 166 #[.slice (some ⟨0,0,none⟩) 11 11,.string s] w fun e w'=>e=.returned (.bool (dA s)) /\ w=w':=by
 refine (Tryz.slices_Contains_string 0 0 11 11 words s w (by decide) (by decide) he.words).mono fun e w' h=>⟨?_,h.2.symm⟩
 rw [h.1]
 refine kB ?_
 rw [Lib.containsS_iff,mK];rfl
theorem aC5(s:ByteArray)(w:World)(he:Env w):
  Calls prog 140 #[.string s] w fun e w'=>e=.returned (.bool (dA s)) /\ w=w':=by
 go_enter func140,Tryz.ntmps140
 go_wp2_with (first|(go_at_call 166;refine (yL _ _ he).mono ?_;rintro e w' ⟨rfl,rfl⟩))
 go_ret
 exact ⟨rfl,rfl⟩
theorem nZ(s:ByteArray)(p:UInt8 -> Bool):s.extract 0 (s.data.toList.takeWhile p).length=bytes (s.data.toList.takeWhile p):=by
 have:=ByteArray.extract_mk s.data.toList 0 (s.data.toList.takeWhile p).length
 rw [show (ByteArray.mk s.data.toList.toArray)=s from by simp] at this
 rw [this,bytes,List.drop_zero,Nat.sub_zero]
 congr 2
 conv=>rhs;rw [List.takeWhile_eq_take_findIdx_not]
 rw [List.takeWhile_eq_take_findIdx_not,List.length_take,List.take_eq_take_iff];omega
theorem aMr(s:ByteArray)(w:World)(hs:s.size <= 9223372036854775807)(he:Env w):
  Calls prog 98 #[.string s] w fun e w'=>e=.returned (.tuple #[.agg #[.int .i64 ((if dA (bytes (s.data.toList.takeWhile cT)) then 3 else 1:Nat):Int),.string (bytes (s.data.toList.takeWhile cT)),.int .i64 0,.int .i64 0],.int .i64 ((if 16<(s.data.toList.takeWhile cT).length then 3 else 0:Nat):Int)]) /\ Below w.heap.size w w':=by
 have hle:(s.data.toList.takeWhile cT).length <= s.size:=(List.takeWhile_sublist _).length_le
 have hx:=nZ s cT
 have hsz:(bytes (s.data.toList.takeWhile cT)).size=(s.data.toList.takeWhile cT).length:=by simp [bytes,ByteArray.size]
 go_enter func98,Tryz.ntmps98
 go_wp2_with (first|(go_at_call 138;refine (aM0 _ _ hs).mono ?_;rintro e w' ⟨rfl,rfl⟩)|(go_at_call 140;refine (aC5 _ _ ((he.alloc _).alloc _)).mono ?_;rintro e w' ⟨rfl,rfl⟩))
 all_goals (go_returns;refine ⟨?_,by go_grown⟩)
 all_goals first|rfl|(rw [if_pos (by omega)];rfl)|(rw [if_neg (by omega)];rfl)
theorem aJc(t:ByteArray)(k n:Nat)(hk:k<t.size)(h:iT 0 t.data.toList=iT n (t.data.toList.drop k)):
  ((9223372036854775807-(t[k].toNat-48))/10<n -> iT 0 t.data.toList=none) /\ (¬(9223372036854775807-(t[k].toNat-48))/10<n -> iT 0 t.data.toList=iT (10*n+(t[k].toNat-48)) (t.data.toList.drop (k+1))):=by
 rw [dR _ k (by exact hk),iT] at h
 refine ⟨fun hn=>?_,fun hn=>?_⟩
 ·rw [h];exact if_pos hn
 rw [h];exact if_neg hn
def aXp(t:ByteArray)(e:Ending):Prop:=∃n:Nat,(n:Int) <= 9223372036854775807 /\ ((iT 0 t.data.toList=none /\ e=.returned (.tuple #[.agg #[.int .i64 2,.string t,.int .i64 n,.int .i64 0],.int .i64 2]))∨(iT 0 t.data.toList=some n /\ e=.returned (.tuple #[.agg #[.int .i64 2,.string t,.int .i64 n,.int .i64 0],.int .i64 0])))
theorem aHi(s:ByteArray)(w:World)(hs:s.size <= 9223372036854775807):
  Calls prog 100 #[.string s] w fun e w'=>aXp (bytes (s.data.toList.takeWhile cD)) e /\ Below w.heap.size w w':=by
 have hle:(s.data.toList.takeWhile cD).length <= s.size:=(List.takeWhile_sublist _).length_le
 have hx:=nZ s cD
 have hsz:(bytes (s.data.toList.takeWhile cD)).size=(s.data.toList.takeWhile cD).length:=by simp [bytes,ByteArray.size]
 have hall:∀c∈(bytes (s.data.toList.takeWhile cD)).data.toList,cD c=true:=by
  intro c hc;simp only [bytes] at hc;exact (List.all_eq_true.1 (List.all_takeWhile (p:=cD) (l:=s.data.toList))) c hc
 generalize hm:(s.data.toList.takeWhile cD).length=m at *
 generalize ht:bytes (s.data.toList.takeWhile cD)=t at *
 have HM:=Lib.hid hm
 have HT:=Lib.hid ht
 have HA:=Lib.hid hall
 have HX:=Lib.hid hx
 clear hm ht hall
 subst hsz
 go_enter func100,Tryz.ntmps100
 go_wp2_with (first|(go_at_call 138;refine (aI6 _ _ hs).mono ?_;rintro e w' ⟨rfl,rfl⟩;rw [HM.out]))
 go_loopw [15] (fun v wr=>∃k n:Nat,k <= t.size /\ v=.int .i64 k /\ n <= 9223372036854775807 /\ iT 0 t.data.toList=iT n (t.data.toList.drop k) /\ wr=(w.alloc (Obj.cells #[Value.int IntKind.i64 0,Value.string {data:=#[]},Value.int IntKind.i64 0,Value.int IntKind.i64 0] 66)).alloc (Obj.cells #[Value.int IntKind.i64 2,Value.string t,Value.int IntKind.i64 n,Value.int IntKind.i64 0] 66)) (fun v _=>t.size-(intOf v).toNat)
 case atStart=>exact ⟨0,0,by omega,rfl,by omega,rfl,rfl⟩
 case round=>
  obtain ⟨k,n,hk,rfl,hn,hv,rfl⟩:=hrel
  by_cases hlt:k<t.size
  ·have hst:=aJc t k n hlt hv
   have hd:cD t[k]=true:=HA.out _ (by simp [ByteArray.getElem_eq_getElem_data])
   have HS:=Lib.hid hst
   clear hst hv
   simp only [cD,decide_eq_true_eq] at hd
   obtain ⟨hd1,hd2⟩:=hd
   by_cases hov:(9223372036854775807-(t[k].toNat-48))/10<n
   ·have hov':(9223372036854775807-((t[k].toNat:Int)-48))/10<(n:Int):=by omega
    have HO:=Lib.hid hov
    clear hov
    go_wp2_with fail
    go_returns
    exact ⟨⟨n,by omega,.inl ⟨HS.out.1 HO.out,rfl⟩⟩,by go_grown⟩
   have hov':(n:Int) <= (9223372036854775807-((t[k].toNat:Int)-48))/10:=by omega
   have HO:=Lib.hid hov
   clear hov
   go_wp2_with fail
   go_roundw
   case rel=>exact ⟨k+1,10*n+(t[k].toNat-48),by omega,by go_num,by omega,HS.out.2 HO.out,by congr 5;go_num⟩
   case measure=>simp [intOf];omega
  have HV:=Lib.hid hv
  clear hv
  go_wp2_with fail
  go_returns
  refine ⟨⟨n,by omega,.inr ⟨?_,rfl⟩⟩,by go_grown⟩
  rw [HV.out,List.drop_eq_nil_of_le (by show t.size <= k;omega),iT]
theorem nT(sub:ByteArray)(w:World)(he:Env w):
  Calls prog 141 #[.string ⟨#[60,61,32,62,61,32,61,61,32,33,61,32,38,38,32,124,124]⟩,.string sub] w fun e w'=>e=.returned (.bool (Lib.contains wG sub.data.toList)) /\ w=w':=by
 obtain ⟨m,hm⟩:=he.maxLen
 exact (Tryz.strings_Contains _ sub m w (by decide) hm).mono fun e w' h=>⟨h.1,h.2.symm⟩
theorem oD(c:UInt8)(w:World):
  Calls prog 96 #[.string ⟨#[40,41,123,125,91,93,44,59,61,43,45,42,47,37,60,62,33]⟩,.int .u8 c.toNat] w fun e w'=>e=.returned (.int .i64 (Lib.indexByte dW c)) /\ w=w':=by
 refine (oL _ _ _).mono fun e w' h=>⟨?_,h.2⟩
 rw [h.1];congr 3;simp
def aE9(s:ByteArray)(n:Nat):Value:=.tuple #[.agg #[.int .i64 (if n=0 then 0 else 4),.string (bytes (s.data.toList.take n)),.int .i64 0,.int .i64 0],.int .i64 (if n=0 then 1 else 0)]
theorem pY(s:ByteArray)(n:Nat):s.extract 0 n=bytes (s.data.toList.take n):=by
 have:=ByteArray.extract_mk s.data.toList 0 n
 rw [show (ByteArray.mk s.data.toList.toArray)=s from by simp] at this
 rw [this,bytes,List.drop_zero,Nat.sub_zero]
theorem jR(l:List UInt8):(bytes l).data.toList=l:=by simp [bytes]
theorem aLh(s:ByteArray)(w:World)(he:Env w)(h2:1<s.size)(h0:((s[0].toNat:Int) == 32)=false)(h1:((s[1].toNat:Int) == 32)=false)(hc:Lib.contains wG (s.data.toList.take 2)=true):
  Calls prog 101 #[.string s] w fun e w'=>e=.returned (aE9 s 2) /\ Below w.heap.size w w':=by
 have h0':((s[0].toNat:Int) != 32)=true:=by simp at h0⊢;exact h0
 have h1':((s[1].toNat:Int) != 32)=true:=by simp at h1⊢;exact h1
 have h2':(1:Int)<s.size:=by omega
 have hx:=pY s 2
 have hbd:=jR (s.data.toList.take 2)
 go_enter func101,Tryz.ntmps101
 go_wp2_with (first|(go_at_call 141;refine (nT _ _ (he.alloc _)).mono ?_;rintro e w' ⟨rfl,rfl⟩))
 go_returns
 exact ⟨rfl,by go_grown⟩
inductive aH1 (s:ByteArray):Prop
 |short (h:(s.size:Int) <= 1)
 |first (h2:(1:Int)<s.size) (h0:0<s.size) (h:((s[0].toNat:Int) != 32)=false)
 |second (h2:(1:Int)<s.size) (h3:1<s.size) (h0:((s[0].toNat:Int) != 32)=true) (h:((s[1].toNat:Int) != 32)=false)
 |other (h2:(1:Int)<s.size) (h3:1<s.size) (h0:((s[0].toNat:Int) != 32)=true) (h1:((s[1].toNat:Int) != 32)=true) (hc:Lib.contains wG (s.data.toList.take 2)=false)
theorem aK7(s:ByteArray)(w:World)(he:Env w)(h2:0<s.size)(hn:aH1 s)(hb:0 <= Lib.indexByte dW s[0]):
  Calls prog 101 #[.string s] w fun e w'=>e=.returned (aE9 s 1) /\ Below w.heap.size w w':=by
 have hx:=pY s 1
 cases hn
 all_goals
  go_enter func101,Tryz.ntmps101
  go_wp2_with (first|(go_at_call 141;refine (nT _ _ (he.alloc _)).mono ?_;rintro e w' ⟨rfl,rfl⟩)|(go_at_call 96;refine (oD _ _).mono ?_;rintro e w' ⟨rfl,rfl⟩))
  go_returns
  exact ⟨rfl,by go_grown⟩
theorem aKr(s:ByteArray)(w:World)(he:Env w)(h2:0<s.size)(hn:aH1 s)(hb:Lib.indexByte dW s[0]<0):
  Calls prog 101 #[.string s] w fun e w'=>e=.returned (aE9 s 0) /\ Below w.heap.size w w':=by
 have hx:=pY s 1
 cases hn
 all_goals
  go_enter func101,Tryz.ntmps101
  go_wp2_with (first|(go_at_call 141;refine (nT _ _ (he.alloc _)).mono ?_;rintro e w' ⟨rfl,rfl⟩)|(go_at_call 96;refine (oD _ _).mono ?_;rintro e w' ⟨rfl,rfl⟩))
  go_returns
  exact ⟨rfl,by go_grown⟩
theorem aHm(c:UInt8):(c≠32 -> ((c.toNat:Int) != 32)=true) /\ (c=32 -> ((c.toNat:Int) != 32)=false):=by
 refine ⟨fun h=>?_,fun h=>by subst h;rfl⟩
 simp only [bne_iff_ne,ne_eq]
 intro h3;apply h;apply UInt8.toNat_inj.1;show c.toNat=32;omega
theorem aLp(s:ByteArray)(w:World)(he:Env w)(h0:0<s.size):
  Calls prog 101 #[.string s] w fun e w'=>e=.returned (aE9 s (jE s.data.toList)) /\ Below w.heap.size w w':=by
 have hl:s.data.toList.length=s.size:=rfl
 have hcons:=dR s.data.toList 0 (by omega)
 rw [List.drop_zero] at hcons
 have key:aH1 s /\ ¬(2 <= s.data.toList.length /\ s.data.toList.take 2∈fE) -> Calls prog 101 #[.string s] w fun e w'=>e=.returned (aE9 s (jE s.data.toList)) /\ Below w.heap.size w w':=by
  rintro ⟨hn,hm⟩
  by_cases hb:Lib.indexByte dW s[0]<0
  ·have:=(vL _).1 hb
   rw [show jE s.data.toList=0 from by rw [hcons] at hm⊢;exact tL hm this]
   exact aKr s w he h0 hn hb
  have:s[0]∈dW:=Classical.byContradiction fun h=>hb ((vL _).2 h)
  rw [show jE s.data.toList=1 from by rw [hcons] at hm⊢;exact oR hm this]
  exact aK7 s w he h0 hn (by omega)
 by_cases h2:1<s.size
 ·have e2:s.data.toList.take 2=[s[0],s[1]]:=by
   rw [hcons,dR s.data.toList 1 (by omega)];rfl
  by_cases ha:s[0]=32
  ·refine key ⟨.first (by omega) h0 ((aHm _).2 ha),fun h=>?_⟩
   rw [e2] at h;exact (rK _ _ h.2).1 ha
  by_cases hb:s[1]=32
  ·refine key ⟨.second (by omega) h2 ((aHm _).1 ha) ((aHm _).2 hb),fun h=>?_⟩
   rw [e2] at h;exact (rK _ _ h.2).2 hb
  by_cases hc:Lib.contains wG (s.data.toList.take 2)=true
  ·have hm:s.data.toList.take 2∈fE:=by rw [e2] at hc⊢;exact (aBy _ _ ha hb).1 hc
   rw [pA (by omega) hm]
   have h3:=(aHm _).1 ha
   have h4:=(aHm _).1 hb
   exact aLh s w he h2 (by simp at h3⊢;exact h3) (by simp at h4⊢;exact h4) hc
  refine key ⟨.other (by omega) h2 ((aHm _).1 ha) ((aHm _).1 hb) (by simpa using hc),fun h=>hc ?_⟩
  have hm:=h.2
  rw [e2] at hm⊢;exact (aBy _ _ ha hb).2 hm
 ·exact key ⟨.short (by omega),by rintro ⟨h,_⟩;omega⟩
structure TB (P:Program) (E e:TypeId) (i:TypeInfo) (z bytes:Nat) (zv:Value):Prop where
  hu:P.underlying E=some (.slice e)
  hi:P.info? e=some i
  hz:i.zero=some zv
  hsz:i.size=z
  hby:i.bytes=bytes
  hzs:zv.cells.size=z
  h0:0<z
structure ZB (P:Program) (E e:TypeId) (i:TypeInfo) (len:Nat) (z:Value) (zc:List AC):Prop where
  hu:P.underlying E=some (.slice e)
  hi:P.info? e=some i
  hz:i.zero=some z
  hsmall:¬len*i.size>2 ^ 24
  hpos:¬len*i.size=0
  hzc:(((Array.range (len*i.size)).map (z.cells[·% z.cells.size]!)).toList.all (·.oneCell'))=true
  hzr:((Array.range (len*i.size)).map (z.cells[·% z.cells.size]!)).toList.map .val=zc
section
variable {P:Program}{U:List Nat}{o:Oper}{n d:Nat}{T:List Nat}{s:Sto}{ts:List (Nat×AT)}{bx:List Box}{K:AS -> Prop}
theorem bDm{E e:TypeId}{i:TypeInfo}{x y:Operand}{k m z bytes:Nat}{v zv:Value}{cs ds r:List AC}(A:List bA)(t:TB P E e i z bytes zv){B:List bA}(h0:(o.op,o.dst,Nat.blt d n,evA ⟨n,T,⟨bx,A++⟨v,e,z,k,cs⟩::B⟩,ts⟩ x,evA ⟨n,T,⟨bx,A++⟨v,e,z,k,cs⟩::B⟩,ts⟩ y)=(.call {callee:=.builtin .append,args:=#[x,y],argTypes:=#[E,E]},some d,true,some (.c (.val v)),some (.c (.sl m ds))))
    (hm:ds.length=m*z) (hm0:0<m) (hlen:k+m <= maxLen) (hbytes:(k+m)*bytes <= 140737488355328) {N:Nat} (hN:k+m=N) (hU:(⟨bx,A++⟨v,e,z,k,cs⟩::B⟩:Sto).bl.Nodup -> ∀b,b∈aY v -> b∈U) (hT:∀b,b∈aY v -> b∈T) (hr:cs++ds=r)
    (h:∀v',K ⟨n,aY v'++T,⟨bx,A++⟨v',e,z,N,r⟩::B⟩,(d,.c (.val v'))::ts⟩):AO P U o ⟨n,T,⟨bx,A++⟨v,e,z,k,cs⟩::B⟩,ts⟩ K:=by
  simp only [Prod.mk.injEq] at h0
  exact eV A i bytes h0.1 h0.2.1 (Nat.le_of_ble_eq_true h0.2.2.1) h0.2.2.2.1 h0.2.2.2.2 t.hu t.hi t.hz t.hsz t.hby t.hzs t.h0 hm hm0 hlen hbytes hN hU hT hr h
theorem bDk{E e:TypeId}{i:TypeInfo}{z:Value}{len:Nat}{parts:Array (Nat×Operand)}{ps:List (Nat×AT)}{zc r:List AC}(t:ZB P E e i len z zc)(h0:(o.op,o.dst,Nat.blt d n)=(.buildSlice E len parts,some d,true))(hps:EvP ⟨n,T,s,ts⟩ parts.toList ps)
    (hf:qO (fun k=>some (k*i.size,i.size)) zc ps=some r) (h:K ⟨n,T,s,(d,.c (.sl len r))::ts⟩):AO P U o ⟨n,T,s,ts⟩ K:=by
  simp only [Prod.mk.injEq] at h0
  exact wbs i zc h0.1 h0.2.1 (Nat.le_of_ble_eq_true h0.2.2) hps t.hu t.hi t.hz t.hsmall t.hpos t.hzc t.hzr hf h
end
def bWj:=(⟨underlying76,(by kernel_rfl),rfl,rfl,rfl,rfl,(by decide)⟩:TB prog 76 141 Tryz.t141 7 104 _)
def bN3:=(⟨underlying23,(by kernel_rfl),rfl,rfl,rfl,rfl,(by decide)⟩:TB prog 23 5 Tryz.t5 1 1 _)
def bWk:=(⟨underlying28,(by kernel_rfl),rfl,rfl,rfl,rfl,(by decide)⟩:TB prog 28 58 Tryz.t58 3 64 _)
def bWh:=(⟨underlying27,(by kernel_rfl),rfl,rfl,rfl,rfl,(by decide)⟩:TB prog 27 70 Tryz.t70 3 32 _)
def bWo:=(⟨underlying56,(by kernel_rfl),rfl,rfl,rfl,rfl,(by decide)⟩:TB prog 56 78 Tryz.t78 11 192 _)
def bDn:=(⟨underlying26,(by kernel_rfl),rfl,rfl,rfl,rfl,(by decide)⟩:TB prog 26 86 Tryz.t86 2 24 _)
def bDt:=(⟨underlying55,(by kernel_rfl),rfl,rfl,rfl,rfl,(by decide)⟩:TB prog 55 89 Tryz.t89 2 24 _)
def bWi:=(⟨underlying50,(by kernel_rfl),rfl,rfl,rfl,rfl,(by decide)⟩:TB prog 50 9 Tryz.t9 1 16 _)
def zb0:=(⟨underlying76,(by kernel_rfl),rfl,(by decide),(by decide),(by kernel_rfl),(by kernel_rfl)⟩:ZB prog 76 141 Tryz.t141 1 _ [.val (.bool false),.val (.string ⟨#[]⟩),.val (.slice none 0 0),.val (.int .i64 0),.val (.int .i64 0),.val (.string ⟨#[]⟩),.val (.slice none 0 0)])
def zb1:=(⟨underlying23,(by kernel_rfl),rfl,(by decide),(by decide),(by kernel_rfl),(by kernel_rfl)⟩:ZB prog 23 5 Tryz.t5 1 _ [.val (.int .u8 0)])
def zb2:=(⟨underlying28,(by kernel_rfl),rfl,(by decide),(by decide),(by kernel_rfl),(by kernel_rfl)⟩:ZB prog 28 58 Tryz.t58 1 _ [.val (.string ⟨#[]⟩),.val (.slice none 0 0),.val (.slice none 0 0)])
def zb3:=(⟨underlying27,(by kernel_rfl),rfl,(by decide),(by decide),(by kernel_rfl),(by kernel_rfl)⟩:ZB prog 27 70 Tryz.t70 1 _ [.val (.string ⟨#[]⟩),.val (.bool false),.val (.int .i64 0)])
def zb5:=(⟨underlying71,(by kernel_rfl),rfl,(by decide),(by decide),(by kernel_rfl),(by kernel_rfl)⟩:ZB prog 71 73 Tryz.t73 1 _ [.val (.int .i64 0),.val (.int .i64 0),.val (.string ⟨#[]⟩),.val (.slice none 0 0)])
def zb6:=(⟨underlying56,(by kernel_rfl),rfl,(by decide),(by decide),(by kernel_rfl),(by kernel_rfl)⟩:ZB prog 56 78 Tryz.t78 1 _ [.val (.int .i64 0),.val (.string ⟨#[]⟩),.val (.int .i64 0),.val (.int .i64 0),.val (.string ⟨#[]⟩),.val (.slice none 0 0),.val (.string ⟨#[]⟩),.val (.slice none 0 0),.val (.slice none 0 0),.val (.slice none 0 0),.val (.slice none 0 0)])
def zb7:=(⟨underlying26,(by kernel_rfl),rfl,(by decide),(by decide),(by kernel_rfl),(by kernel_rfl)⟩:ZB prog 26 86 Tryz.t86 1 _ [.val (.string ⟨#[]⟩),.val (.int .i64 0)])
def zb8:=(⟨underlying55,(by kernel_rfl),rfl,(by decide),(by decide),(by kernel_rfl),(by kernel_rfl)⟩:ZB prog 55 89 Tryz.t89 1 _ [.val (.string ⟨#[]⟩),.val (.bool false)])
def zb9:=(⟨underlying50,(by kernel_rfl),rfl,(by decide),(by decide),(by kernel_rfl),(by kernel_rfl)⟩:ZB prog 50 9 Tryz.t9 5 _ [.val (.string ⟨#[]⟩),.val (.string ⟨#[]⟩),.val (.string ⟨#[]⟩),.val (.string ⟨#[]⟩),.val (.string ⟨#[]⟩)])
def bDu:=(⟨underlying50,(by kernel_rfl),rfl,(by decide),(by decide),(by kernel_rfl),(by kernel_rfl)⟩:ZB prog 50 9 Tryz.t9 3 _ [.val (.string ⟨#[]⟩),.val (.string ⟨#[]⟩),.val (.string ⟨#[]⟩)])
def bLv:=(⟨underlying50,(by kernel_rfl),rfl,(by decide),(by decide),(by kernel_rfl),(by kernel_rfl)⟩:ZB prog 50 9 Tryz.t9 1 _ [.val (.string ⟨#[]⟩)])
end
end Go.Proofs.YtojinfngbbajgaaGreatDoor
