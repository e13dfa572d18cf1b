import Derived.Test.YtojinfngbbajgaaGreatDoorF4J
import Derived.Test.YtojinfngbbajgaaGreatDoorProg
import Derived.MapKept
set_option linter.all false
set_option synthInstance.maxHeartbeats 1000000
set_option synthInstance.maxSize 1000000
namespace Go.Proofs.YtojinfngbbajgaaGreatDoor
open Go.Proofs.Tryz
open List (length_append length_cons length_nil mem_append mem_cons not_mem_nil append_assoc getElem_mem take_of_length_le)
section
open Go.RowKit
instance bCw:TY prog 2 false 1:=⟨isAgg2,sizeOf2⟩
instance bCx:eM prog 2 [.val (.int .i64 0)]:=⟨_,zeroValue2,rfl⟩
instance bCu:TY prog 3 false 1:=⟨isAgg3,sizeOf3⟩
instance bC3:eM prog 3 [.val (.int .i64 0)]:=⟨_,zeroValue3,rfl⟩
instance bCr:TY prog 4 false 1:=⟨isAgg4,sizeOf4⟩
instance bDa:eM prog 4 [.val (.bool false)]:=⟨_,zeroValue4,rfl⟩
instance bC0:TY prog 5 false 1:=⟨isAgg5,sizeOf5⟩
instance bCt:eM prog 5 [.val (.int .u8 0)]:=⟨_,zeroValue5,rfl⟩
instance bDc:TY prog 9 false 1:=⟨isAgg9,sizeOf9⟩
instance aXn:aRy prog 9:=⟨runUnderlying9⟩
instance bC6:eM prog 9 [.val (.string ⟨#[]⟩)]:=⟨_,zeroValue9,rfl⟩
instance bCz:TY prog 12 false 1:=⟨isAgg12,sizeOf12⟩
instance bDb:eM prog 12 [.val (.int .u64 0)]:=⟨_,zeroValue12,rfl⟩
instance bC8:TY prog 19 true 1:=⟨isAgg19,sizeOf19⟩
instance aX2:eG prog 19 0 0 17:=⟨_,runUnderlying19,rfl⟩
instance bCv:eM prog 19 [.val (.pointer none)]:=⟨_,zeroValue19,rfl⟩
instance bCy:Plc prog 19 [(0,1)] [.val (.pointer none)]:=⟨_,Tryz.t19,_,underlying19,by kernel_rfl,rfl,by kernel_rfl,rfl⟩
instance bC4:TY prog 21 false 1:=⟨isAgg21,sizeOf21⟩
instance bC7:eM prog 21 [.val (.int .i32 0)]:=⟨_,zeroValue21,rfl⟩
instance bC5:TY prog 22 false 1:=⟨isAgg22,sizeOf22⟩
instance bBu:TSl prog 22 3:=⟨runUnderlying22⟩
instance bDe:eM prog 22 [.val (.slice none 0 0)]:=⟨_,zeroValue22,rfl⟩
instance bC2:TY prog 23 false 1:=⟨isAgg23,sizeOf23⟩
instance bAd:TSl prog 23 5:=⟨runUnderlying23⟩
instance bDd:eM prog 23 [.val (.slice none 0 0)]:=⟨_,zeroValue23,rfl⟩
instance aZ8:TY prog 26 false 1:=⟨isAgg26,sizeOf26⟩
instance aX8:TSl prog 26 86:=⟨runUnderlying26⟩
instance bB9:eM prog 26 [.val (.slice none 0 0)]:=⟨_,zeroValue26,rfl⟩
instance bB6:TY prog 27 false 1:=⟨isAgg27,sizeOf27⟩
instance bXh:TSl prog 27 70:=⟨runUnderlying27⟩
instance bAb:eM prog 27 [.val (.slice none 0 0)]:=⟨_,zeroValue27,rfl⟩
instance aZz:TY prog 28 false 1:=⟨isAgg28,sizeOf28⟩
instance aYp:TSl prog 28 58:=⟨runUnderlying28⟩
instance bAs:eM prog 28 [.val (.slice none 0 0)]:=⟨_,zeroValue28,rfl⟩
instance bA3:TY prog 30 true 3:=⟨isAgg30,sizeOf30⟩
instance bW5:eG prog 30 0 0 26:=⟨_,runUnderlying30,rfl⟩
instance bWz:eG prog 30 1 1 27:=⟨_,runUnderlying30,rfl⟩
instance bW8:eG prog 30 2 2 28:=⟨_,runUnderlying30,rfl⟩
instance bCn:eM prog 30 [.val (.slice none 0 0),.val (.slice none 0 0),.val (.slice none 0 0)]:=⟨_,zeroValue30,rfl⟩
instance bXl:Plc prog 30 [(0,1),(1,1),(2,1)] [.val (.slice none 0 0),.val (.slice none 0 0),.val (.slice none 0 0)]:=⟨_,Tryz.t30,_,underlying30,by kernel_rfl,rfl,by kernel_rfl,rfl⟩
instance aZh:TY prog 31 false 1:=⟨isAgg31,sizeOf31⟩
instance bAn:eM prog 31 [.val (.int .i64 0)]:=⟨_,zeroValue31,rfl⟩
instance bAx:TY prog 36 false 1:=⟨isAgg36,sizeOf36⟩
instance bXg:TSl prog 36 66:=⟨runUnderlying36⟩
instance bAk:eM prog 36 [.val (.slice none 0 0)]:=⟨_,zeroValue36,rfl⟩
instance aZc:TY prog 50 false 1:=⟨isAgg50,sizeOf50⟩
instance bJs:TSl prog 50 9:=⟨runUnderlying50⟩
instance aZd:eM prog 50 [.val (.slice none 0 0)]:=⟨_,zeroValue50,rfl⟩
instance bBs:TY prog 55 false 1:=⟨isAgg55,sizeOf55⟩
instance aYv:TSl prog 55 89:=⟨runUnderlying55⟩
instance aZ1:eM prog 55 [.val (.slice none 0 0)]:=⟨_,zeroValue55,rfl⟩
instance bBk:TY prog 56 false 1:=⟨isAgg56,sizeOf56⟩
instance aXs:TSl prog 56 78:=⟨runUnderlying56⟩
instance bA8:eM prog 56 [.val (.slice none 0 0)]:=⟨_,zeroValue56,rfl⟩
instance aZe:TY prog 58 true 3:=⟨isAgg58,sizeOf58⟩
instance bWp:eG prog 58 0 0 9:=⟨_,runUnderlying58,rfl⟩
instance bWs:eG prog 58 1 1 55:=⟨_,runUnderlying58,rfl⟩
instance bW0:eG prog 58 2 2 56:=⟨_,runUnderlying58,rfl⟩
instance bCd:eM prog 58 [.val (.string ⟨#[]⟩),.val (.slice none 0 0),.val (.slice none 0 0)]:=⟨_,zeroValue58,rfl⟩
instance bXn:Plc prog 58 [(0,1),(1,1),(2,1)] [.val (.string ⟨#[]⟩),.val (.slice none 0 0),.val (.slice none 0 0)]:=⟨_,Tryz.t58,_,underlying58,by kernel_rfl,rfl,by kernel_rfl,rfl⟩
instance bAe:TY prog 62 false 1:=⟨isAgg62,sizeOf62⟩
instance bBh:TY prog 64 true 4:=⟨isAgg64,sizeOf64⟩
instance bIu:eG prog 64 0 0 36:=⟨_,runUnderlying64,rfl⟩
instance bJi:eG prog 64 1 1 3:=⟨_,runUnderlying64,rfl⟩
instance bXb:eG prog 64 2 2 3:=⟨_,runUnderlying64,rfl⟩
instance bW3:eG prog 64 3 3 31:=⟨_,runUnderlying64,rfl⟩
instance bJy:eM prog 64 [.val (.slice none 0 0),.val (.int .i64 0),.val (.int .i64 0),.val (.int .i64 0)]:=⟨_,zeroValue64,rfl⟩
instance bKz:Plc prog 64 [(0,1),(1,1),(2,1),(3,1)] [.val (.slice none 0 0),.val (.int .i64 0),.val (.int .i64 0),.val (.int .i64 0)]:=⟨_,Tryz.t64,_,underlying64,by kernel_rfl,rfl,by kernel_rfl,rfl⟩
instance bBo:TY prog 66 true 4:=⟨isAgg66,sizeOf66⟩
instance bH6:eG prog 66 0 0 3:=⟨_,runUnderlying66,rfl⟩
instance bIr:eG prog 66 1 1 9:=⟨_,runUnderlying66,rfl⟩
instance bH4:eG prog 66 2 2 3:=⟨_,runUnderlying66,rfl⟩
instance bW6:eG prog 66 3 3 3:=⟨_,runUnderlying66,rfl⟩
instance bJ2:eM prog 66 [.val (.int .i64 0),.val (.string ⟨#[]⟩),.val (.int .i64 0),.val (.int .i64 0)]:=⟨_,zeroValue66,rfl⟩
instance bKt:Plc prog 66 [(0,1),(1,1),(2,1),(3,1)] [.val (.int .i64 0),.val (.string ⟨#[]⟩),.val (.int .i64 0),.val (.int .i64 0)]:=⟨_,Tryz.t66,_,underlying66,by kernel_rfl,rfl,by kernel_rfl,rfl⟩
instance bAt:TY prog 68 false 1:=⟨isAgg68,sizeOf68⟩
instance bBn:TY prog 70 true 3:=⟨isAgg70,sizeOf70⟩
instance aWb:eG prog 70 0 0 9:=⟨_,runUnderlying70,rfl⟩
instance aU5:eG prog 70 1 1 4:=⟨_,runUnderlying70,rfl⟩
instance aVn:eG prog 70 2 2 3:=⟨_,runUnderlying70,rfl⟩
instance bAi:eM prog 70 [.val (.string ⟨#[]⟩),.val (.bool false),.val (.int .i64 0)]:=⟨_,zeroValue70,rfl⟩
instance bCi:Plc prog 70 [(0,1),(1,1),(2,1)] [.val (.string ⟨#[]⟩),.val (.bool false),.val (.int .i64 0)]:=⟨_,Tryz.t70,_,underlying70,by kernel_rfl,rfl,by kernel_rfl,rfl⟩
instance bBp:TY prog 71 false 1:=⟨isAgg71,sizeOf71⟩
instance bXi:TSl prog 71 73:=⟨runUnderlying71⟩
instance bCm:eM prog 71 [.val (.slice none 0 0)]:=⟨_,zeroValue71,rfl⟩
instance bBv:TY prog 73 true 4:=⟨isAgg73,sizeOf73⟩
instance aUm:eG prog 73 0 0 3:=⟨_,runUnderlying73,rfl⟩
instance aWo:eG prog 73 1 1 3:=⟨_,runUnderlying73,rfl⟩
instance bWu:eG prog 73 2 2 9:=⟨_,runUnderlying73,rfl⟩
instance bWt:eG prog 73 3 3 71:=⟨_,runUnderlying73,rfl⟩
instance aZs:eM prog 73 [.val (.int .i64 0),.val (.int .i64 0),.val (.string ⟨#[]⟩),.val (.slice none 0 0)]:=⟨_,zeroValue73,rfl⟩
instance aZ6:Plc prog 73 [(0,1),(1,1),(2,1),(3,1)] [.val (.int .i64 0),.val (.int .i64 0),.val (.string ⟨#[]⟩),.val (.slice none 0 0)]:=⟨_,Tryz.t73,_,underlying73,by kernel_rfl,rfl,by kernel_rfl,rfl⟩
instance bCo:TY prog 75 true 2:=⟨isAgg75,sizeOf75⟩
instance aWp:eG prog 75 0 0 9:=⟨_,runUnderlying75,rfl⟩
instance aUo:eG prog 75 1 1 71:=⟨_,runUnderlying75,rfl⟩
instance aZ2:eM prog 75 [.val (.string ⟨#[]⟩),.val (.slice none 0 0)]:=⟨_,zeroValue75,rfl⟩
instance bBj:Plc prog 75 [(0,1),(1,1)] [.val (.string ⟨#[]⟩),.val (.slice none 0 0)]:=⟨_,Tryz.t75,_,underlying75,by kernel_rfl,rfl,by kernel_rfl,rfl⟩
instance bBr:TY prog 76 false 1:=⟨isAgg76,sizeOf76⟩
instance bJr:TSl prog 76 141:=⟨runUnderlying76⟩
instance bKq:eM prog 76 [.val (.slice none 0 0)]:=⟨_,zeroValue76,rfl⟩
instance bAw:TY prog 78 true 11:=⟨isAgg78,sizeOf78⟩
instance aW8:eG prog 78 0 0 3:=⟨_,runUnderlying78,rfl⟩
instance aXg:eG prog 78 1 1 9:=⟨_,runUnderlying78,rfl⟩
instance aW7:eG prog 78 2 2 73:=⟨_,runUnderlying78,rfl⟩
instance aWc:eG prog 78 3 6 75:=⟨_,runUnderlying78,rfl⟩
instance bWv:eG prog 78 4 8 76:=⟨_,runUnderlying78,rfl⟩
instance bW4:eG prog 78 5 9 56:=⟨_,runUnderlying78,rfl⟩
instance bWx:eG prog 78 6 10 56:=⟨_,runUnderlying78,rfl⟩
instance aZu:eM prog 78 [.val (.int .i64 0),.val (.string ⟨#[]⟩),.val (.int .i64 0),.val (.int .i64 0),.val (.string ⟨#[]⟩),.val (.slice none 0 0),.val (.string ⟨#[]⟩),.val (.slice none 0 0),.val (.slice none 0 0),.val (.slice none 0 0),.val (.slice none 0 0)]:=⟨_,zeroValue78,rfl⟩
instance bAf:Plc prog 78 [(0,1),(1,1),(2,4),(6,2),(8,1),(9,1),(10,1)] [.val (.int .i64 0),.val (.string ⟨#[]⟩),.val (.int .i64 0),.val (.int .i64 0),.val (.string ⟨#[]⟩),.val (.slice none 0 0),.val (.string ⟨#[]⟩),.val (.slice none 0 0),.val (.slice none 0 0),.val (.slice none 0 0),.val (.slice none 0 0)]:=⟨_,Tryz.t78,_,underlying78,by kernel_rfl,rfl,by kernel_rfl,rfl⟩
instance bBc:TY prog 86 true 2:=⟨isAgg86,sizeOf86⟩
instance aUx:eG prog 86 0 0 9:=⟨_,runUnderlying86,rfl⟩
instance aXb:eG prog 86 1 1 3:=⟨_,runUnderlying86,rfl⟩
instance aZ9:eM prog 86 [.val (.string ⟨#[]⟩),.val (.int .i64 0)]:=⟨_,zeroValue86,rfl⟩
instance aZ5:Plc prog 86 [(0,1),(1,1)] [.val (.string ⟨#[]⟩),.val (.int .i64 0)]:=⟨_,Tryz.t86,_,underlying86,by kernel_rfl,rfl,by kernel_rfl,rfl⟩
instance bAr:TY prog 89 true 2:=⟨isAgg89,sizeOf89⟩
instance bWw:eG prog 89 0 0 9:=⟨_,runUnderlying89,rfl⟩
instance bW2:eG prog 89 1 1 4:=⟨_,runUnderlying89,rfl⟩
instance bJ7:eM prog 89 [.val (.string ⟨#[]⟩),.val (.bool false)]:=⟨_,zeroValue89,rfl⟩
instance bXo:Plc prog 89 [(0,1),(1,1)] [.val (.string ⟨#[]⟩),.val (.bool false)]:=⟨_,Tryz.t89,_,underlying89,by kernel_rfl,rfl,by kernel_rfl,rfl⟩
instance bAy:TY prog 90 false 1:=⟨isAgg90,sizeOf90⟩
instance bBe:TY prog 91 false 1:=⟨isAgg91,sizeOf91⟩
instance bA1:TY prog 92 false 1:=⟨isAgg92,sizeOf92⟩
instance bCe:TY prog 94 true 7:=⟨isAgg94,sizeOf94⟩
instance aW5:eG prog 94 0 0 30:=⟨_,runUnderlying94,rfl⟩
instance aVz:eG prog 94 1 3 91:=⟨_,runUnderlying94,rfl⟩
instance aUp:eG prog 94 2 4 92:=⟨_,runUnderlying94,rfl⟩
instance aWs:eG prog 94 3 5 3:=⟨_,runUnderlying94,rfl⟩
instance bW1:eG prog 94 4 6 3:=⟨_,runUnderlying94,rfl⟩
instance bBd:TY prog 98 false 1:=⟨isAgg98,sizeOf98⟩
instance bAu:TY prog 99 false 1:=⟨isAgg99,sizeOf99⟩
instance bCg:TY prog 102 true 2:=⟨isAgg102,sizeOf102⟩
instance aWj:eG prog 102 0 0 22:=⟨_,runUnderlying102,rfl⟩
instance aUu:eG prog 102 1 1 3:=⟨_,runUnderlying102,rfl⟩
instance bAv:eM prog 102 [.val (.slice none 0 0),.val (.int .i64 0)]:=⟨_,zeroValue102,rfl⟩
instance bBf:Plc prog 102 [(0,1),(1,1)] [.val (.slice none 0 0),.val (.int .i64 0)]:=⟨_,Tryz.t102,_,underlying102,by kernel_rfl,rfl,by kernel_rfl,rfl⟩
instance bAm:TY prog 104 true 6:=⟨isAgg104,sizeOf104⟩
instance aUs:eG prog 104 0 0 99:=⟨_,runUnderlying104,rfl⟩
instance aV3:eG prog 104 1 1 30:=⟨_,runUnderlying104,rfl⟩
instance aXe:eG prog 104 2 4 3:=⟨_,runUnderlying104,rfl⟩
instance bXd:eG prog 104 3 5 4:=⟨_,runUnderlying104,rfl⟩
instance bCc:eM prog 104 [.val (.pointer none),.val (.slice none 0 0),.val (.slice none 0 0),.val (.slice none 0 0),.val (.int .i64 0),.val (.bool false)]:=⟨_,zeroValue104,rfl⟩
instance aZj:Plc prog 104 [(0,1),(1,3),(4,1),(5,1)] [.val (.pointer none),.val (.slice none 0 0),.val (.slice none 0 0),.val (.slice none 0 0),.val (.int .i64 0),.val (.bool false)]:=⟨_,Tryz.t104,_,underlying104,by kernel_rfl,rfl,by kernel_rfl,rfl⟩
instance aZi:TY prog 109 false 1:=⟨isAgg109,sizeOf109⟩
instance bXp:eM prog 109 [.val (.int .u64 0)]:=⟨_,zeroValue109,rfl⟩
instance bCq:TY prog 110 false 1:=⟨isAgg110,sizeOf110⟩
instance bB1:TY prog 112 true 6:=⟨isAgg112,sizeOf112⟩
instance bI8:eG prog 112 0 0 36:=⟨_,runUnderlying112,rfl⟩
instance bJh:eG prog 112 1 1 3:=⟨_,runUnderlying112,rfl⟩
instance bI2:eG prog 112 2 2 3:=⟨_,runUnderlying112,rfl⟩
instance bIj:eG prog 112 3 3 31:=⟨_,runUnderlying112,rfl⟩
instance bH1:eG prog 112 4 4 3:=⟨_,runUnderlying112,rfl⟩
instance bIk:eG prog 112 5 5 3:=⟨_,runUnderlying112,rfl⟩
instance bJ4:eM prog 112 [.val (.slice none 0 0),.val (.int .i64 0),.val (.int .i64 0),.val (.int .i64 0),.val (.int .i64 0),.val (.int .i64 0)]:=⟨_,zeroValue112,rfl⟩
instance bJ9:Plc prog 112 [(0,1),(1,1),(2,1),(3,1),(4,1),(5,1)] [.val (.slice none 0 0),.val (.int .i64 0),.val (.int .i64 0),.val (.int .i64 0),.val (.int .i64 0),.val (.int .i64 0)]:=⟨_,Tryz.t112,_,underlying112,by kernel_rfl,rfl,by kernel_rfl,rfl⟩
instance bAj:TY prog 130 false 1:=⟨isAgg130,sizeOf130⟩
instance bB4:TY prog 131 false 1:=⟨isAgg131,sizeOf131⟩
instance aZg:TY prog 133 true 2:=⟨isAgg133,sizeOf133⟩
instance bJa:eG prog 133 0 0 131:=⟨_,runUnderlying133,rfl⟩
instance bIt:eG prog 133 1 1 23:=⟨_,runUnderlying133,rfl⟩
instance bKe:eM prog 133 [.val (.pointer none),.val (.slice none 0 0)]:=⟨_,zeroValue133,rfl⟩
instance bKa:Plc prog 133 [(0,1),(1,1)] [.val (.pointer none),.val (.slice none 0 0)]:=⟨_,Tryz.t133,_,underlying133,by kernel_rfl,rfl,by kernel_rfl,rfl⟩
instance bCl:TY prog 135 true 3:=⟨isAgg135,sizeOf135⟩
instance aWr:eG prog 135 0 0 133:=⟨_,runUnderlying135,rfl⟩
instance aWm:eG prog 135 1 2 3:=⟨_,runUnderlying135,rfl⟩
instance bA2:eM prog 135 [.val (.pointer none),.val (.slice none 0 0),.val (.int .i64 0)]:=⟨_,zeroValue135,rfl⟩
instance bAa:Plc prog 135 [(0,2),(2,1)] [.val (.pointer none),.val (.slice none 0 0),.val (.int .i64 0)]:=⟨_,Tryz.t135,_,underlying135,by kernel_rfl,rfl,by kernel_rfl,rfl⟩
instance bAh:TY prog 141 true 7:=⟨isAgg141,sizeOf141⟩
instance aXi:eG prog 141 0 0 4:=⟨_,runUnderlying141,rfl⟩
instance aUe:eG prog 141 1 1 75:=⟨_,runUnderlying141,rfl⟩
instance bHm:eG prog 141 2 3 73:=⟨_,runUnderlying141,rfl⟩
instance bA4:eM prog 141 [.val (.bool false),.val (.string ⟨#[]⟩),.val (.slice none 0 0),.val (.int .i64 0),.val (.int .i64 0),.val (.string ⟨#[]⟩),.val (.slice none 0 0)]:=⟨_,zeroValue141,rfl⟩
instance bBm:Plc prog 141 [(0,1),(1,2),(3,4)] [.val (.bool false),.val (.string ⟨#[]⟩),.val (.slice none 0 0),.val (.int .i64 0),.val (.int .i64 0),.val (.string ⟨#[]⟩),.val (.slice none 0 0)]:=⟨_,Tryz.t141,_,underlying141,by kernel_rfl,rfl,by kernel_rfl,rfl⟩
instance bCj:TY prog 142 false 1:=⟨isAgg142,sizeOf142⟩
instance bAz:eM prog 142 [.val (.int .i64 0)]:=⟨_,zeroValue142,rfl⟩
instance bA0:TY prog 148 false 1:=⟨isAgg148,sizeOf148⟩
instance bJp:TSl prog 148 180:=⟨runUnderlying148⟩
instance aZx:eM prog 148 [.val (.slice none 0 0)]:=⟨_,zeroValue148,rfl⟩
instance aZ7:TY prog 150 true 4:=⟨isAgg150,sizeOf150⟩
instance bH2:eG prog 150 0 0 22:=⟨_,runUnderlying150,rfl⟩
instance bJm:eG prog 150 1 1 27:=⟨_,runUnderlying150,rfl⟩
instance bIi:eG prog 150 2 2 148:=⟨_,runUnderlying150,rfl⟩
instance bI4:eG prog 150 3 3 3:=⟨_,runUnderlying150,rfl⟩
instance bJz:eM prog 150 [.val (.slice none 0 0),.val (.slice none 0 0),.val (.slice none 0 0),.val (.int .i64 0)]:=⟨_,zeroValue150,rfl⟩
instance bKx:Plc prog 150 [(0,1),(1,1),(2,1),(3,1)] [.val (.slice none 0 0),.val (.slice none 0 0),.val (.slice none 0 0),.val (.int .i64 0)]:=⟨_,Tryz.t150,_,underlying150,by kernel_rfl,rfl,by kernel_rfl,rfl⟩
instance bB8:TY prog 168 false 1:=⟨isAgg168,sizeOf168⟩
instance bCf:TY prog 171 false 1:=⟨isAgg171,sizeOf171⟩
instance bXe:TSl prog 171 175:=⟨runUnderlying171⟩
instance bK1:eM prog 171 [.val (.slice none 0 0)]:=⟨_,zeroValue171,rfl⟩
instance bAc:TY prog 175 true 3:=⟨isAgg175,sizeOf175⟩
instance aUz:eG prog 175 0 0 9:=⟨_,runUnderlying175,rfl⟩
instance aWl:eG prog 175 1 1 3:=⟨_,runUnderlying175,rfl⟩
instance aWy:eG prog 175 2 2 3:=⟨_,runUnderlying175,rfl⟩
instance aZf:eM prog 175 [.val (.string ⟨#[]⟩),.val (.int .i64 0),.val (.int .i64 0)]:=⟨_,zeroValue175,rfl⟩
instance bBi:Plc prog 175 [(0,1),(1,1),(2,1)] [.val (.string ⟨#[]⟩),.val (.int .i64 0),.val (.int .i64 0)]:=⟨_,Tryz.t175,_,underlying175,by kernel_rfl,rfl,by kernel_rfl,rfl⟩
instance bCb:TY prog 178 false 1:=⟨isAgg178,sizeOf178⟩
instance bXf:TSl prog 178 216:=⟨runUnderlying178⟩
instance bJ1:eM prog 178 [.val (.slice none 0 0)]:=⟨_,zeroValue178,rfl⟩
instance bAg:TY prog 180 true 5:=⟨isAgg180,sizeOf180⟩
instance aV1:eG prog 180 0 0 9:=⟨_,runUnderlying180,rfl⟩
instance aU1:eG prog 180 1 1 3:=⟨_,runUnderlying180,rfl⟩
instance aVd:eG prog 180 2 2 3:=⟨_,runUnderlying180,rfl⟩
instance aUb:eG prog 180 3 3 3:=⟨_,runUnderlying180,rfl⟩
instance bXc:eG prog 180 4 4 178:=⟨_,runUnderlying180,rfl⟩
instance bA9:eM prog 180 [.val (.string ⟨#[]⟩),.val (.int .i64 0),.val (.int .i64 0),.val (.int .i64 0),.val (.slice none 0 0)]:=⟨_,zeroValue180,rfl⟩
instance aZv:Plc prog 180 [(0,1),(1,1),(2,1),(3,1),(4,1)] [.val (.string ⟨#[]⟩),.val (.int .i64 0),.val (.int .i64 0),.val (.int .i64 0),.val (.slice none 0 0)]:=⟨_,Tryz.t180,_,underlying180,by kernel_rfl,rfl,by kernel_rfl,rfl⟩
instance bA7:TY prog 189 false 1:=⟨isAgg189,sizeOf189⟩
instance bKd:eM prog 189 [.val (.int .u64 0)]:=⟨_,zeroValue189,rfl⟩
instance bAq:TY prog 199 false 1:=⟨isAgg199,sizeOf199⟩
instance bB5:TY prog 208 false 1:=⟨isAgg208,sizeOf208⟩
instance bBg:TY prog 210 true 10:=⟨isAgg210,sizeOf210⟩
instance bI5:eG prog 210 0 0 30:=⟨_,runUnderlying210,rfl⟩
instance bH5:eG prog 210 1 3 171:=⟨_,runUnderlying210,rfl⟩
instance bHr:eG prog 210 2 4 3:=⟨_,runUnderlying210,rfl⟩
instance bIf:eG prog 210 3 5 3:=⟨_,runUnderlying210,rfl⟩
instance bIw:eG prog 210 4 6 3:=⟨_,runUnderlying210,rfl⟩
instance bH3:eG prog 210 5 7 31:=⟨_,runUnderlying210,rfl⟩
instance bIo:eG prog 210 6 8 178:=⟨_,runUnderlying210,rfl⟩
instance bH0:eG prog 210 7 9 22:=⟨_,runUnderlying210,rfl⟩
instance bKj:eM prog 210 [.val (.slice none 0 0),.val (.slice none 0 0),.val (.slice none 0 0),.val (.slice none 0 0),.val (.int .i64 0),.val (.int .i64 0),.val (.int .i64 0),.val (.int .i64 0),.val (.slice none 0 0),.val (.slice none 0 0)]:=⟨_,zeroValue210,rfl⟩
instance bKb:Plc prog 210 [(0,3),(3,1),(4,1),(5,1),(6,1),(7,1),(8,1),(9,1)] [.val (.slice none 0 0),.val (.slice none 0 0),.val (.slice none 0 0),.val (.slice none 0 0),.val (.int .i64 0),.val (.int .i64 0),.val (.int .i64 0),.val (.int .i64 0),.val (.slice none 0 0),.val (.slice none 0 0)]:=⟨_,Tryz.t210,_,underlying210,by kernel_rfl,rfl,by kernel_rfl,rfl⟩
instance bBt:TY prog 213 true 3:=⟨isAgg213,sizeOf213⟩
instance bIp:eG prog 213 0 0 4:=⟨_,runUnderlying213,rfl⟩
instance bIg:eG prog 213 1 1 3:=⟨_,runUnderlying213,rfl⟩
instance bHv:eG prog 213 2 2 71:=⟨_,runUnderlying213,rfl⟩
instance bKi:eM prog 213 [.val (.bool false),.val (.int .i64 0),.val (.slice none 0 0)]:=⟨_,zeroValue213,rfl⟩
instance bKg:Plc prog 213 [(0,1),(1,1),(2,1)] [.val (.bool false),.val (.int .i64 0),.val (.slice none 0 0)]:=⟨_,Tryz.t213,_,underlying213,by kernel_rfl,rfl,by kernel_rfl,rfl⟩
instance aZm:TY prog 214 false 1:=⟨isAgg214,sizeOf214⟩
instance bJt:TSl prog 214 213:=⟨runUnderlying214⟩
instance bKh:eM prog 214 [.val (.slice none 0 0)]:=⟨_,zeroValue214,rfl⟩
instance bB0:TY prog 216 true 12:=⟨isAgg216,sizeOf216⟩
instance bHp:eG prog 216 0 0 3:=⟨_,runUnderlying216,rfl⟩
instance bId:eG prog 216 1 1 3:=⟨_,runUnderlying216,rfl⟩
instance bJl:eG prog 216 2 2 4:=⟨_,runUnderlying216,rfl⟩
instance bIs:eG prog 216 3 3 73:=⟨_,runUnderlying216,rfl⟩
instance bIx:eG prog 216 4 7 213:=⟨_,runUnderlying216,rfl⟩
instance bJj:eG prog 216 5 10 71:=⟨_,runUnderlying216,rfl⟩
instance bIe:eG prog 216 6 11 214:=⟨_,runUnderlying216,rfl⟩
instance bK2:eM prog 216 [.val (.int .i64 0),.val (.int .i64 0),.val (.bool false),.val (.int .i64 0),.val (.int .i64 0),.val (.string ⟨#[]⟩),.val (.slice none 0 0),.val (.bool false),.val (.int .i64 0),.val (.slice none 0 0),.val (.slice none 0 0),.val (.slice none 0 0)]:=⟨_,zeroValue216,rfl⟩
instance bKy:Plc prog 216 [(0,1),(1,1),(2,1),(3,4),(7,3),(10,1),(11,1)] [.val (.int .i64 0),.val (.int .i64 0),.val (.bool false),.val (.int .i64 0),.val (.int .i64 0),.val (.string ⟨#[]⟩),.val (.slice none 0 0),.val (.bool false),.val (.int .i64 0),.val (.slice none 0 0),.val (.slice none 0 0),.val (.slice none 0 0)]:=⟨_,Tryz.t216,_,underlying216,by kernel_rfl,rfl,by kernel_rfl,rfl⟩
instance bJw:TY prog 222 true 11:=⟨isAgg222,sizeOf222⟩
instance bJ0:TY prog 227 true 6:=⟨isAgg227,sizeOf227⟩
instance bXa:eG prog 227 0 0 4:=⟨_,runUnderlying227,rfl⟩
instance bWr:eG prog 227 1 1 4:=⟨_,runUnderlying227,rfl⟩
instance bWy:eG prog 227 2 2 4:=⟨_,runUnderlying227,rfl⟩
instance bW9:eG prog 227 3 3 4:=⟨_,runUnderlying227,rfl⟩
instance bWq:eG prog 227 4 4 4:=⟨_,runUnderlying227,rfl⟩
instance bW7:eG prog 227 5 5 4:=⟨_,runUnderlying227,rfl⟩
instance bXm:eM prog 227 [.val (.bool false),.val (.bool false),.val (.bool false),.val (.bool false),.val (.bool false),.val (.bool false)]:=⟨_,zeroValue227,rfl⟩
instance bXk:Plc prog 227 [(0,1),(1,1),(2,1),(3,1),(4,1),(5,1)] [.val (.bool false),.val (.bool false),.val (.bool false),.val (.bool false),.val (.bool false),.val (.bool false)]:=⟨_,Tryz.t227,_,underlying227,by kernel_rfl,rfl,by kernel_rfl,rfl⟩
instance bKk:TY prog 244 true 24:=⟨isAgg244,sizeOf244⟩
instance bJ5:TY prog 256 true 20:=⟨isAgg256,sizeOf256⟩
instance bKn:TY prog 257 false 1:=⟨isAgg257,sizeOf257⟩
instance bK0:eM prog 257 [.val (.int .u32 0)]:=⟨_,zeroValue257,rfl⟩
instance bKc:TY prog 258 true 65:=⟨isAgg258,sizeOf258⟩
instance bKw:TY prog 261 true 18:=⟨isAgg261,sizeOf261⟩
instance bKo:TY prog 265 false 1:=⟨isAgg265,sizeOf265⟩
instance bKp:TY prog 267 true 4:=⟨isAgg267,sizeOf267⟩
instance bI1:eG prog 267 0 0 36:=⟨_,runUnderlying267,rfl⟩
instance bIa:eG prog 267 1 1 3:=⟨_,runUnderlying267,rfl⟩
instance bI7:eG prog 267 2 2 3:=⟨_,runUnderlying267,rfl⟩
instance bHw:eG prog 267 3 3 31:=⟨_,runUnderlying267,rfl⟩
instance bKu:eM prog 267 [.val (.slice none 0 0),.val (.int .i64 0),.val (.int .i64 0),.val (.int .i64 0)]:=⟨_,zeroValue267,rfl⟩
instance bJx:Plc prog 267 [(0,1),(1,1),(2,1),(3,1)] [.val (.slice none 0 0),.val (.int .i64 0),.val (.int .i64 0),.val (.int .i64 0)]:=⟨_,Tryz.t267,_,underlying267,by kernel_rfl,rfl,by kernel_rfl,rfl⟩
instance bJ6:TY prog 271 true 32:=⟨isAgg271,sizeOf271⟩
instance bKl:TY prog 272 true 64:=⟨isAgg272,sizeOf272⟩
end
section
open Go.RowKit
open Go.ChangeMaps (setBlock)
def wid(m:Nat):Nat:=if m=0 then 1 else m
def cBz{α:Type}(ev:α -> List AC)(l:List (ByteArray×α)):List AC:=l.flatMap fun p=>.val (.string p.1)::ev p.2
abbrev hM{α:Type}(g m:Nat)(ev:α -> List AC)(l:List (ByteArray×α)):bA:=⟨bWn g,m,0,l.length,cBz ev l⟩
def bZu{α:Type}:List (ByteArray×α) -> ByteArray -> Option α
 |[],_=>none
 |p::l,k=>if p.1=k then some p.2 else bZu l k
def bZq{α:Type}:List (ByteArray×α) -> ByteArray -> α -> List (ByteArray×α)
 |[],k,a=>[(k,a)]
 |p::l,k,a=>if p.1=k then (k,a)::l else p::bZq l k a
def bZy{α:Type}:List (ByteArray×α) -> ByteArray -> List (ByteArray×α)
 |[],_=>[]
 |p::l,k=>if p.1=k then l else p::bZy l k
inductive cAi {α:Type} (w:World) (m:Nat) (ev:α -> List AC):List MapEntry -> List (ByteArray×α) -> Prop
 |nil:cAi w m ev [] []
 |cons {e:MapEntry} {k:ByteArray} {a:α} {L:List MapEntry} {l:List (ByteArray×α)} (hk:e.key=.string k) (hv:fG w (ev a) e.val.cells.toList) (hm:bWl m e) (t:cAi w m ev L l):cAi w m ev (e::L) ((k,a)::l)
section
variable {α:Type}{w:World}{m:Nat}{ev:α -> List AC}
theorem bWl.wid{e:MapEntry}(h:bWl m e):e.val.cells.toList.length=wid m:=by
 obtain ⟨-,h⟩:=h
 unfold Go.Proofs.YtojinfngbbajgaaGreatDoor.wid
 split at h
 ·rename_i h0
  rw [if_pos h0]
  cases hv:e.val<;>rw [hv] at h<;>first|rfl|cases h
 rename_i h0
 rw [if_neg h0]
 obtain ⟨us,e1,e2⟩:=h
 rw [e1];simpa [Value.cells] using e2
theorem cAi.len{L:List MapEntry}{l:List (ByteArray×α)}(h:cAi w m ev L l):L.length=l.length:=by
 induction h with
 |nil=>rfl
 |cons _ _ _ _ ih=>simp [ih]
theorem cAi.ok{L:List MapEntry}{l:List (ByteArray×α)}(h:cAi w m ev L l):∀e,e∈L -> bWl m e:=by
 induction h with
 |nil=>intro e h;cases h
 |cons _ _ hm _ ih=>intro e h;rcases mem_cons.1 h with rfl|h;exact hm;exact ih e h
theorem cAi.rep{L:List MapEntry}{l:List (ByteArray×α)}(h:cAi w m ev L l):fG w (cBz ev l) (L.flatMap bXj):=by
 induction h with
 |nil=>exact .nil _
 |cons hk hv hm t ih=>
  unfold cBz at ih⊢
  rw [List.flatMap_cons,List.flatMap_cons]
  refine fG.app ?_ ih
  unfold bXj
  rw [hk]
  exact .cons (.val _ rfl) hv
theorem cAi.mono{w':World}(hm:Up2 w w'){L:List MapEntry}{l:List (ByteArray×α)}(h:cAi w m ev L l):cAi w' m ev L l:=by
 induction h with
 |nil=>exact .nil
 |cons hk hv h t ih=>exact .cons hk (hv.mono hm) h ih
theorem cC4{v u:Value}(h:Rep w (.val v) u):u=v:=by cases h;rfl
theorem cC0(hev:∀a,(ev a).length=wid m):∀{L:List MapEntry} {l:List (ByteArray×α)},L.length=l.length -> (∀e,e∈L -> bWl m e) -> fG w (cBz ev l) (L.flatMap bXj) -> cAi w m ev L l
 |[],[],_,_,_=>.nil
 |e::L,[],h,_,_=>by simp at h
 |[],p::l,h,_,_=>by simp at h
 |e::L,(k,a)::l,h,hm,hr=>by
  have hme:=hm e (by simp)
  have e1:cBz ev ((k,a)::l)=(.val (.string k)::ev a)++cBz ev l:=by unfold cBz;rw [List.flatMap_cons]
  have e2:(e::L).flatMap bXj=bXj e++L.flatMap bXj:=List.flatMap_cons
  have l1:(AC.val (.string k)::ev a).length=wid m+1:=by rw [length_cons,hev]
  have l2:(bXj e).length=wid m+1:=by unfold bXj;rw [length_cons,hme.wid]
  have hA:=hr.take (wid m+1)
  have hB:=hr.drop (wid m+1)
  rw [e1,e2,List.take_left' l1,List.take_left' l2] at hA
  rw [e1,e2,List.drop_left' l1,List.drop_left' l2] at hB
  have h0:=hA.at_ 0 (by simp) (by unfold bXj;simp)
  have hk:e.key=.string k:=cC4 h0
  have hv:fG w (ev a) e.val.cells.toList:=by
   have h9:=hA.drop 1
   unfold bXj at h9
   simpa using h9
  exact .cons hk hv hme (cC0 hev (by simpa using h) (fun x hx=>hm x (List.mem_cons_of_mem _ hx)) hB)
theorem cAi.find{L:List MapEntry}{l:List (ByteArray×α)}(h:cAi w m ev L l)(k:ByteArray):∀i:Nat,
  (bZu l k=none /\ Instr.findNow .string (.string k) L i=some none /\ (∀a,bZq l k a=l++[(k,a)]) /\ bZy l k=l)∨
  ∃j e a,bZu l k=some a /\ Instr.findNow .string (.string k) L i=some (some (i+j,e.val)) /\ L[j]?=some e /\ e.key=.string k /\ fG w (ev a) e.val.cells.toList /\ bWl m e /\ j<L.length /\ cAi w m ev (L.eraseIdx j) (bZy l k) /\ (bZq l k a).length=l.length /\ ∀a' e',e'.key=.string k -> fG w (ev a') e'.val.cells.toList -> bWl m e' -> cAi w m ev (L.set j e') (bZq l k a'):=by
 induction h with
 |nil=>intro i;exact .inl ⟨rfl,rfl,fun _=>rfl,rfl⟩
 |@cons e k' a L l hk hv hm t ih=>
  intro i
  by_cases hkk:k'=k
  ·subst hkk
   refine .inr ⟨0,e,a,by unfold bZu;rw [if_pos rfl],?_,rfl,hk,hv,hm,by simp,by unfold bZy;rw [if_pos rfl];exact t,by unfold bZq;rw [if_pos rfl];try rfl,fun a' e' h1 h2 h3=>by unfold bZq;rw [if_pos rfl];exact .cons h1 h2 h3 t⟩
   unfold Instr.findNow
   rw [hk]
   simp [Instr.sameNow,(MapKept.bytes_beq k' k').2 rfl]
  have hb:(k == k')=false:=by
   cases hc:k == k' with
   |false=>rfl
   |true=>exact absurd ((MapKept.bytes_beq k k').1 hc).symm hkk
  have hf:Instr.findNow .string (.string k) (e::L) i=Instr.findNow .string (.string k) L (i+1):=by
   conv=>lhs;unfold Instr.findNow
   rw [hk]
   simp [Instr.sameNow,hb]
  rcases ih (i+1) with ⟨h1,h2,h3,h4⟩|⟨j,e0,a0,h1,h2,h3,h4,h5,h6,h7,h8,h9,h10⟩
  ·exact .inl ⟨by unfold bZu;rw [if_neg hkk];exact h1,by rw [hf,h2],fun a'=>by unfold bZq;rw [if_neg hkk,h3];rfl,by unfold bZy;rw [if_neg hkk,h4]⟩
  refine .inr ⟨j+1,e0,a0,by unfold bZu;rw [if_neg hkk];exact h1,by rw [hf,h2];congr 3;omega,by simpa using h3,h4,h5,h6,by simp;omega,by unfold bZy;rw [if_neg hkk,List.eraseIdx_cons_succ];exact .cons hk hv hm h8,by unfold bZq;rw [if_neg hkk,length_cons,length_cons,h9],fun a' e' g1 g2 g3=>by unfold bZq;rw [if_neg hkk,List.set_cons_succ];exact .cons hk hv hm (h10 a' e' g1 g2 g3)⟩
theorem cAi.snoc{L:List MapEntry}{l:List (ByteArray×α)}(h:cAi w m ev L l){e:MapEntry}{k:ByteArray}{a:α}(hk:e.key=.string k)(hv:fG w (ev a) e.val.cells.toList)(hm:bWl m e):cAi w m ev (L++[e]) (l++[(k,a)]):=by
 induction h with
 |nil=>exact .cons hk hv hm .nil
 |cons hk' hv' hm' t ih=>exact .cons hk' hv' hm' ih
theorem Mem.mapAt{s:Sto}{w:World}(h:Mem s w){g:Nat}{l:List (ByteArray×α)}(hr:hM g m ev l∈s.rows)(hev:∀a,(ev a).length=wid m):∃(es:Array MapEntry) (clock:Nat),w.heap[g]?=some (.map es clock) /\ cAi (bI s.bl w) m ev es.toList l:=by
 obtain ⟨us,h1,h2⟩:=h.row _ hr
 rcases h1 with ⟨-,h1⟩|⟨-,g',es,cl,e1,e2,e3,e4,e5⟩
 ·rcases h1 with ⟨h1,-⟩|⟨g',cap,cur,h1,-⟩
  ·cases h1
  cases h1
 cases e1
 refine ⟨es,cl,e2,cC0 hev (by simpa using e3) e5 ?_⟩
 rw [←e4];exact h2
end
theorem bZw(g:Nat):aY (bWn g)=[g]:=rfl
section
variable {P:Program}{U T:List Nat}{o:Oper}{n d:Nat}{bx:List Box}{rw:List bA}{ts:List (Nat×AT)}{K:AS -> Prop}{st:AS}{α:Type}{m:Nat}{ev:α -> List AC}
theorem bZ6{w:World}{kt:TypeId}(hk:P.underlying kt=some .string){k:ByteArray}{L:List MapEntry}{r:Option (Nat×Value)}(h:Instr.findNow .string (.string k) L 0=some r):(Instr.findKey kt (.string k) L).run P w=.ok r w:=MapKept.run_findKey hk h
theorem bZ8{w:World}{kt:TypeId}(hk:P.underlying kt=some .string)(k:ByteArray)(e:Bool):(Instr.checkKey e 10000 kt (.string k)).run P w=.ok () w:=MapKept.run_checkKey hk (d:=.string) (k:=.string k) trivial e 9999
theorem cBa{w:World}{t kt et:TypeId}{g:Nat}{es:Array MapEntry}{clock:Nat}{k:ByteArray}{w0:World}{l:List (ByteArray×α)}(ht:P.underlying t=some (.map kt et))(hk:P.underlying kt=some .string){z:Value}(hz:(zeroValue et).run P w=.ok z w)(hb:w.heap[g]?=some (.map es clock))(he:cAi w0 m ev es.toList l)(c:Bool):
  (bZu l k=none /\ (Instr.lookup t (.map (some g)) (.string k) c).run P w=.ok (if c then .tuple #[z,.bool false] else z) w)∨
  ∃a v,bZu l k=some a /\ fG w0 (ev a) v.cells.toList /\ (if m=0 then v.oneCell'=true else ∃us:List Value,v=.agg us.toArray /\ us.length=m) /\ (Instr.lookup t (.map (some g)) (.string k) c).run P w=.ok (if c then .tuple #[v,.bool true] else v) w:=by
 rcases he.find k 0 with ⟨h1,h2,-⟩|⟨j,e,a,h1,h2,h3,h4,h5,h6,-⟩
 ·refine .inl ⟨h1,?_⟩
  simp only [Instr.lookup,Sem.run_bind,run_underlying ht,Result.andThen_ok,MapKept.run_getObj_map hb,bZ8 hk,bZ6 hk h2,Sem.run_pure,hz]
 refine .inr ⟨a,e.val,h1,h5,h6.2,?_⟩
 simp only [Instr.lookup,Sem.run_bind,run_underlying ht,Result.andThen_ok,MapKept.run_getObj_map hb,bZ8 hk,bZ6 hk h2,Sem.run_pure]
theorem cD2{w:World}{c:AC}{v:Value}(h1:v.oneCell'=true)(h:fG w [c] v.cells.toList):Rep w c v:=by
 have e:v.cells.toList=[v]:=by cases v<;>first|rfl|cases h1
 rw [e] at h
 exact h.at_ 0 (by simp) (by simp)
theorem cAv{w w':World}(hk:cW U w w'){g:Nat}{o:Obj}(hb:w.heap[g]?=some o)(hU:g∉U):w'.heap[g]?=some o:=(hk.block g (Array.getElem?_eq_some_iff.1 hb).1 hU).trans hb
abbrev evI(i:Int):List AC:=[.val (.int .i64 i)]
theorem cB9(i:Int):(evI i).length=wid 0:=rfl
def bZp(l:List (ByteArray×Int))(k:ByteArray):Int:=(bZu l k).getD 0
theorem cAm{t kt et:TypeId}{x y:Operand}{g:Nat}{k:ByteArray}(l:List (ByteArray×Int))(ho:o.op=.lookup t x y false)(hx:evA st x=some (.c (.val (.map (some g)))))(hy:evA st y=some (.c (.val (.string k))))(hrow:hM g 0 evI l∈st.s.rows)
  (ht:P.underlying t=some (.map kt et)) (hk:P.underlying kt=some .string) (hz:∀w,(zeroValue et).run P w=.ok (.int .i64 0) w) (hU:st.s.bl.Nodup -> g∉U):AY P U o st (.c (.val (.int .i64 (bZp l k)))):=by
 intro a w hs hU2
 obtain ⟨es,cl,hb,he⟩:=hs.mem.mapAt (m:=0) (ev:=evI) (g:=g) (l:=l) hrow cB9
 refine ⟨_,.c _ _ (.val _ rfl),fun w' hkp=>?_⟩
 have hb2:=cAv hkp hb (hU hs.mem.nodup)
 have hop:execOp a.eval o=(do pure (.value (←Instr.lookup t (.map (some g)) (.string k) false))):=by simp only [execOp,ho,hs.val hx,hs.val hy]<;>rfl
 rw [hop]
 rcases cBa (P:=P) (k:=k) ht hk (hz w') hb2 he false with ⟨h1,h2⟩|⟨b,v,h1,h2,h3,h4⟩
 ·have e:bZp l k=0:=by unfold bZp;rw [h1];rfl
  rw [e,Sem.run_bind,h2];rfl
 have e:bZp l k=b:=by unfold bZp;rw [h1];rfl
 have hv:=cC4 (cD2 (by simpa using h3) h2)
 rw [e,Sem.run_bind,h4,hv];rfl
theorem cDl{t kt et:TypeId}{x y:Operand}{g:Nat}{k:ByteArray}(l:List (ByteArray×α)){b:α}(ho:o.op=.lookup t x y false)(hx:evA st x=some (.c (.val (.map (some g)))))(hy:evA st y=some (.c (.val (.string k))))(hrow:hM g m ev l∈st.s.rows)(hm:m≠0)(hev:∀a,(ev a).length=m)
  (ht:P.underlying t=some (.map kt et)) (hk:P.underlying kt=some .string) {z:Value} (hz:∀w,(zeroValue et).run P w=.ok z w) (hU:st.s.bl.Nodup -> g∉U) (hl:bZu l k=some b):AY P U o st (.agg (ev b)):=by
 intro a w hs hU2
 obtain ⟨es,cl,hb,he⟩:=hs.mem.mapAt (m:=m) (ev:=ev) (g:=g) (l:=l) hrow (by intro a;unfold wid;rw [if_neg hm];exact hev a)
 rcases cBa (P:=P) (k:=k) ht hk (hz w) hb he false with ⟨h1,h2⟩|⟨b',v,h1,h2,h3,h4⟩
 ·rw [h1] at hl;cases hl
 rw [h1] at hl;cases hl
 rw [if_neg hm] at h3
 obtain ⟨us,rfl,-⟩:=h3
 refine ⟨_,.agg _ us (by simpa [Value.cells] using h2),fun w' hkp=>?_⟩
 have hb2:=cAv hkp hb (hU hs.mem.nodup)
 have hop:execOp a.eval o=(do pure (.value (←Instr.lookup t (.map (some g)) (.string k) false))):=by simp only [execOp,ho,hs.val hx,hs.val hy]<;>rfl
 rw [hop]
 have hrun:(Instr.lookup t (.map (some g)) (.string k) false).run P w'=.ok (.agg us.toArray) w':=by
  rcases he.find k 0 with ⟨g1,-⟩|⟨j,e,a,g1,g2,-⟩
  ·rw [g1] at h1;cases h1
  have f1:(Instr.lookup t (.map (some g)) (.string k) false).run P w=.ok e.val w:=by simp only [Instr.lookup,Sem.run_bind,run_underlying ht,Result.andThen_ok,MapKept.run_getObj_map hb,bZ8 hk,bZ6 hk g2,Sem.run_pure];rfl
  have f2:(Instr.lookup t (.map (some g)) (.string k) false).run P w'=.ok e.val w':=by simp only [Instr.lookup,Sem.run_bind,run_underlying ht,Result.andThen_ok,MapKept.run_getObj_map hb2,bZ8 hk,bZ6 hk g2,Sem.run_pure];rfl
  rw [f1] at h4
  have e9:e.val=.agg us.toArray:=by simpa using h4
  rw [f2,e9]
 rw [Sem.run_bind,hrun];rfl
theorem cDa{t kt et:TypeId}{x y:Operand}{g:Nat}{k:ByteArray}(l:List (ByteArray×α)){b:α}(ho:o.op=.lookup t x y true)(hx:evA st x=some (.c (.val (.map (some g)))))(hy:evA st y=some (.c (.val (.string k))))(hrow:hM g m ev l∈st.s.rows)(hm:m≠0)(hev:∀a,(ev a).length=m)
  (ht:P.underlying t=some (.map kt et)) (hk:P.underlying kt=some .string) {z:Value} (hz:∀w,(zeroValue et).run P w=.ok z w) (hU:st.s.bl.Nodup -> g∉U) (hl:bZu l k=some b):AY P U o st (.tup [.agg (ev b),.c (.val (.bool true))]):=by
 intro a w hs hU2
 obtain ⟨es,cl,hb,he⟩:=hs.mem.mapAt (m:=m) (ev:=ev) (g:=g) (l:=l) hrow (by intro a;unfold wid;rw [if_neg hm];exact hev a)
 rcases he.find k 0 with ⟨g1,-⟩|⟨j,e,a2,g1,g2,g3,g4,g5,g6,-⟩
 ·rw [g1] at hl;cases hl
 rw [g1] at hl;cases hl
 have h3:=g6.2
 rw [if_neg hm] at h3
 obtain ⟨us,e9,-⟩:=h3
 rw [e9] at g5
 refine ⟨_,.tup _ [.agg us.toArray,.bool true] rfl (fun i h h'=>by
  match i,h,h' with
  |0,_,_=>exact .agg _ us (by simpa [Value.cells] using g5)
  |1,_,_=>exact .c _ _ (.val _ rfl)),fun w' hkp=>?_⟩
 have hb2:=cAv hkp hb (hU hs.mem.nodup)
 have hop:execOp a.eval o=(do pure (.value (←Instr.lookup t (.map (some g)) (.string k) true))):=by simp only [execOp,ho,hs.val hx,hs.val hy]<;>rfl
 rw [hop]
 have f2:(Instr.lookup t (.map (some g)) (.string k) true).run P w'=.ok (.tuple #[e.val,.bool true]) w':=by simp only [Instr.lookup,Sem.run_bind,run_underlying ht,Result.andThen_ok,MapKept.run_getObj_map hb2,bZ8 hk,bZ6 hk g2,Sem.run_pure];rfl
 rw [Sem.run_bind,f2,e9];rfl
theorem cDh{t kt et:TypeId}{x y:Operand}{g:Nat}{k:ByteArray}(l:List (ByteArray×α))(ho:o.op=.lookup t x y true)(hx:evA st x=some (.c (.val (.map (some g)))))(hy:evA st y=some (.c (.val (.string k))))(hrow:hM g m ev l∈st.s.rows)(hm:m≠0)(hev:∀a,(ev a).length=m)
  (ht:P.underlying t=some (.map kt et)) (hk:P.underlying kt=some .string) {z:Value} (hz:∀w,(zeroValue et).run P w=.ok z w) (hU:st.s.bl.Nodup -> g∉U) (hl:bZu l k=none) (tz:AT) (hct:cst z=tz):AY P U o st (.tup [tz,.c (.val (.bool false))]):=by
 subst hct
 intro a w hs hU2
 obtain ⟨es,cl,hb,he⟩:=hs.mem.mapAt (m:=m) (ev:=ev) (g:=g) (l:=l) hrow (by intro a;unfold wid;rw [if_neg hm];exact hev a)
 refine ⟨_,.tup _ [z,.bool false] rfl (fun i h h'=>by
  match i,h,h' with
  |0,_,_=>exact aCw _ z
  |1,_,_=>exact .c _ _ (.val _ rfl)),fun w' hkp=>?_⟩
 have hb2:=cAv hkp hb (hU hs.mem.nodup)
 have hop:execOp a.eval o=(do pure (.value (←Instr.lookup t (.map (some g)) (.string k) true))):=by simp only [execOp,ho,hs.val hx,hs.val hy]<;>rfl
 rw [hop]
 rcases cBa (P:=P) (k:=k) ht hk (hz w') hb2 he true with ⟨h1,h2⟩|⟨b,v,h1,-⟩
 ·rw [Sem.run_bind,h2];rfl
 rw [h1] at hl;cases hl
theorem cAo(w:World)(g:Nat)(x:Obj):cW [g] w (setBlock w g x):=
 ⟨rfl,rfl,rfl,by simp [setBlock],fun k hk hn=>by
  show (w.heap.setIfInBounds g x)[k]?=_
  rw [Array.getElem?_setIfInBounds_ne];intro h;exact hn (by simp [h])⟩
theorem Mem.setMap{s:Sto}{w:World}{A B:List bA}{g:Nat}{l l':List (ByteArray×α)}{es es':Array MapEntry}{clock clock':Nat}(h:Mem s w)(hb:s.rows=A++hM g m ev l::B)(h1:w.heap[g]?=some (.map es clock))(hr:cAi (bI s.bl w) m ev es'.toList l'):
  Mem ⟨s.boxes,A++hM g m ev l'::B⟩ (setBlock w g (.map es' clock')):=by
 have hbl:(⟨s.boxes,A++hM g m ev l'::B⟩:Sto).bl=s.bl:=by unfold Sto.bl;rw [hb];simp
 have hmem:g∈s.bl:=by unfold Sto.bl;rw [hb];simp [bZw]
 have hk:=cAo w g (.map es' clock')
 have hu:Up2 (bI s.bl w) (bI s.bl (setBlock w g (.map es' clock'))):=jA hk (fun x hx=>by simp at hx;subst hx;exact hmem) (fun x hx=>.inl hx)
 have hlt:g<w.heap.size:=h.lt g hmem
 have hnd:=h.nodup
 have hnd2:((s.boxes.map Box.b++A.flatMap fun r=>aY r.v)++([g]++B.flatMap fun r=>aY r.v)).Nodup:=by
  have h9:=hnd
  unfold Sto.bl at h9
  rw [hb] at h9
  simpa [bZw] using h9
 have hbox:∀x,x∈s.boxes -> x.b≠g:=fun x hx he=>(List.nodup_append.1 hnd2).2.2 x.b (List.mem_append_left _ (List.mem_map.2 ⟨x,hx,rfl⟩)) g (by simp) he
 have hrow:∀r,r∈A∨r∈B -> g∉aY r.v:=by
  intro r hr2 hm2
  rcases hr2 with hr2|hr2
  ·exact (List.nodup_append.1 hnd2).2.2 g (List.mem_append_right _ (List.mem_flatMap.2 ⟨r,hr2,hm2⟩)) g (by simp) rfl
  exact (List.nodup_append.1 (List.nodup_append.1 hnd2).2.1).2.2 g (by simp) g (List.mem_flatMap.2 ⟨r,hr2,hm2⟩) rfl
 refine ⟨by rw [hbl];exact hnd,fun x hx=>by rw [hbl] at hx;exact Nat.lt_of_lt_of_le (h.lt x hx) hk.size,fun x hx=>?_,fun r hr2=>?_⟩
 ·rw [hbl]
  obtain ⟨us,e1,e2⟩:=h.box x hx
  exact ⟨us,by rw [hk.block _ (h.lt _ (List.mem_append_left _ (List.mem_map.2 ⟨x,hx,rfl⟩))) (by simp;exact hbox x hx)];exact e1,e2.mono hu⟩
 rw [hbl]
 have old:r∈A∨r∈B -> ∃us,bWg (setBlock w g (.map es' clock')) r us /\ fG (bI s.bl (setBlock w g (.map es' clock'))) r.cs us:=fun hr=>by
  have hr3:r∈s.rows:=by rw [hb];simp only [mem_append,mem_cons];rcases hr with h|h;exact .inl h;exact .inr (.inr h)
  obtain ⟨us,e1,e2⟩:=h.row r hr3
  exact ⟨us,e1.keep fun q hq=>hk.block q (h.lt q (List.mem_append_right _ (List.mem_flatMap.2 ⟨r,hr3,hq⟩))) (by simp;intro he;subst he;exact hrow r hr hq),e2.mono hu⟩
 simp only [mem_append,mem_cons] at hr2
 rcases hr2 with hr2|rfl|hr2
 ·exact old (.inl hr2)
 ·refine ⟨es'.toList.flatMap bXj,.inr ⟨rfl,g,es',clock',rfl,?_,by simpa using hr.len,rfl,hr.ok⟩,(hr.mono hu).rep⟩
  show (w.heap.setIfInBounds g _)[g]?=_
  simp [hlt]
 exact old (.inr hr2)
theorem cCq{w:World}{t:AT}{b:α}{v:Value}(hc:jL t=some (ev b))(hr:dO w t v)(hm:if m=0 then (∃c,t=.c c) else (∃cs,t=.agg cs /\ cs.length=m)):if m=0 then v.oneCell'=true else ∃us:List Value,v=.agg us.toArray /\ us.length=m:=by
 split at hm
 ·rename_i h0
  rw [if_pos h0]
  obtain ⟨c,rfl⟩:=hm
  cases hr with|c _ _ hr=>exact hr.one
 rename_i h0
 rw [if_neg h0]
 obtain ⟨cs,rfl,hl⟩:=hm
 cases hr with|agg _ us hr=>exact ⟨us,rfl,hr.len.trans hl⟩
theorem cB5{t kt et:TypeId}{x y z:Operand}{g:Nat}{k:ByteArray}{b:α}{u:AT}(l:List (ByteArray×α))(A:List bA){B:List bA}(ho:o.op=.mapUpdate t x y z)(hd:o.dst=none)(hx:evA st x=some (.c (.val (.map (some g)))))(hy:evA st y=some (.c (.val (.string k))))(hz:evA st z=some u)(hc:jL u=some (ev b))(hrow:st.s.rows=A++hM g m ev l::B)(hev:∀a,(ev a).length=wid m)
  (hm:if m=0 then (∃c,u=.c c) else (∃cs,u=.agg cs /\ cs.length=m)) (ht:P.underlying t=some (.map kt et)) (hk:P.underlying kt=some .string) (hT:g∈st.T) (hU:st.s.bl.Nodup -> g∈U)
  (h:K {st with s:=⟨st.s.boxes,A++hM g m ev (bZq l k b)::B⟩}):AO P U o st K:=by
 intro a w hs KK QQ hK
 obtain ⟨es,cl,hb,he⟩:=hs.mem.mapAt (m:=m) (ev:=ev) (g:=g) (l:=l) (by rw [hrow];simp) hev
 have hv:=hs.ev hz
 generalize hvv:a.eval z=v at hv
 have hval:=mU hc hv
 have hok:bWl m ⟨.string k,v,cl⟩:=⟨⟨k,rfl⟩,cCq hc hv hm⟩
 have hbl:(⟨st.s.boxes,A++hM g m ev (bZq l k b)::B⟩:Sto).bl=st.s.bl:=by unfold Sto.bl;rw [hrow];simp
 have hbm:g∈st.s.bl:=by unfold Sto.bl;rw [hrow];simp [bZw]
 have key:∃es' cl',(Instr.mapUpdate t (.map (some g)) (.string k) v).run P w=.ok () (setBlock w g (.map es' cl')) /\ cAi (bI st.s.bl w) m ev es'.toList (bZq l k b):=by
  rcases he.find k 0 with ⟨h1,h2,h3,-⟩|⟨j,e,a2,h1,h2,h3,h4,h5,h6,h7,h8,-,h10⟩
  ·refine ⟨es.push ⟨.string k,v,cl⟩,cl+1,?_,?_⟩
   ·simp only [Instr.mapUpdate,Sem.run_bind,run_underlying ht,Result.andThen_ok,MapKept.run_getObj_map hb,bZ8 hk,bZ6 hk h2,MapKept.run_setObj_map _ hb];rfl
   rw [h3,Array.toList_push];exact he.snoc rfl hval hok
  have he3:es[j]?=some e:=by simpa using h3
  refine ⟨es.modify j fun x=>{x with key:=.string k,val:=v},cl,?_,?_⟩
  ·simp only [Instr.mapUpdate,Sem.run_bind,run_underlying ht,Result.andThen_ok,MapKept.run_getObj_map hb,bZ8 hk,bZ6 hk h2,Nat.zero_add,he3,Option.map_some,Option.getD_some,h4,MapKept.run_keyThatStays (d:=.string) (k:=.string k) trivial,MapKept.run_setObj_map _ hb];rfl
  have hj:j<es.size:=by simpa using h7
  have e1:(es.modify j fun x=>{x with key:=.string k,val:=v}).toList=es.toList.set j ⟨.string k,v,e.born⟩:=by
   refine List.ext_getElem? fun i=>?_
   rw [Array.getElem?_toList,Array.getElem?_modify,List.getElem?_set]
   by_cases hij:j=i
   ·subst hij
    rw [if_pos rfl,if_pos rfl,he3,if_pos h7];rfl
   rw [if_neg hij,if_neg hij,Array.getElem?_toList]
  rw [e1]
  exact h10 b ⟨.string k,v,e.born⟩ rfl hval ⟨⟨k,rfl⟩,hok.2⟩
 obtain ⟨es',cl',hrun,hents⟩:=key
 have hkp:=cAo w g (.map es' cl')
 unfold Oper.wp
 have hrun2:(execOp a.eval o).run P w=.ok .skip (setBlock w g (.map es' cl')):=by
  simp only [execOp,ho,hs.val hx,hs.val hy,hvv,Sem.run_bind,hrun];rfl
 rw [hrun2,Oper.upon_skip,hd]
 have hmm:=hs.mem.setMap (clock':=cl') hrow hb hents
 refine hK _ _ _ h (hs.step st.T (hkp.mono (by simp;exact hbm)) hmm (fun x hx=>.inl (by rw [hbl] at hx;exact hx))) ⟨hkp.mono (by simp;exact hbm),hkp.mono (by simp;exact hT),fun x hx=>.inl (by rw [hbl] at hx;exact hx),fun x hx=>.inl hx⟩ (hkp.mono (by simp;exact hU hs.mem.nodup))
theorem cC8{t kt et kt2:TypeId}{x y:Operand}{g:Nat}{k:ByteArray}(l:List (ByteArray×α))(A:List bA){B:List bA}(ho:o.op=.call {callee:=.builtin .delete,args:=#[x,y],argTypes:=#[t,kt2]})(hd:o.dst=none)(hx:evA st x=some (.c (.val (.map (some g)))))(hy:evA st y=some (.c (.val (.string k))))(hrow:st.s.rows=A++hM g m ev l::B)(hev:∀a,(ev a).length=wid m)
  (ht:P.underlying t=some (.map kt et)) (hk:P.underlying kt=some .string) (hT:g∈st.T) (hU:st.s.bl.Nodup -> g∈U)
  (h:K {st with s:=⟨st.s.boxes,A++hM g m ev (bZy l k)::B⟩}):AO P U o st K:=by
 intro a w hs KK QQ hK
 obtain ⟨es,cl,hb,he⟩:=hs.mem.mapAt (m:=m) (ev:=ev) (g:=g) (l:=l) (by rw [hrow];simp) hev
 have hbl:(⟨st.s.boxes,A++hM g m ev (bZy l k)::B⟩:Sto).bl=st.s.bl:=by unfold Sto.bl;rw [hrow];simp
 have hbm:g∈st.s.bl:=by unfold Sto.bl;rw [hrow];simp [bZw]
 have key:∃es',(Builtin.delete_ #[t,kt2] o.type #[.map (some g),.string k]).run P w=.ok (.tuple #[]) (setBlock w g (.map es' cl)) /\ cAi (bI st.s.bl w) m ev es'.toList (bZy l k):=by
  rcases he.find k 0 with ⟨h1,h2,-,h3⟩|⟨j,e,a2,h1,h2,h3,h4,h5,h6,h7,h8,-⟩
  ·refine ⟨es,?_,by rw [h3];exact he⟩
   simp [Builtin.delete_,run_underlying ht,MapKept.run_getObj_map hb,bZ8 hk,bZ6 hk h2,MapKept.run_setObj_map _ hb,Result.andThen,setBlock]
  have hj:j<es.size:=by simpa using h7
  refine ⟨es.eraseIdxIfInBounds j,?_,?_⟩
  ·simp [Builtin.delete_,run_underlying ht,MapKept.run_getObj_map hb,bZ8 hk,bZ6 hk h2,MapKept.run_setObj_map _ hb,Result.andThen,setBlock]
  have e1:(es.eraseIdxIfInBounds j).toList=es.toList.eraseIdx j:=by
   unfold Array.eraseIdxIfInBounds
   rw [dif_pos hj,Array.toList_eraseIdx]
  rw [e1];exact h8
 obtain ⟨es',hrun,hents⟩:=key
 have hkp:=cAo w g (.map es' cl)
 unfold Oper.wp
 have hrun2:(execOp a.eval o).run P w=.ok (.value (.tuple #[])) (setBlock w g (.map es' cl)):=by
  unfold execOp
  simp only [ho,resolve,invoke,builtin,Sem.run_bind,Sem.run_pure,Result.andThen_ok,List.map_toArray,List.map_cons,List.map_nil,hs.val hx,hs.val hy,hrun]
 rw [hrun2,Oper.upon_value,hd]
 have hmm:=hs.mem.setMap (clock':=cl) hrow hb hents
 have s1:=hs.step st.T (hkp.mono (by simp;exact hbm)) hmm (fun x hx=>.inl (by rw [hbl] at hx;exact hx))
 refine hK _ _ _ h (by simpa [Act.put] using s1) ⟨hkp.mono (by simp;exact hbm),hkp.mono (by simp;exact hT),fun x hx=>.inl (by rw [hbl] at hx;exact hx),fun x hx=>.inl hx⟩ (hkp.mono (by simp;exact hU hs.mem.nodup))
theorem cB3{t:TypeId}(m:Nat)(ev:α -> List AC)(ho:o.op=.makeMap t none)(hd:o.dst=some d)(hn:d<n)
  (h:∀g,K ⟨n,g::T,⟨bx,hM g m ev []::rw⟩,(d,.c (.val (.map (some g))))::ts⟩):AO P U o ⟨n,T,⟨bx,rw⟩,ts⟩ K:=by
 intro a w hs KK QQ hK
 have hrun:(execOp a.eval o).run P w=.ok (.value (.map (some w.heap.size))) (w.alloc (.map #[] 0)):=by
  simp only [execOp,ho];rfl
 have hk:cW [] w (w.alloc (.map #[] 0)):=(cW.refl _ _).alloc _
 have hne:w.heap.size∉(⟨bx,rw⟩:Sto).bl:=fun hm=>Nat.lt_irrefl _ (hs.mem.lt _ hm)
 have hbl:(⟨bx,hM w.heap.size m ev []::rw⟩:Sto).bl=bx.map Box.b++w.heap.size::rw.flatMap fun r=>aY r.v:=by unfold Sto.bl;simp [bZw]
 have hsub:∀b,b∈(⟨bx,hM w.heap.size m ev []::rw⟩:Sto).bl -> b∈(⟨bx,rw⟩:Sto).bl∨w.heap.size <= b:=fun b hb=>by
  rw [hbl] at hb
  simp only [mem_append,mem_cons] at hb
  rcases hb with h|rfl|h
  ·exact .inl (List.mem_append_left _ h)
  ·exact .inr (Nat.le_refl _)
  exact .inl (List.mem_append_right _ h)
 have hup:Up2 (bI (⟨bx,rw⟩:Sto).bl w) (bI (⟨bx,hM w.heap.size m ev []::rw⟩:Sto).bl (w.alloc (.map #[] 0))):=jA hk (fun _ h=>by cases h) hsub
 have hsz:(w.alloc (.map #[] 0)).heap.size=w.heap.size+1:=by simp
 have hm:Mem ⟨bx,hM w.heap.size m ev []::rw⟩ (w.alloc (.map #[] 0)):=by
  refine ⟨?_,fun b hb=>?_,fun x hx=>?_,fun r hr=>?_⟩
  ·rw [hbl]
   have hnd:(bx.map Box.b++rw.flatMap fun r=>aY r.v).Nodup:=hs.mem.nodup
   rw [List.nodup_append] at hnd⊢
   refine ⟨hnd.1,List.nodup_cons.2 ⟨fun h=>hne (List.mem_append_right _ h),hnd.2.1⟩,fun a ha b hb=>?_⟩
   rcases mem_cons.1 hb with rfl|hb
   ·intro he;subst he;exact hne (List.mem_append_left _ ha)
   exact hnd.2.2 a ha b hb
  ·rw [hbl] at hb
   simp only [mem_append,mem_cons] at hb
   rw [hsz]
   rcases hb with h|rfl|h
   ·exact Nat.lt_succ_of_lt (hs.mem.lt b (List.mem_append_left _ h))
   ·exact Nat.lt_succ_self _
   exact Nat.lt_succ_of_lt (hs.mem.lt b (List.mem_append_right _ h))
  ·obtain ⟨us,e1,e2⟩:=hs.mem.box x hx
   exact ⟨us,by rw [hk.block _ (hs.mem.lt _ (List.mem_append_left _ (List.mem_map.2 ⟨x,hx,rfl⟩))) (by simp)];exact e1,e2.mono hup⟩
  rcases mem_cons.1 hr with rfl|hr
  ·refine ⟨[],.inr ⟨rfl,w.heap.size,#[],0,rfl,?_,rfl,rfl,fun e h=>by simp at h⟩,.nil _⟩
   show (w.heap.push _)[w.heap.size]?=_
   simp
  obtain ⟨us,e1,e2⟩:=hs.mem.row r hr
  exact ⟨us,e1.keep fun g hg=>hk.block g (hs.mem.lt g (List.mem_append_right _ (List.mem_flatMap.2 ⟨r,hr,hg⟩))) (by simp),e2.mono hup⟩
 unfold Oper.wp
 rw [hrun,Oper.upon_value,hd]
 have s1:=hs.step (st:=⟨n,T,⟨bx,rw⟩,ts⟩) (w.heap.size::T) (hk.mono (by simp)) hm hsub
 refine hK _ _ _ (h _) (s1.put (v:=.map (some w.heap.size)) hn (.c _ _ (.val _ rfl))) ⟨hk.mono (by simp),hk.mono (by simp),hsub,fun b hb=>?_⟩ (hk.mono (by simp))
 rcases mem_cons.1 hb with rfl|hb
 ·exact .inr (Nat.le_refl _)
 exact .inl hb
theorem cAt{t kt et:TypeId}{x y z:Operand}{g:Nat}{k:ByteArray}{b:Int}(l:List (ByteArray×Int))(A:List bA){B:List bA}(ho:o.op=.mapUpdate t x y z)(hd:o.dst=none)(hx:evA ⟨n,T,⟨bx,A++hM g 0 evI l::B⟩,ts⟩ x=some (.c (.val (.map (some g)))))(hy:evA ⟨n,T,⟨bx,A++hM g 0 evI l::B⟩,ts⟩ y=some (.c (.val (.string k))))(hz:evA ⟨n,T,⟨bx,A++hM g 0 evI l::B⟩,ts⟩ z=some (.c (.val (.int .i64 b))))
  (ht:P.underlying t=some (.map kt et)) (hk:P.underlying kt=some .string) (hT:g∈T) (hU:(⟨bx,A++hM g 0 evI l::B⟩:Sto).bl.Nodup -> g∈U) (h:K ⟨n,T,⟨bx,A++hM g 0 evI (bZq l k b)::B⟩,ts⟩):AO P U o ⟨n,T,⟨bx,A++hM g 0 evI l::B⟩,ts⟩ K:=
 cB5 (m:=0) (ev:=evI) l A ho hd hx hy hz rfl rfl cB9 (by rw [if_pos rfl];exact ⟨_,rfl⟩) ht hk hT hU h
theorem cCw{t kt et:TypeId}{x y z:Operand}{g:Nat}{k:ByteArray}{b:α}(l:List (ByteArray×α))(A:List bA){B:List bA}(ho:o.op=.mapUpdate t x y z)(hd:o.dst=none)(hx:evA ⟨n,T,⟨bx,A++hM g m ev l::B⟩,ts⟩ x=some (.c (.val (.map (some g)))))(hy:evA ⟨n,T,⟨bx,A++hM g m ev l::B⟩,ts⟩ y=some (.c (.val (.string k))))(hz:evA ⟨n,T,⟨bx,A++hM g m ev l::B⟩,ts⟩ z=some (.agg (ev b)))(hm:m≠0)(hev:∀a,(ev a).length=m)
  (ht:P.underlying t=some (.map kt et)) (hk:P.underlying kt=some .string) (hT:g∈T) (hU:(⟨bx,A++hM g m ev l::B⟩:Sto).bl.Nodup -> g∈U) (h:K ⟨n,T,⟨bx,A++hM g m ev (bZq l k b)::B⟩,ts⟩):AO P U o ⟨n,T,⟨bx,A++hM g m ev l::B⟩,ts⟩ K:=
 cB5 (m:=m) (ev:=ev) l A ho hd hx hy hz rfl rfl (by intro a;unfold wid;rw [if_neg hm];exact hev a) (by rw [if_neg hm];exact ⟨_,rfl,hev b⟩) ht hk hT hU h
theorem cBu{t kt et kt2:TypeId}{x y:Operand}{g:Nat}{k:ByteArray}(l:List (ByteArray×Int))(A:List bA){B:List bA}(ho:o.op=.call {callee:=.builtin .delete,args:=#[x,y],argTypes:=#[t,kt2]})(hd:o.dst=none)(hx:evA ⟨n,T,⟨bx,A++hM g 0 evI l::B⟩,ts⟩ x=some (.c (.val (.map (some g)))))(hy:evA ⟨n,T,⟨bx,A++hM g 0 evI l::B⟩,ts⟩ y=some (.c (.val (.string k))))
  (ht:P.underlying t=some (.map kt et)) (hk:P.underlying kt=some .string) (hT:g∈T) (hU:(⟨bx,A++hM g 0 evI l::B⟩:Sto).bl.Nodup -> g∈U) (h:K ⟨n,T,⟨bx,A++hM g 0 evI (bZy l k)::B⟩,ts⟩):AO P U o ⟨n,T,⟨bx,A++hM g 0 evI l::B⟩,ts⟩ K:=
 cC8 (m:=0) (ev:=evI) l A ho hd hx hy rfl cB9 ht hk hT hU h
theorem cDv{Z:List Nat}{A B:List bA}{g:Nat}{l:List (ByteArray×α)}(hZ:∀z,z∈Z -> z∈bx.map Box.b)(hn:(⟨bx,A++hM g m ev l::B⟩:Sto).bl.Nodup):g∈lM ⟨bx,A++hM g m ev l::B⟩ Z:=by
 have h3:g∈(A++hM g m ev l::B).flatMap fun r=>aY r.v:=by simp [bZw]
 refine kH.2 ⟨List.mem_append_right _ h3,fun hz=>?_⟩
 exact (List.nodup_append.1 hn).2.2 g (hZ g hz) g h3 rfl
end
structure TB (P:Program) (E e:TypeId) (i:TypeInfo) (z bytes:Nat) (zv:Value):Prop where
  hu:P.underlying E=some (.slice e)
  hi:P.info? e=some i
  hz:i.zero=some zv
  hsz:i.size=z
  hby:i.bytes=bytes
  hzs:zv.cells.size=z
  h0:0<z
structure ZB (P:Program) (E e:TypeId) (i:TypeInfo) (len:Nat) (z:Value) (zc:List AC):Prop where
  hu:P.underlying E=some (.slice e)
  hi:P.info? e=some i
  hz:i.zero=some z
  hsmall:¬len*i.size>2 ^ 24
  hpos:¬len*i.size=0
  hzc:(((Array.range (len*i.size)).map (z.cells[·% z.cells.size]!)).toList.all (·.oneCell'))=true
  hzr:((Array.range (len*i.size)).map (z.cells[·% z.cells.size]!)).toList.map .val=zc
section
variable {P:Program}{U:List Nat}{o:Oper}{n d:Nat}{T:List Nat}{s:Sto}{ts:List (Nat×AT)}{bx:List Box}{K:AS -> Prop}
theorem bDm{E e:TypeId}{i:TypeInfo}{x y:Operand}{k m z bytes:Nat}{v zv:Value}{cs ds r:List AC}(A:List bA)(t:TB P E e i z bytes zv){B:List bA}(h0:(o.op,o.dst,Nat.blt d n,evA ⟨n,T,⟨bx,A++⟨v,e,z,k,cs⟩::B⟩,ts⟩ x,evA ⟨n,T,⟨bx,A++⟨v,e,z,k,cs⟩::B⟩,ts⟩ y)=(.call {callee:=.builtin .append,args:=#[x,y],argTypes:=#[E,E]},some d,true,some (.c (.val v)),some (.c (.sl m ds))))
    (hm:ds.length=m*z) (hm0:0<m) (hlen:k+m <= maxLen) (hbytes:(k+m)*bytes <= 140737488355328) {N:Nat} (hN:k+m=N) (hU:(⟨bx,A++⟨v,e,z,k,cs⟩::B⟩:Sto).bl.Nodup -> ∀b,b∈aY v -> b∈U) (hT:∀b,b∈aY v -> b∈T) (hr:cs++ds=r)
    (h:∀v',K ⟨n,aY v'++T,⟨bx,A++⟨v',e,z,N,r⟩::B⟩,(d,.c (.val v'))::ts⟩):AO P U o ⟨n,T,⟨bx,A++⟨v,e,z,k,cs⟩::B⟩,ts⟩ K:=by
  simp only [Prod.mk.injEq] at h0
  exact eV A i bytes h0.1 h0.2.1 (Nat.le_of_ble_eq_true h0.2.2.1) h0.2.2.2.1 h0.2.2.2.2 t.hu t.hi t.hz t.hsz t.hby t.hzs t.h0 hm hm0 hlen hbytes hN hU hT hr h
theorem bDk{E e:TypeId}{i:TypeInfo}{z:Value}{len:Nat}{parts:Array (Nat×Operand)}{ps:List (Nat×AT)}{zc r:List AC}(t:ZB P E e i len z zc)(h0:(o.op,o.dst,Nat.blt d n)=(.buildSlice E len parts,some d,true))(hps:EvP ⟨n,T,s,ts⟩ parts.toList ps)
    (hf:qO (fun k=>some (k*i.size,i.size)) zc ps=some r) (h:K ⟨n,T,s,(d,.c (.sl len r))::ts⟩):AO P U o ⟨n,T,s,ts⟩ K:=by
  simp only [Prod.mk.injEq] at h0
  exact wbs i zc h0.1 h0.2.1 (Nat.le_of_ble_eq_true h0.2.2) hps t.hu t.hi t.hz t.hsmall t.hpos t.hzc t.hzr hf h
end
def bWj:=(⟨underlying76,(by kernel_rfl),rfl,rfl,rfl,rfl,(by decide)⟩:TB prog 76 141 Tryz.t141 7 104 _)
def bN3:=(⟨underlying23,(by kernel_rfl),rfl,rfl,rfl,rfl,(by decide)⟩:TB prog 23 5 Tryz.t5 1 1 _)
def bWk:=(⟨underlying28,(by kernel_rfl),rfl,rfl,rfl,rfl,(by decide)⟩:TB prog 28 58 Tryz.t58 3 64 _)
def bWh:=(⟨underlying27,(by kernel_rfl),rfl,rfl,rfl,rfl,(by decide)⟩:TB prog 27 70 Tryz.t70 3 32 _)
def bDn:=(⟨underlying26,(by kernel_rfl),rfl,rfl,rfl,rfl,(by decide)⟩:TB prog 26 86 Tryz.t86 2 24 _)
def bDt:=(⟨underlying55,(by kernel_rfl),rfl,rfl,rfl,rfl,(by decide)⟩:TB prog 55 89 Tryz.t89 2 24 _)
def bWi:=(⟨underlying50,(by kernel_rfl),rfl,rfl,rfl,rfl,(by decide)⟩:TB prog 50 9 Tryz.t9 1 16 _)
def zb0:=(⟨underlying76,(by kernel_rfl),rfl,(by decide),(by decide),(by kernel_rfl),(by kernel_rfl)⟩:ZB prog 76 141 Tryz.t141 1 _ [.val (.bool false),.val (.string ⟨#[]⟩),.val (.slice none 0 0),.val (.int .i64 0),.val (.int .i64 0),.val (.string ⟨#[]⟩),.val (.slice none 0 0)])
def zb4:=(⟨underlying22,(by kernel_rfl),rfl,(by decide),(by decide),(by kernel_rfl),(by kernel_rfl)⟩:ZB prog 22 3 Tryz.t3 1 _ [.val (.int .i64 0)])
def zb5:=(⟨underlying23,(by kernel_rfl),rfl,(by decide),(by decide),(by kernel_rfl),(by kernel_rfl)⟩:ZB prog 23 5 Tryz.t5 2 _ [.val (.int .u8 0),.val (.int .u8 0)])
def zb6:=(⟨underlying23,(by kernel_rfl),rfl,(by decide),(by decide),(by kernel_rfl),(by kernel_rfl)⟩:ZB prog 23 5 Tryz.t5 1 _ [.val (.int .u8 0)])
def zb7:=(⟨underlying28,(by kernel_rfl),rfl,(by decide),(by decide),(by kernel_rfl),(by kernel_rfl)⟩:ZB prog 28 58 Tryz.t58 1 _ [.val (.string ⟨#[]⟩),.val (.slice none 0 0),.val (.slice none 0 0)])
def zb8:=(⟨underlying27,(by kernel_rfl),rfl,(by decide),(by decide),(by kernel_rfl),(by kernel_rfl)⟩:ZB prog 27 70 Tryz.t70 1 _ [.val (.string ⟨#[]⟩),.val (.bool false),.val (.int .i64 0)])
def zb9:=(⟨underlying71,(by kernel_rfl),rfl,(by decide),(by decide),(by kernel_rfl),(by kernel_rfl)⟩:ZB prog 71 73 Tryz.t73 2 _ [.val (.int .i64 0),.val (.int .i64 0),.val (.string ⟨#[]⟩),.val (.slice none 0 0),.val (.int .i64 0),.val (.int .i64 0),.val (.string ⟨#[]⟩),.val (.slice none 0 0)])
def bDs:=(⟨underlying71,(by kernel_rfl),rfl,(by decide),(by decide),(by kernel_rfl),(by kernel_rfl)⟩:ZB prog 71 73 Tryz.t73 1 _ [.val (.int .i64 0),.val (.int .i64 0),.val (.string ⟨#[]⟩),.val (.slice none 0 0)])
def bDu:=(⟨underlying56,(by kernel_rfl),rfl,(by decide),(by decide),(by kernel_rfl),(by kernel_rfl)⟩:ZB prog 56 78 Tryz.t78 1 _ [.val (.int .i64 0),.val (.string ⟨#[]⟩),.val (.int .i64 0),.val (.int .i64 0),.val (.string ⟨#[]⟩),.val (.slice none 0 0),.val (.string ⟨#[]⟩),.val (.slice none 0 0),.val (.slice none 0 0),.val (.slice none 0 0),.val (.slice none 0 0)])
def bHf:=(⟨underlying26,(by kernel_rfl),rfl,(by decide),(by decide),(by kernel_rfl),(by kernel_rfl)⟩:ZB prog 26 86 Tryz.t86 1 _ [.val (.string ⟨#[]⟩),.val (.int .i64 0)])
def bLv:=(⟨underlying55,(by kernel_rfl),rfl,(by decide),(by decide),(by kernel_rfl),(by kernel_rfl)⟩:ZB prog 55 89 Tryz.t89 1 _ [.val (.string ⟨#[]⟩),.val (.bool false)])
def bDx:=(⟨underlying50,(by kernel_rfl),rfl,(by decide),(by decide),(by kernel_rfl),(by kernel_rfl)⟩:ZB prog 50 9 Tryz.t9 5 _ [.val (.string ⟨#[]⟩),.val (.string ⟨#[]⟩),.val (.string ⟨#[]⟩),.val (.string ⟨#[]⟩),.val (.string ⟨#[]⟩)])
def bGy:=(⟨underlying50,(by kernel_rfl),rfl,(by decide),(by decide),(by kernel_rfl),(by kernel_rfl)⟩:ZB prog 50 9 Tryz.t9 3 _ [.val (.string ⟨#[]⟩),.val (.string ⟨#[]⟩),.val (.string ⟨#[]⟩)])
def bSq:=(⟨underlying50,(by kernel_rfl),rfl,(by decide),(by decide),(by kernel_rfl),(by kernel_rfl)⟩:ZB prog 50 9 Tryz.t9 2 _ [.val (.string ⟨#[]⟩),.val (.string ⟨#[]⟩)])
def bT4:=(⟨underlying50,(by kernel_rfl),rfl,(by decide),(by decide),(by kernel_rfl),(by kernel_rfl)⟩:ZB prog 50 9 Tryz.t9 1 _ [.val (.string ⟨#[]⟩)])
end
end Go.Proofs.YtojinfngbbajgaaGreatDoor
