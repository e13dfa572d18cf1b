import Derived.Test.YteiefdnbdjnoiaaGreatDoorH4J
import Derived.Test.YteiefdnbdjnoiaaGreatDoorProg
import Derived.Test.YteiefdnbdjnoiaaGreatDoorRows
import Derived.Test.YteiefdnbdjnoiaaGreatDoorShelfJ
import Derived.Test.YteiefdnbdjnoiaaGreatDoorH0J
import Derived.WalkKit
import Derived.WalkSpells
import Derived.WalkLawsBesides
import Derived.Handy
import Derived.Lib.Hide
set_option linter.all false
set_option synthInstance.maxHeartbeats 1000000
set_option synthInstance.maxSize 1000000
set_option maxHeartbeats 800000
set_option maxRecDepth 100000
namespace Go.Proofs.YteiefdnbdjnoiaaGreatDoor
open List (length_append length_cons length_nil mem_append mem_cons not_mem_nil append_assoc getElem_mem take_of_length_le)
section
open Go.RowKit
instance bCw : TY Tryz.prog 2 false 1 := ⟨Tryz.isAgg2, Tryz.sizeOf2⟩
instance bCx : eM Tryz.prog 2 [.val (.int .i64 0)] := ⟨_, Tryz.zeroValue2, rfl⟩
instance bCu : TY Tryz.prog 3 false 1 := ⟨Tryz.isAgg3, Tryz.sizeOf3⟩
instance bC3 : eM Tryz.prog 3 [.val (.int .i64 0)] := ⟨_, Tryz.zeroValue3, rfl⟩
instance bCr : TY Tryz.prog 4 false 1 := ⟨Tryz.isAgg4, Tryz.sizeOf4⟩
instance bDa : eM Tryz.prog 4 [.val (.bool false)] := ⟨_, Tryz.zeroValue4, rfl⟩
instance bC0 : TY Tryz.prog 5 false 1 := ⟨Tryz.isAgg5, Tryz.sizeOf5⟩
instance bCt : eM Tryz.prog 5 [.val (.int .u8 0)] := ⟨_, Tryz.zeroValue5, rfl⟩
instance bDc : TY Tryz.prog 9 false 1 := ⟨Tryz.isAgg9, Tryz.sizeOf9⟩
instance aXn : aRy Tryz.prog 9 := ⟨Tryz.runUnderlying9⟩
instance bC6 : eM Tryz.prog 9 [.val (.string ⟨#[]⟩)] := ⟨_, Tryz.zeroValue9, rfl⟩
instance bCz : TY Tryz.prog 12 false 1 := ⟨Tryz.isAgg12, Tryz.sizeOf12⟩
instance bDb : eM Tryz.prog 12 [.val (.int .u64 0)] := ⟨_, Tryz.zeroValue12, rfl⟩
instance bC8 : TY Tryz.prog 19 true 1 := ⟨Tryz.isAgg19, Tryz.sizeOf19⟩
instance aX2 : eG Tryz.prog 19 0 0 17 := ⟨_, Tryz.runUnderlying19, rfl⟩
instance bCv : eM Tryz.prog 19 [.val (.pointer none)] := ⟨_, Tryz.zeroValue19, rfl⟩
instance bCy : Plc Tryz.prog 19 [(0, 1)] [.val (.pointer none)] := ⟨_, Tryz.t19, _, Tryz.underlying19, by kernel_rfl, rfl, by kernel_rfl, rfl⟩
instance bC4 : TY Tryz.prog 21 false 1 := ⟨Tryz.isAgg21, Tryz.sizeOf21⟩
instance bC7 : eM Tryz.prog 21 [.val (.int .i32 0)] := ⟨_, Tryz.zeroValue21, rfl⟩
instance bC5 : TY Tryz.prog 22 false 1 := ⟨Tryz.isAgg22, Tryz.sizeOf22⟩
instance bBu : TSl Tryz.prog 22 3 := ⟨Tryz.runUnderlying22⟩
instance bDe : eM Tryz.prog 22 [.val (.slice none 0 0)] := ⟨_, Tryz.zeroValue22, rfl⟩
instance bC2 : TY Tryz.prog 23 false 1 := ⟨Tryz.isAgg23, Tryz.sizeOf23⟩
instance bAd : TSl Tryz.prog 23 5 := ⟨Tryz.runUnderlying23⟩
instance bDd : eM Tryz.prog 23 [.val (.slice none 0 0)] := ⟨_, Tryz.zeroValue23, rfl⟩
instance aZ8 : TY Tryz.prog 26 false 1 := ⟨Tryz.isAgg26, Tryz.sizeOf26⟩
instance aX8 : TSl Tryz.prog 26 9 := ⟨Tryz.runUnderlying26⟩
instance bB9 : eM Tryz.prog 26 [.val (.slice none 0 0)] := ⟨_, Tryz.zeroValue26, rfl⟩
instance bB6 : TY Tryz.prog 27 false 1 := ⟨Tryz.isAgg27, Tryz.sizeOf27⟩
instance bAb : eM Tryz.prog 27 [.val (.int .u64 0)] := ⟨_, Tryz.zeroValue27, rfl⟩
instance aZz : TY Tryz.prog 31 false 1 := ⟨Tryz.isAgg31, Tryz.sizeOf31⟩
instance aYp : TSl Tryz.prog 31 76 := ⟨Tryz.runUnderlying31⟩
instance bAs : eM Tryz.prog 31 [.val (.slice none 0 0)] := ⟨_, Tryz.zeroValue31, rfl⟩
instance bA3 : TY Tryz.prog 32 false 1 := ⟨Tryz.isAgg32, Tryz.sizeOf32⟩
instance aXt : TSl Tryz.prog 32 74 := ⟨Tryz.runUnderlying32⟩
instance bCn : eM Tryz.prog 32 [.val (.slice none 0 0)] := ⟨_, Tryz.zeroValue32, rfl⟩
instance aZh : TY Tryz.prog 33 false 1 := ⟨Tryz.isAgg33, Tryz.sizeOf33⟩
instance aYl : TSl Tryz.prog 33 57 := ⟨Tryz.runUnderlying33⟩
instance bAn : eM Tryz.prog 33 [.val (.slice none 0 0)] := ⟨_, Tryz.zeroValue33, rfl⟩
instance bAx : TY Tryz.prog 35 true 3 := ⟨Tryz.isAgg35, Tryz.sizeOf35⟩
instance aWd : eG Tryz.prog 35 0 0 31 := ⟨_, Tryz.runUnderlying35, rfl⟩
instance aVf : eG Tryz.prog 35 1 1 32 := ⟨_, Tryz.runUnderlying35, rfl⟩
instance aVo : eG Tryz.prog 35 2 2 33 := ⟨_, Tryz.runUnderlying35, rfl⟩
instance bAk : eM Tryz.prog 35 [.val (.slice none 0 0), .val (.slice none 0 0), .val (.slice none 0 0)] := ⟨_, Tryz.zeroValue35, rfl⟩
instance bBx : Plc Tryz.prog 35 [(0, 1), (1, 1), (2, 1)] [.val (.slice none 0 0), .val (.slice none 0 0), .val (.slice none 0 0)] := ⟨_, Tryz.t35, _, Tryz.underlying35, by kernel_rfl, rfl, by kernel_rfl, rfl⟩
instance aZc : TY Tryz.prog 38 false 1 := ⟨Tryz.isAgg38, Tryz.sizeOf38⟩
instance aZd : eM Tryz.prog 38 [.val (.int .i64 0)] := ⟨_, Tryz.zeroValue38, rfl⟩
instance bBs : TY Tryz.prog 43 false 1 := ⟨Tryz.isAgg43, Tryz.sizeOf43⟩
instance aYv : TSl Tryz.prog 43 84 := ⟨Tryz.runUnderlying43⟩
instance aZ1 : eM Tryz.prog 43 [.val (.slice none 0 0)] := ⟨_, Tryz.zeroValue43, rfl⟩
instance bBk : TY Tryz.prog 47 false 1 := ⟨Tryz.isAgg47, Tryz.sizeOf47⟩
instance aXs : TSl Tryz.prog 47 103 := ⟨Tryz.runUnderlying47⟩
instance bA8 : eM Tryz.prog 47 [.val (.slice none 0 0)] := ⟨_, Tryz.zeroValue47, rfl⟩
instance aZe : TY Tryz.prog 55 false 1 := ⟨Tryz.isAgg55, Tryz.sizeOf55⟩
instance aY6 : TSl Tryz.prog 55 78 := ⟨Tryz.runUnderlying55⟩
instance bCd : eM Tryz.prog 55 [.val (.slice none 0 0)] := ⟨_, Tryz.zeroValue55, rfl⟩
instance bAe : TY Tryz.prog 57 true 3 := ⟨Tryz.isAgg57, Tryz.sizeOf57⟩
instance aXj : eG Tryz.prog 57 0 0 9 := ⟨_, Tryz.runUnderlying57, rfl⟩
instance aVx : eG Tryz.prog 57 1 1 55 := ⟨_, Tryz.runUnderlying57, rfl⟩
instance aVt : eG Tryz.prog 57 2 2 47 := ⟨_, Tryz.runUnderlying57, rfl⟩
instance aZb : eM Tryz.prog 57 [.val (.string ⟨#[]⟩), .val (.slice none 0 0), .val (.slice none 0 0)] := ⟨_, Tryz.zeroValue57, rfl⟩
instance bAl : Plc Tryz.prog 57 [(0, 1), (1, 1), (2, 1)] [.val (.string ⟨#[]⟩), .val (.slice none 0 0), .val (.slice none 0 0)] := ⟨_, Tryz.t57, _, Tryz.underlying57, by kernel_rfl, rfl, by kernel_rfl, rfl⟩
instance bBh : TY Tryz.prog 65 false 1 := ⟨Tryz.isAgg65, Tryz.sizeOf65⟩
instance bBo : TY Tryz.prog 66 false 1 := ⟨Tryz.isAgg66, Tryz.sizeOf66⟩
instance bAt : TY Tryz.prog 69 true 2 := ⟨Tryz.isAgg69, Tryz.sizeOf69⟩
instance aUf : eG Tryz.prog 69 0 0 22 := ⟨_, Tryz.runUnderlying69, rfl⟩
instance aWt : eG Tryz.prog 69 1 1 3 := ⟨_, Tryz.runUnderlying69, rfl⟩
instance bB2 : eM Tryz.prog 69 [.val (.slice none 0 0), .val (.int .i64 0)] := ⟨_, Tryz.zeroValue69, rfl⟩
instance aZo : Plc Tryz.prog 69 [(0, 1), (1, 1)] [.val (.slice none 0 0), .val (.int .i64 0)] := ⟨_, Tryz.t69, _, Tryz.underlying69, by kernel_rfl, rfl, by kernel_rfl, rfl⟩
instance bBn : TY Tryz.prog 71 true 6 := ⟨Tryz.isAgg71, Tryz.sizeOf71⟩
instance aWb : eG Tryz.prog 71 0 0 66 := ⟨_, Tryz.runUnderlying71, rfl⟩
instance aU5 : eG Tryz.prog 71 1 1 35 := ⟨_, Tryz.runUnderlying71, rfl⟩
instance aVn : eG Tryz.prog 71 2 4 3 := ⟨_, Tryz.runUnderlying71, rfl⟩
instance aUy : eG Tryz.prog 71 3 5 4 := ⟨_, Tryz.runUnderlying71, rfl⟩
instance bAi : eM Tryz.prog 71 [.val (.pointer none), .val (.slice none 0 0), .val (.slice none 0 0), .val (.slice none 0 0), .val (.int .i64 0), .val (.bool false)] := ⟨_, Tryz.zeroValue71, rfl⟩
instance bCi : Plc Tryz.prog 71 [(0, 1), (1, 3), (4, 1), (5, 1)] [.val (.pointer none), .val (.slice none 0 0), .val (.slice none 0 0), .val (.slice none 0 0), .val (.int .i64 0), .val (.bool false)] := ⟨_, Tryz.t71, _, Tryz.underlying71, by kernel_rfl, rfl, by kernel_rfl, rfl⟩
instance bBp : TY Tryz.prog 74 true 3 := ⟨Tryz.isAgg74, Tryz.sizeOf74⟩
instance aXk : eG Tryz.prog 74 0 0 9 := ⟨_, Tryz.runUnderlying74, rfl⟩
instance aXc : eG Tryz.prog 74 1 1 4 := ⟨_, Tryz.runUnderlying74, rfl⟩
instance aVb : eG Tryz.prog 74 2 2 3 := ⟨_, Tryz.runUnderlying74, rfl⟩
instance bCm : eM Tryz.prog 74 [.val (.string ⟨#[]⟩), .val (.bool false), .val (.int .i64 0)] := ⟨_, Tryz.zeroValue74, rfl⟩
instance bCh : Plc Tryz.prog 74 [(0, 1), (1, 1), (2, 1)] [.val (.string ⟨#[]⟩), .val (.bool false), .val (.int .i64 0)] := ⟨_, Tryz.t74, _, Tryz.underlying74, by kernel_rfl, rfl, by kernel_rfl, rfl⟩
instance bBv : TY Tryz.prog 76 true 2 := ⟨Tryz.isAgg76, Tryz.sizeOf76⟩
instance aUm : eG Tryz.prog 76 0 0 9 := ⟨_, Tryz.runUnderlying76, rfl⟩
instance aWo : eG Tryz.prog 76 1 1 3 := ⟨_, Tryz.runUnderlying76, rfl⟩
instance aZs : eM Tryz.prog 76 [.val (.string ⟨#[]⟩), .val (.int .i64 0)] := ⟨_, Tryz.zeroValue76, rfl⟩
instance aZ6 : Plc Tryz.prog 76 [(0, 1), (1, 1)] [.val (.string ⟨#[]⟩), .val (.int .i64 0)] := ⟨_, Tryz.t76, _, Tryz.underlying76, by kernel_rfl, rfl, by kernel_rfl, rfl⟩
instance bCo : TY Tryz.prog 78 true 2 := ⟨Tryz.isAgg78, Tryz.sizeOf78⟩
instance aWp : eG Tryz.prog 78 0 0 9 := ⟨_, Tryz.runUnderlying78, rfl⟩
instance aUo : eG Tryz.prog 78 1 1 4 := ⟨_, Tryz.runUnderlying78, rfl⟩
instance aZ2 : eM Tryz.prog 78 [.val (.string ⟨#[]⟩), .val (.bool false)] := ⟨_, Tryz.zeroValue78, rfl⟩
instance bBj : Plc Tryz.prog 78 [(0, 1), (1, 1)] [.val (.string ⟨#[]⟩), .val (.bool false)] := ⟨_, Tryz.t78, _, Tryz.underlying78, by kernel_rfl, rfl, by kernel_rfl, rfl⟩
instance bBr : TY Tryz.prog 80 false 1 := ⟨Tryz.isAgg80, Tryz.sizeOf80⟩
instance bAw : TY Tryz.prog 82 true 4 := ⟨Tryz.isAgg82, Tryz.sizeOf82⟩
instance aW8 : eG Tryz.prog 82 0 0 43 := ⟨_, Tryz.runUnderlying82, rfl⟩
instance aXg : eG Tryz.prog 82 1 1 3 := ⟨_, Tryz.runUnderlying82, rfl⟩
instance aW7 : eG Tryz.prog 82 2 2 3 := ⟨_, Tryz.runUnderlying82, rfl⟩
instance aWc : eG Tryz.prog 82 3 3 38 := ⟨_, Tryz.runUnderlying82, rfl⟩
instance aZu : eM Tryz.prog 82 [.val (.slice none 0 0), .val (.int .i64 0), .val (.int .i64 0), .val (.int .i64 0)] := ⟨_, Tryz.zeroValue82, rfl⟩
instance bAf : Plc Tryz.prog 82 [(0, 1), (1, 1), (2, 1), (3, 1)] [.val (.slice none 0 0), .val (.int .i64 0), .val (.int .i64 0), .val (.int .i64 0)] := ⟨_, Tryz.t82, _, Tryz.underlying82, by kernel_rfl, rfl, by kernel_rfl, rfl⟩
instance bBc : TY Tryz.prog 84 true 4 := ⟨Tryz.isAgg84, Tryz.sizeOf84⟩
instance aUx : eG Tryz.prog 84 0 0 3 := ⟨_, Tryz.runUnderlying84, rfl⟩
instance aXb : eG Tryz.prog 84 1 1 9 := ⟨_, Tryz.runUnderlying84, rfl⟩
instance aU9 : eG Tryz.prog 84 2 2 3 := ⟨_, Tryz.runUnderlying84, rfl⟩
instance aV2 : eG Tryz.prog 84 3 3 3 := ⟨_, Tryz.runUnderlying84, rfl⟩
instance aZ9 : eM Tryz.prog 84 [.val (.int .i64 0), .val (.string ⟨#[]⟩), .val (.int .i64 0), .val (.int .i64 0)] := ⟨_, Tryz.zeroValue84, rfl⟩
instance aZ5 : Plc Tryz.prog 84 [(0, 1), (1, 1), (2, 1), (3, 1)] [.val (.int .i64 0), .val (.string ⟨#[]⟩), .val (.int .i64 0), .val (.int .i64 0)] := ⟨_, Tryz.t84, _, Tryz.underlying84, by kernel_rfl, rfl, by kernel_rfl, rfl⟩
instance bAr : TY Tryz.prog 86 false 1 := ⟨Tryz.isAgg86, Tryz.sizeOf86⟩
instance bAy : TY Tryz.prog 93 false 1 := ⟨Tryz.isAgg93, Tryz.sizeOf93⟩
instance bBe : TY Tryz.prog 95 true 6 := ⟨Tryz.isAgg95, Tryz.sizeOf95⟩
instance aUj : eG Tryz.prog 95 0 0 43 := ⟨_, Tryz.runUnderlying95, rfl⟩
instance aVu : eG Tryz.prog 95 1 1 3 := ⟨_, Tryz.runUnderlying95, rfl⟩
instance aV6 : eG Tryz.prog 95 2 2 3 := ⟨_, Tryz.runUnderlying95, rfl⟩
instance aWv : eG Tryz.prog 95 3 3 38 := ⟨_, Tryz.runUnderlying95, rfl⟩
instance aVi : eG Tryz.prog 95 4 4 3 := ⟨_, Tryz.runUnderlying95, rfl⟩
instance aW3 : eG Tryz.prog 95 5 5 3 := ⟨_, Tryz.runUnderlying95, rfl⟩
instance aZ3 : eM Tryz.prog 95 [.val (.slice none 0 0), .val (.int .i64 0), .val (.int .i64 0), .val (.int .i64 0), .val (.int .i64 0), .val (.int .i64 0)] := ⟨_, Tryz.zeroValue95, rfl⟩
instance bBl : Plc Tryz.prog 95 [(0, 1), (1, 1), (2, 1), (3, 1), (4, 1), (5, 1)] [.val (.slice none 0 0), .val (.int .i64 0), .val (.int .i64 0), .val (.int .i64 0), .val (.int .i64 0), .val (.int .i64 0)] := ⟨_, Tryz.t95, _, Tryz.underlying95, by kernel_rfl, rfl, by kernel_rfl, rfl⟩
instance bA1 : TY Tryz.prog 96 false 1 := ⟨Tryz.isAgg96, Tryz.sizeOf96⟩
instance aXx : TSl Tryz.prog 96 98 := ⟨Tryz.runUnderlying96⟩
instance bBw : eM Tryz.prog 96 [.val (.slice none 0 0)] := ⟨_, Tryz.zeroValue96, rfl⟩
instance bCe : TY Tryz.prog 98 true 4 := ⟨Tryz.isAgg98, Tryz.sizeOf98⟩
instance aW5 : eG Tryz.prog 98 0 0 3 := ⟨_, Tryz.runUnderlying98, rfl⟩
instance aVz : eG Tryz.prog 98 1 1 3 := ⟨_, Tryz.runUnderlying98, rfl⟩
instance aUp : eG Tryz.prog 98 2 2 9 := ⟨_, Tryz.runUnderlying98, rfl⟩
instance aWs : eG Tryz.prog 98 3 3 96 := ⟨_, Tryz.runUnderlying98, rfl⟩
instance bBa : eM Tryz.prog 98 [.val (.int .i64 0), .val (.int .i64 0), .val (.string ⟨#[]⟩), .val (.slice none 0 0)] := ⟨_, Tryz.zeroValue98, rfl⟩
instance aZn : Plc Tryz.prog 98 [(0, 1), (1, 1), (2, 1), (3, 1)] [.val (.int .i64 0), .val (.int .i64 0), .val (.string ⟨#[]⟩), .val (.slice none 0 0)] := ⟨_, Tryz.t98, _, Tryz.underlying98, by kernel_rfl, rfl, by kernel_rfl, rfl⟩
instance bBd : TY Tryz.prog 100 true 2 := ⟨Tryz.isAgg100, Tryz.sizeOf100⟩
instance aU7 : eG Tryz.prog 100 0 0 9 := ⟨_, Tryz.runUnderlying100, rfl⟩
instance aXd : eG Tryz.prog 100 1 1 96 := ⟨_, Tryz.runUnderlying100, rfl⟩
instance aZp : eM Tryz.prog 100 [.val (.string ⟨#[]⟩), .val (.slice none 0 0)] := ⟨_, Tryz.zeroValue100, rfl⟩
instance bAp : Plc Tryz.prog 100 [(0, 1), (1, 1)] [.val (.string ⟨#[]⟩), .val (.slice none 0 0)] := ⟨_, Tryz.t100, _, Tryz.underlying100, by kernel_rfl, rfl, by kernel_rfl, rfl⟩
instance bAu : TY Tryz.prog 101 false 1 := ⟨Tryz.isAgg101, Tryz.sizeOf101⟩
instance aXo : TSl Tryz.prog 101 107 := ⟨Tryz.runUnderlying101⟩
instance bBz : eM Tryz.prog 101 [.val (.slice none 0 0)] := ⟨_, Tryz.zeroValue101, rfl⟩
instance bCg : TY Tryz.prog 103 true 11 := ⟨Tryz.isAgg103, Tryz.sizeOf103⟩
instance aWj : eG Tryz.prog 103 0 0 3 := ⟨_, Tryz.runUnderlying103, rfl⟩
instance aUu : eG Tryz.prog 103 1 1 9 := ⟨_, Tryz.runUnderlying103, rfl⟩
instance aWi : eG Tryz.prog 103 2 2 98 := ⟨_, Tryz.runUnderlying103, rfl⟩
instance aUt : eG Tryz.prog 103 3 6 100 := ⟨_, Tryz.runUnderlying103, rfl⟩
instance aVh : eG Tryz.prog 103 4 8 101 := ⟨_, Tryz.runUnderlying103, rfl⟩
instance aUw : eG Tryz.prog 103 5 9 47 := ⟨_, Tryz.runUnderlying103, rfl⟩
instance aU4 : eG Tryz.prog 103 6 10 47 := ⟨_, Tryz.runUnderlying103, rfl⟩
instance bAv : eM Tryz.prog 103 [.val (.int .i64 0), .val (.string ⟨#[]⟩), .val (.int .i64 0), .val (.int .i64 0), .val (.string ⟨#[]⟩), .val (.slice none 0 0), .val (.string ⟨#[]⟩), .val (.slice none 0 0), .val (.slice none 0 0), .val (.slice none 0 0), .val (.slice none 0 0)] := ⟨_, Tryz.zeroValue103, rfl⟩
instance bBf : Plc Tryz.prog 103 [(0, 1), (1, 1), (2, 4), (6, 2), (8, 1), (9, 1), (10, 1)] [.val (.int .i64 0), .val (.string ⟨#[]⟩), .val (.int .i64 0), .val (.int .i64 0), .val (.string ⟨#[]⟩), .val (.slice none 0 0), .val (.string ⟨#[]⟩), .val (.slice none 0 0), .val (.slice none 0 0), .val (.slice none 0 0), .val (.slice none 0 0)] := ⟨_, Tryz.t103, _, Tryz.underlying103, by kernel_rfl, rfl, by kernel_rfl, rfl⟩
instance bAm : TY Tryz.prog 107 true 7 := ⟨Tryz.isAgg107, Tryz.sizeOf107⟩
instance aUs : eG Tryz.prog 107 0 0 4 := ⟨_, Tryz.runUnderlying107, rfl⟩
instance aV3 : eG Tryz.prog 107 1 1 100 := ⟨_, Tryz.runUnderlying107, rfl⟩
instance aXe : eG Tryz.prog 107 2 3 98 := ⟨_, Tryz.runUnderlying107, rfl⟩
instance bCc : eM Tryz.prog 107 [.val (.bool false), .val (.string ⟨#[]⟩), .val (.slice none 0 0), .val (.int .i64 0), .val (.int .i64 0), .val (.string ⟨#[]⟩), .val (.slice none 0 0)] := ⟨_, Tryz.zeroValue107, rfl⟩
instance aZj : Plc Tryz.prog 107 [(0, 1), (1, 2), (3, 4)] [.val (.bool false), .val (.string ⟨#[]⟩), .val (.slice none 0 0), .val (.int .i64 0), .val (.int .i64 0), .val (.string ⟨#[]⟩), .val (.slice none 0 0)] := ⟨_, Tryz.t107, _, Tryz.underlying107, by kernel_rfl, rfl, by kernel_rfl, rfl⟩
instance aZi : TY Tryz.prog 114 false 1 := ⟨Tryz.isAgg114, Tryz.sizeOf114⟩
instance bCq : TY Tryz.prog 115 false 1 := ⟨Tryz.isAgg115, Tryz.sizeOf115⟩
instance bB1 : TY Tryz.prog 116 false 1 := ⟨Tryz.isAgg116, Tryz.sizeOf116⟩
instance bAj : TY Tryz.prog 118 true 7 := ⟨Tryz.isAgg118, Tryz.sizeOf118⟩
instance aWk : eG Tryz.prog 118 0 0 35 := ⟨_, Tryz.runUnderlying118, rfl⟩
instance aUc : eG Tryz.prog 118 1 3 115 := ⟨_, Tryz.runUnderlying118, rfl⟩
instance aWw : eG Tryz.prog 118 2 4 116 := ⟨_, Tryz.runUnderlying118, rfl⟩
instance aVe : eG Tryz.prog 118 3 5 3 := ⟨_, Tryz.runUnderlying118, rfl⟩
instance aWh : eG Tryz.prog 118 4 6 3 := ⟨_, Tryz.runUnderlying118, rfl⟩
instance bB4 : TY Tryz.prog 145 false 1 := ⟨Tryz.isAgg145, Tryz.sizeOf145⟩
instance aZg : TY Tryz.prog 146 false 1 := ⟨Tryz.isAgg146, Tryz.sizeOf146⟩
instance bCl : TY Tryz.prog 148 true 2 := ⟨Tryz.isAgg148, Tryz.sizeOf148⟩
instance aWr : eG Tryz.prog 148 0 0 146 := ⟨_, Tryz.runUnderlying148, rfl⟩
instance aWm : eG Tryz.prog 148 1 1 23 := ⟨_, Tryz.runUnderlying148, rfl⟩
instance bA2 : eM Tryz.prog 148 [.val (.pointer none), .val (.slice none 0 0)] := ⟨_, Tryz.zeroValue148, rfl⟩
instance bAa : Plc Tryz.prog 148 [(0, 1), (1, 1)] [.val (.pointer none), .val (.slice none 0 0)] := ⟨_, Tryz.t148, _, Tryz.underlying148, by kernel_rfl, rfl, by kernel_rfl, rfl⟩
instance bAh : TY Tryz.prog 150 true 3 := ⟨Tryz.isAgg150, Tryz.sizeOf150⟩
instance aXi : eG Tryz.prog 150 0 0 148 := ⟨_, Tryz.runUnderlying150, rfl⟩
instance aUe : eG Tryz.prog 150 1 2 3 := ⟨_, Tryz.runUnderlying150, rfl⟩
instance bA4 : eM Tryz.prog 150 [.val (.pointer none), .val (.slice none 0 0), .val (.int .i64 0)] := ⟨_, Tryz.zeroValue150, rfl⟩
instance bBm : Plc Tryz.prog 150 [(0, 2), (2, 1)] [.val (.pointer none), .val (.slice none 0 0), .val (.int .i64 0)] := ⟨_, Tryz.t150, _, Tryz.underlying150, by kernel_rfl, rfl, by kernel_rfl, rfl⟩
instance bCj : TY Tryz.prog 154 false 1 := ⟨Tryz.isAgg154, Tryz.sizeOf154⟩
instance bAz : eM Tryz.prog 154 [.val (.int .i64 0)] := ⟨_, Tryz.zeroValue154, rfl⟩
instance bA0 : TY Tryz.prog 159 false 1 := ⟨Tryz.isAgg159, Tryz.sizeOf159⟩
instance aZx : eM Tryz.prog 159 [.val (.int .u64 0)] := ⟨_, Tryz.zeroValue159, rfl⟩
instance aZ7 : TY Tryz.prog 176 false 1 := ⟨Tryz.isAgg176, Tryz.sizeOf176⟩
instance bB8 : TY Tryz.prog 189 false 1 := ⟨Tryz.isAgg189, Tryz.sizeOf189⟩
instance bCf : TY Tryz.prog 198 true 11 := ⟨Tryz.isAgg198, Tryz.sizeOf198⟩
instance bAc : TY Tryz.prog 205 true 6 := ⟨Tryz.isAgg205, Tryz.sizeOf205⟩
instance aUz : eG Tryz.prog 205 0 0 4 := ⟨_, Tryz.runUnderlying205, rfl⟩
instance aWl : eG Tryz.prog 205 1 1 4 := ⟨_, Tryz.runUnderlying205, rfl⟩
instance aWy : eG Tryz.prog 205 2 2 4 := ⟨_, Tryz.runUnderlying205, rfl⟩
instance aV4 : eG Tryz.prog 205 3 3 4 := ⟨_, Tryz.runUnderlying205, rfl⟩
instance aVk : eG Tryz.prog 205 4 4 4 := ⟨_, Tryz.runUnderlying205, rfl⟩
instance aVy : eG Tryz.prog 205 5 5 4 := ⟨_, Tryz.runUnderlying205, rfl⟩
instance aZf : eM Tryz.prog 205 [.val (.bool false), .val (.bool false), .val (.bool false), .val (.bool false), .val (.bool false), .val (.bool false)] := ⟨_, Tryz.zeroValue205, rfl⟩
instance bBi : Plc Tryz.prog 205 [(0, 1), (1, 1), (2, 1), (3, 1), (4, 1), (5, 1)] [.val (.bool false), .val (.bool false), .val (.bool false), .val (.bool false), .val (.bool false), .val (.bool false)] := ⟨_, Tryz.t205, _, Tryz.underlying205, by kernel_rfl, rfl, by kernel_rfl, rfl⟩
instance bCb : TY Tryz.prog 213 false 1 := ⟨Tryz.isAgg213, Tryz.sizeOf213⟩
instance bAg : TY Tryz.prog 215 true 4 := ⟨Tryz.isAgg215, Tryz.sizeOf215⟩
instance aV1 : eG Tryz.prog 215 0 0 43 := ⟨_, Tryz.runUnderlying215, rfl⟩
instance aU1 : eG Tryz.prog 215 1 1 3 := ⟨_, Tryz.runUnderlying215, rfl⟩
instance aVd : eG Tryz.prog 215 2 2 3 := ⟨_, Tryz.runUnderlying215, rfl⟩
instance aUb : eG Tryz.prog 215 3 3 38 := ⟨_, Tryz.runUnderlying215, rfl⟩
instance bA9 : eM Tryz.prog 215 [.val (.slice none 0 0), .val (.int .i64 0), .val (.int .i64 0), .val (.int .i64 0)] := ⟨_, Tryz.zeroValue215, rfl⟩
instance aZv : Plc Tryz.prog 215 [(0, 1), (1, 1), (2, 1), (3, 1)] [.val (.slice none 0 0), .val (.int .i64 0), .val (.int .i64 0), .val (.int .i64 0)] := ⟨_, Tryz.t215, _, Tryz.underlying215, by kernel_rfl, rfl, by kernel_rfl, rfl⟩
instance bA7 : TY Tryz.prog 220 true 24 := ⟨Tryz.isAgg220, Tryz.sizeOf220⟩
instance bAq : TY Tryz.prog 231 true 20 := ⟨Tryz.isAgg231, Tryz.sizeOf231⟩
instance bB5 : TY Tryz.prog 232 false 1 := ⟨Tryz.isAgg232, Tryz.sizeOf232⟩
instance aZ4 : eM Tryz.prog 232 [.val (.int .u32 0)] := ⟨_, Tryz.zeroValue232, rfl⟩
instance bBg : TY Tryz.prog 233 true 65 := ⟨Tryz.isAgg233, Tryz.sizeOf233⟩
instance bBt : TY Tryz.prog 236 true 18 := ⟨Tryz.isAgg236, Tryz.sizeOf236⟩
instance aZm : TY Tryz.prog 242 true 32 := ⟨Tryz.isAgg242, Tryz.sizeOf242⟩
instance bB0 : TY Tryz.prog 243 true 64 := ⟨Tryz.isAgg243, Tryz.sizeOf243⟩
end
section
open Go.RowKit
theorem kB {a b : Bool} (h : a = true ↔ b = true) : Ending.returned (.bool a) = .returned (.bool b) := by rw [Bool.eq_iff_iff.2 h]
theorem gG {k : IntKind} {a b : Int} (h : a = b) : Ending.returned (.int k a) = .returned (.int k b) := by rw [h]
theorem sB (c : UInt8) (w : World) :
  Calls Tryz.prog 108 #[.int .u8 c.toNat] w fun e w' => e = .returned (.bool (isSp c)) ∧ w = w' := by
 unfold isSp
 generalize (c.toNat : Int) = n
 go_enter Tryz.func108, Tryz.ntmps108
 go_wp2
 all_goals (go_ret; refine ⟨kB ?_, rfl⟩; simp; try omega)
theorem qG (c : UInt8) (w : World) :
  Calls Tryz.prog 111 #[.int .u8 c.toNat] w fun e w' => e = .returned (.bool (fU c)) ∧ w = w' := by
 unfold fU
 generalize (c.toNat : Int) = n
 go_enter Tryz.func111, Tryz.ntmps111
 go_wp2
 all_goals (go_ret; refine ⟨kB ?_, rfl⟩; simp; try omega)
theorem oV (c : UInt8) (w : World) :
  Calls Tryz.prog 113 #[.int .u8 c.toNat] w fun e w' => e = .returned (.bool (cD c)) ∧ w = w' := by
 unfold cD
 generalize (c.toNat : Int) = n
 go_enter Tryz.func113, Tryz.ntmps113
 go_wp2
 all_goals (go_ret; refine ⟨kB ?_, rfl⟩; simp; try omega)
theorem tC (c : UInt8) (w : World) :
  Calls Tryz.prog 145 #[.int .u8 c.toNat] w fun e w' => e = .returned (.bool (cT c)) ∧ w = w' := by
 go_enter Tryz.func145, Tryz.ntmps145
 go_wp2_with (first | (go_at_call 111; refine (qG _ _).mono ?_; rintro e w' ⟨rfl, rfl⟩) | (go_at_call 113; refine (oV _ _).mono ?_; rintro e w' ⟨rfl, rfl⟩))
 all_goals (go_ret; refine ⟨kB ?_, rfl⟩; simp [cT, *])
theorem oK (s p : ByteArray) (w : World) :
  Calls Tryz.prog 109 #[.string s, .string p] w fun e w' => e = .returned (.bool (Lib.hasPrefix s.data.toList p.data.toList)) ∧ w = w' :=
 (Tryz.strings_HasPrefix s p w).mono fun _ _ h => ⟨h.1, h.2.symm⟩
theorem oL (s : ByteArray) (c : Int) (w : World) :
  Calls Tryz.prog 110 #[.string s, .int .u8 c] w fun e w' => e = .returned (.int .i64 (Lib.indexByte s.data.toList c.toNat.toUInt8)) ∧ w = w' :=
 (Tryz.strings_IndexByte s c w).mono fun _ _ h => ⟨h.1, h.2.symm⟩
theorem uH (s : ByteArray) (k0 : Nat) (w : World) (hs : s.size ≤ 9223372036854775807) (hk : k0 ≤ s.size) :
  Calls Tryz.prog 75 #[.string s, .int .i64 k0] w fun e w' => e = .returned (.int .i64 (bF s.data.toList k0)) ∧ w = w' := by
 have hlen : s.data.toList.length = s.size := rfl
 go_enter Tryz.func75, Tryz.ntmps75
 go_wp2_with fail
 go_loop [1, 5] (fun v _ => ∃ k : Nat, k ≤ s.size ∧ v = .int .i64 k ∧ bF s.data.toList k = bF s.data.toList k0) (fun v _ => s.size - (intOf v).toNat)
 case atStart => exact ⟨k0, hk, rfl, rfl⟩
 case round =>
  obtain ⟨k, hk, rfl, hr⟩ := hrel
  have HR := Lib.hid hr; clear hr
  have HL := Lib.hid hlen; clear hlen
  by_cases hlt : k < s.size
  ·by_cases hsp : isSp s[k] = true
   ·go_wp2_with (first | (go_at_call 108; refine (sB _ _).mono ?_; rintro e w' ⟨rfl, rfl⟩))
    go_round
    case rel => exact ⟨k + 1, by omega, by go_num, (aGh _ _ (by rw [HL.out]; exact hlt) hsp).trans HR.out⟩
    case measure => simp [intOf]; omega
   ·have hsp' : isSp s[k] = false := by simpa using hsp
    clear hsp
    by_cases hc : Lib.hasPrefix (s.data.toList.drop k) [47, 47] = true
    ·have hcom := aJa _ _ (by rw [HL.out]; exact hlt) hc
     have HC := Lib.hid hcom; clear hcom
     have htk : List.take (s.size - k) (List.drop k s.data.toList) = List.drop k s.data.toList := take_of_length_le (by simp)
     by_cases hn : Lib.indexByte (s.data.toList.drop k) 10 < 0
     ·go_wp2_with (first | (go_at_call 108; refine (sB _ _).mono ?_; rintro e w' ⟨rfl, rfl⟩) | (go_at_call 109; refine (oK _ _ _).mono ?_; rintro e w' ⟨rfl, rfl⟩)| (go_at_call 110; refine (oL _ _ _).mono ?_; rintro e w' ⟨rfl, rfl⟩))
      go_ret
      exact ⟨gG (by rw [← HR.out, HC.out.1 hn, HL.out]), rfl⟩
     ·obtain ⟨j, hj⟩ : ∃ j : Nat, Lib.indexByte (s.data.toList.drop k) 10 = j := ⟨(Lib.indexByte (s.data.toList.drop k) 10).toNat, by omega⟩
      obtain ⟨h1, h2, h3⟩ := HC.out.2 j hj
      rw [HL.out] at h2
      have H1 := Lib.hid h1; clear h1
      clear hn
      go_wp2_with (first | (go_at_call 108; refine (sB _ _).mono ?_; rintro e w' ⟨rfl, rfl⟩) | (go_at_call 109; refine (oK _ _ _).mono ?_; rintro e w' ⟨rfl, rfl⟩)| (go_at_call 110; refine (oL _ _ _).mono ?_; rintro e w' ⟨rfl, rfl⟩))
      go_round
      case rel => exact ⟨k + j, by omega, by go_num, H1.out.trans HR.out⟩
      case measure => simp [intOf]; omega
    ·have hc' : Lib.hasPrefix (s.data.toList.drop k) [47, 47] = false := by simpa using hc
     have hstop : bF s.data.toList k = k := by
      refine zX _ _ (by rw [HL.out]; exact hlt) hsp' ?_
      rintro ⟨h1, h2⟩
      apply hc
      rw [sZ, dR _ _ (by rw [HL.out]; exact hlt), h1]
      cases hd : s.data.toList.drop (k + 1) with
      | nil => simp [hd] at h2
      | cons a r => rw [hd] at h2; simp at h2; subst h2; exact ⟨r, rfl⟩
     have HS := Lib.hid hstop; clear hstop
     clear hc
     have htk : List.take (s.size - k) (List.drop k s.data.toList) = List.drop k s.data.toList := take_of_length_le (by simp)
     go_wp2_with (first | (go_at_call 108; refine (sB _ _).mono ?_; rintro e w' ⟨rfl, rfl⟩) | (go_at_call 109; refine (oK _ _ _).mono ?_; rintro e w' ⟨rfl, rfl⟩))
     go_ret
     exact ⟨gG (by rw [← HR.out, HS.out]), rfl⟩
  ·go_wp2_with fail
   go_ret
   exact ⟨gG (by rw [← HR.out, aA5 _ _ (by rw [HL.out]; omega), HL.out]; omega), rfl⟩
theorem lH (p : UInt8 → Bool) (l : List UInt8) (k : Nat) (hk : k < l.length) (h : (l.takeWhile p).length = k + ((l.drop k).takeWhile p).length) :
  (p l[k] = true → (l.takeWhile p).length = (k + 1) + ((l.drop (k + 1)).takeWhile p).length) ∧ (p l[k] = false → (l.takeWhile p).length = k) := by
 rw [dR l k hk] at h
 refine ⟨fun hp => ?_, fun hp => ?_⟩
 ·rw [List.takeWhile_cons_of_pos hp] at h; simp at h; omega
 ·rw [List.takeWhile_cons_of_neg (by simp [hp])] at h; simpa using h
theorem aI6 (s : ByteArray) (w : World) (hs : s.size ≤ 9223372036854775807) :
  Calls Tryz.prog 144 #[.string s, .func (.func 113) #[] #[]] w fun e w' => e = .returned (.int .i64 (s.data.toList.takeWhile cD).length) ∧ w = w' := by
 have HL := Lib.hid (show s.data.toList.length = s.size from rfl)
 go_enter Tryz.func144, Tryz.ntmps144
 go_wp2_with fail
 go_loop [5] (fun v => ∃ k : Nat, k ≤ s.size ∧ v = .int .i64 k ∧ (s.data.toList.takeWhile cD).length = k + ((s.data.toList.drop k).takeWhile cD).length) (fun v => s.size - (intOf v).toNat)
 case atStart => exact ⟨0, by omega, rfl, by simp⟩
 case round =>
  obtain ⟨k, hk, rfl, hr⟩ := hrel
  by_cases hlt : k < s.size
  ·have HT := Lib.hid (lH cD s.data.toList k (by rw [HL.out]; exact hlt) hr); clear hr
   by_cases hp : cD s[k] = true
   ·go_wp2_with (first | (go_at_call 113; refine (oV _ _).mono ?_; rintro e w' ⟨rfl, rfl⟩))
    go_round
    case rel => exact ⟨k + 1, by omega, by go_num, HT.out.1 hp⟩
    case measure => simp [intOf]; omega
   ·have hp' : cD s[k] = false := by simpa using hp
    clear hp
    go_wp2_with (first | (go_at_call 113; refine (oV _ _).mono ?_; rintro e w' ⟨rfl, rfl⟩))
    go_ret
    exact ⟨gG (by rw [HT.out.2 hp']), rfl⟩
  ·have HR := Lib.hid hr; clear hr
   go_wp2_with fail
   go_ret
   refine ⟨gG ?_, rfl⟩
   rw [HR.out, List.drop_eq_nil_of_le (by rw [HL.out]; omega)]; rfl
theorem aM0 (s : ByteArray) (w : World) (hs : s.size ≤ 9223372036854775807) :
  Calls Tryz.prog 144 #[.string s, .func (.func 145) #[] #[]] w fun e w' => e = .returned (.int .i64 (s.data.toList.takeWhile cT).length) ∧ w = w' := by
 have HL := Lib.hid (show s.data.toList.length = s.size from rfl)
 go_enter Tryz.func144, Tryz.ntmps144
 go_wp2_with fail
 go_loop [5] (fun v => ∃ k : Nat, k ≤ s.size ∧ v = .int .i64 k ∧ (s.data.toList.takeWhile cT).length = k + ((s.data.toList.drop k).takeWhile cT).length) (fun v => s.size - (intOf v).toNat)
 case atStart => exact ⟨0, by omega, rfl, by simp⟩
 case round =>
  obtain ⟨k, hk, rfl, hr⟩ := hrel
  by_cases hlt : k < s.size
  ·have HT := Lib.hid (lH cT s.data.toList k (by rw [HL.out]; exact hlt) hr); clear hr
   by_cases hp : cT s[k] = true
   ·go_wp2_with (first | (go_at_call 145; refine (tC _ _).mono ?_; rintro e w' ⟨rfl, rfl⟩))
    go_round
    case rel => exact ⟨k + 1, by omega, by go_num, HT.out.1 hp⟩
    case measure => simp [intOf]; omega
   ·have hp' : cT s[k] = false := by simpa using hp
    clear hp
    go_wp2_with (first | (go_at_call 145; refine (tC _ _).mono ?_; rintro e w' ⟨rfl, rfl⟩))
    go_ret
    exact ⟨gG (by rw [HT.out.2 hp']), rfl⟩
  ·have HR := Lib.hid hr; clear hr
   go_wp2_with fail
   go_ret
   refine ⟨gG ?_, rfl⟩
   rw [HR.out, List.drop_eq_nil_of_le (by rw [HL.out]; omega)]; rfl
end
section
open Go.RowKit
structure Env (w : World) : Prop where
 words : ∀ j, j < words.length → w.cell? ⟨0, 0 + j, none⟩ = some (.string (words.getD j ByteArray.empty))
 maxLen : ∃ m : Int, w.cell? ⟨1, 0, none⟩ = some (.int .i64 m)
 size : Nat.max 0 1 + 1 ≤ w.heap.size
theorem Env.below {B : Nat} {w w' : World} (h : Env w) (hb : Below B w w') (hB : Nat.max 0 1 + 1 ≤ B) : Env w' := by
 refine ⟨fun j hj => ?_, ?_, Nat.le_trans h.size hb.size⟩
 ·rw [hb.cell (p := ⟨0, 0 + j, none⟩) (Nat.lt_of_lt_of_le (by decide : 0 < Nat.max 0 1 + 1) hB)]; exact h.words j hj
 ·rw [hb.cell (p := ⟨1, 0, none⟩) (Nat.lt_of_lt_of_le (by decide : 1 < Nat.max 0 1 + 1) hB)]; exact h.maxLen
theorem Env.alloc {w : World} (h : Env w) (o : Obj) : Env (w.alloc o) := h.below ((Below.refl w.heap.size w).alloc (Nat.le_refl _) o) h.size
theorem Env.drew {w : World} (h : Env w) : Env w.drew := h.below ((Below.refl w.heap.size w).drew) h.size
theorem Env.setCell {w : World} (h : Env w) {a : Addr} (ha : Nat.max 0 1 + 1 ≤ a.block) (u : Value) : Env (w.setCell a u) := h.below ((Below.refl (Nat.max 0 1 + 1) w).setCell ha u) (Nat.le_refl _)
theorem yL (s : ByteArray) (w : World) (he : Env w) :
  Calls Tryz.prog 172 #[.slice (some ⟨0, 0, none⟩) 11 11, .string s] w fun e w' => e = .returned (.bool (dA s)) ∧ w = w' := by
 refine (Tryz.slices_Contains_string 0 0 11 11 words s w (by decide) (by decide) he.words).mono fun e w' h => ⟨?_, h.2.symm⟩
 rw [h.1]
 refine kB ?_
 rw [Lib.containsS_iff, mK]; rfl
theorem aC5 (s : ByteArray) (w : World) (he : Env w) :
  Calls Tryz.prog 146 #[.string s] w fun e w' => e = .returned (.bool (dA s)) ∧ w = w' := by
 go_enter Tryz.func146, Tryz.ntmps146
 go_wp2_with (first | (go_at_call 172; refine (yL _ _ he).mono ?_; rintro e w' ⟨rfl, rfl⟩))
 go_ret
 exact ⟨rfl, rfl⟩
theorem nZ (s : ByteArray) (p : UInt8 → Bool) : s.extract 0 (s.data.toList.takeWhile p).length = bytes (s.data.toList.takeWhile p) := by
 have := ByteArray.extract_mk s.data.toList 0 (s.data.toList.takeWhile p).length
 rw [show (ByteArray.mk s.data.toList.toArray) = s from by simp] at this
 rw [this, bytes, List.drop_zero, Nat.sub_zero]
 congr 2
 conv => rhs; rw [List.takeWhile_eq_take_findIdx_not]
 rw [List.takeWhile_eq_take_findIdx_not, List.length_take, List.take_eq_take_iff]; omega
theorem aMr (s : ByteArray) (w : World) (hs : s.size ≤ 9223372036854775807) (he : Env w) :
  Calls Tryz.prog 112 #[.string s] w fun e w' => e = .returned (.tuple #[.agg #[.int .i64 ((if dA (bytes (s.data.toList.takeWhile cT)) then 3 else 1 : Nat) : Int), .string (bytes (s.data.toList.takeWhile cT)), .int .i64 0, .int .i64 0], .int .i64 ((if 16 < (s.data.toList.takeWhile cT).length then 3 else 0 : Nat) : Int)]) ∧ Below w.heap.size w w' := by
 have hle : (s.data.toList.takeWhile cT).length ≤ s.size := (List.takeWhile_sublist _).length_le
 have hx := nZ s cT
 have hsz : (bytes (s.data.toList.takeWhile cT)).size = (s.data.toList.takeWhile cT).length := by simp [bytes, ByteArray.size]
 go_enter Tryz.func112, Tryz.ntmps112
 go_wp2_with (first | (go_at_call 144; refine (aM0 _ _ hs).mono ?_; rintro e w' ⟨rfl, rfl⟩) | (go_at_call 146; refine (aC5 _ _ ((he.alloc _).alloc _)).mono ?_; rintro e w' ⟨rfl, rfl⟩))
 all_goals (go_returns; refine ⟨?_, by go_grown⟩)
 all_goals first | rfl | (rw [if_pos (by omega)]; rfl) | (rw [if_neg (by omega)]; rfl)
theorem aJc (t : ByteArray) (k n : Nat) (hk : k < t.size) (h : iT 0 t.data.toList = iT n (t.data.toList.drop k)) :
  ((9223372036854775807 - (t[k].toNat - 48)) / 10 < n → iT 0 t.data.toList = none) ∧ (¬ (9223372036854775807 - (t[k].toNat - 48)) / 10 < n → iT 0 t.data.toList = iT (10 * n + (t[k].toNat - 48)) (t.data.toList.drop (k + 1))) := by
 rw [dR _ k (by exact hk), iT] at h
 refine ⟨fun hn => ?_, fun hn => ?_⟩
 ·rw [h]; exact if_pos hn
 ·rw [h]; exact if_neg hn
def aXp (t : ByteArray) (e : Ending) : Prop := ∃ n : Nat, (n : Int) ≤ 9223372036854775807 ∧ ((iT 0 t.data.toList = none ∧ e = .returned (.tuple #[.agg #[.int .i64 2, .string t, .int .i64 n, .int .i64 0], .int .i64 2])) ∨ (iT 0 t.data.toList = some n ∧ e = .returned (.tuple #[.agg #[.int .i64 2, .string t, .int .i64 n, .int .i64 0], .int .i64 0])))
theorem aHi (s : ByteArray) (w : World) (hs : s.size ≤ 9223372036854775807) :
  Calls Tryz.prog 114 #[.string s] w fun e w' => aXp (bytes (s.data.toList.takeWhile cD)) e ∧ Below w.heap.size w w' := by
 have hle : (s.data.toList.takeWhile cD).length ≤ s.size := (List.takeWhile_sublist _).length_le
 have hx := nZ s cD
 have hsz : (bytes (s.data.toList.takeWhile cD)).size = (s.data.toList.takeWhile cD).length := by simp [bytes, ByteArray.size]
 have hall : ∀ c ∈ (bytes (s.data.toList.takeWhile cD)).data.toList, cD c = true := by
  intro c hc; simp only [bytes] at hc; exact (List.all_eq_true.1 (List.all_takeWhile (p := cD) (l := s.data.toList))) c hc
 generalize hm : (s.data.toList.takeWhile cD).length = m at *
 generalize ht : bytes (s.data.toList.takeWhile cD) = t at *
 have HM := Lib.hid hm
 have HT := Lib.hid ht
 have HA := Lib.hid hall
 have HX := Lib.hid hx
 clear hm ht hall
 subst hsz
 go_enter Tryz.func114, Tryz.ntmps114
 go_wp2_with (first | (go_at_call 144; refine (aI6 _ _ hs).mono ?_; rintro e w' ⟨rfl, rfl⟩; rw [HM.out]))
 go_loopw [15] (fun v wr => ∃ k n : Nat, k ≤ t.size ∧ v = .int .i64 k ∧ n ≤ 9223372036854775807 ∧ iT 0 t.data.toList = iT n (t.data.toList.drop k) ∧ wr = (w.alloc (Obj.cells #[Value.int IntKind.i64 0, Value.string { data := #[] }, Value.int IntKind.i64 0, Value.int IntKind.i64 0] 84)).alloc (Obj.cells #[Value.int IntKind.i64 2, Value.string t, Value.int IntKind.i64 n, Value.int IntKind.i64 0] 84)) (fun v _ => t.size - (intOf v).toNat)
 case atStart => exact ⟨0, 0, by omega, rfl, by omega, rfl, rfl⟩
 case round =>
  obtain ⟨k, n, hk, rfl, hn, hv, rfl⟩ := hrel
  by_cases hlt : k < t.size
  ·have hst := aJc t k n hlt hv
   have hd : cD t[k] = true := HA.out _ (by simp [ByteArray.getElem_eq_getElem_data])
   have HS := Lib.hid hst
   clear hst hv
   simp only [cD, decide_eq_true_eq] at hd
   obtain ⟨hd1, hd2⟩ := hd
   by_cases hov : (9223372036854775807 - (t[k].toNat - 48)) / 10 < n
   ·have hov' : (9223372036854775807 - ((t[k].toNat : Int) - 48)) / 10 < (n : Int) := by omega
    have HO := Lib.hid hov
    clear hov
    go_wp2_with fail
    go_returns
    exact ⟨⟨n, by omega, .inl ⟨HS.out.1 HO.out, rfl⟩⟩, by go_grown⟩
   ·have hov' : (n : Int) ≤ (9223372036854775807 - ((t[k].toNat : Int) - 48)) / 10 := by omega
    have HO := Lib.hid hov
    clear hov
    go_wp2_with fail
    go_roundw
    case rel => exact ⟨k + 1, 10 * n + (t[k].toNat - 48), by omega, by go_num, by omega, HS.out.2 HO.out, by congr 5; go_num⟩
    case measure => simp [intOf]; omega
  ·have HV := Lib.hid hv
   clear hv
   go_wp2_with fail
   go_returns
   refine ⟨⟨n, by omega, .inr ⟨?_, rfl⟩⟩, by go_grown⟩
   rw [HV.out, List.drop_eq_nil_of_le (by show t.size ≤ k; omega), iT]
theorem nT (sub : ByteArray) (w : World) (he : Env w) :
  Calls Tryz.prog 147 #[.string ⟨#[60, 61, 32, 62, 61, 32, 61, 61, 32, 33, 61, 32, 38, 38, 32, 124, 124]⟩, .string sub] w fun e w' => e = .returned (.bool (Lib.contains wG sub.data.toList)) ∧ w = w' := by
 obtain ⟨m, hm⟩ := he.maxLen
 exact (Tryz.strings_Contains _ sub m w (by decide) hm).mono fun e w' h => ⟨h.1, h.2.symm⟩
theorem oD (c : UInt8) (w : World) :
  Calls Tryz.prog 110 #[.string ⟨#[40, 41, 123, 125, 91, 93, 44, 59, 61, 43, 45, 42, 47, 37, 60, 62, 33]⟩, .int .u8 c.toNat] w fun e w' => e = .returned (.int .i64 (Lib.indexByte dW c)) ∧ w = w' := by
 refine (oL _ _ _).mono fun e w' h => ⟨?_, h.2⟩
 rw [h.1]; congr 3; simp
def aE9 (s : ByteArray) (n : Nat) : Value := .tuple #[.agg #[.int .i64 (if n = 0 then 0 else 4), .string (bytes (s.data.toList.take n)), .int .i64 0, .int .i64 0], .int .i64 (if n = 0 then 1 else 0)]
theorem pY (s : ByteArray) (n : Nat) : s.extract 0 n = bytes (s.data.toList.take n) := by
 have := ByteArray.extract_mk s.data.toList 0 n
 rw [show (ByteArray.mk s.data.toList.toArray) = s from by simp] at this
 rw [this, bytes, List.drop_zero, Nat.sub_zero]
theorem jR (l : List UInt8) : (bytes l).data.toList = l := by simp [bytes]
theorem aLh (s : ByteArray) (w : World) (he : Env w) (h2 : 1 < s.size) (h0 : ((s[0].toNat : Int) == 32) = false) (h1 : ((s[1].toNat : Int) == 32) = false) (hc : Lib.contains wG (s.data.toList.take 2) = true) :
  Calls Tryz.prog 115 #[.string s] w fun e w' => e = .returned (aE9 s 2) ∧ Below w.heap.size w w' := by
 have h0' : ((s[0].toNat : Int) != 32) = true := by simp at h0 ⊢; exact h0
 have h1' : ((s[1].toNat : Int) != 32) = true := by simp at h1 ⊢; exact h1
 have h2' : (1 : Int) < s.size := by omega
 have hx := pY s 2
 have hbd := jR (s.data.toList.take 2)
 go_enter Tryz.func115, Tryz.ntmps115
 go_wp2_with (first | (go_at_call 147; refine (nT _ _ (he.alloc _)).mono ?_; rintro e w' ⟨rfl, rfl⟩))
 go_returns
 exact ⟨rfl, by go_grown⟩
inductive aH1 (s : ByteArray) : Prop
 | short (h : (s.size : Int) ≤ 1)
 | first (h2 : (1 : Int) < s.size) (h0 : 0 < s.size) (h : ((s[0].toNat : Int) != 32) = false)
 | second (h2 : (1 : Int) < s.size) (h3 : 1 < s.size) (h0 : ((s[0].toNat : Int) != 32) = true) (h : ((s[1].toNat : Int) != 32) = false)
 | other (h2 : (1 : Int) < s.size) (h3 : 1 < s.size) (h0 : ((s[0].toNat : Int) != 32) = true) (h1 : ((s[1].toNat : Int) != 32) = true) (hc : Lib.contains wG (s.data.toList.take 2) = false)
theorem aK7 (s : ByteArray) (w : World) (he : Env w) (h2 : 0 < s.size) (hn : aH1 s) (hb : 0 ≤ Lib.indexByte dW s[0]) :
  Calls Tryz.prog 115 #[.string s] w fun e w' => e = .returned (aE9 s 1) ∧ Below w.heap.size w w' := by
 have hx := pY s 1
 cases hn
 all_goals
  go_enter Tryz.func115, Tryz.ntmps115
  go_wp2_with (first | (go_at_call 147; refine (nT _ _ (he.alloc _)).mono ?_; rintro e w' ⟨rfl, rfl⟩) | (go_at_call 110; refine (oD _ _).mono ?_; rintro e w' ⟨rfl, rfl⟩))
  go_returns
  exact ⟨rfl, by go_grown⟩
theorem aKr (s : ByteArray) (w : World) (he : Env w) (h2 : 0 < s.size) (hn : aH1 s) (hb : Lib.indexByte dW s[0] < 0) :
  Calls Tryz.prog 115 #[.string s] w fun e w' => e = .returned (aE9 s 0) ∧ Below w.heap.size w w' := by
 have hx := pY s 1
 cases hn
 all_goals
  go_enter Tryz.func115, Tryz.ntmps115
  go_wp2_with (first | (go_at_call 147; refine (nT _ _ (he.alloc _)).mono ?_; rintro e w' ⟨rfl, rfl⟩) | (go_at_call 110; refine (oD _ _).mono ?_; rintro e w' ⟨rfl, rfl⟩))
  go_returns
  exact ⟨rfl, by go_grown⟩
theorem aHm (c : UInt8) : (c ≠ 32 → ((c.toNat : Int) != 32) = true) ∧ (c = 32 → ((c.toNat : Int) != 32) = false) := by
 refine ⟨fun h => ?_, fun h => by subst h; rfl⟩
 simp only [bne_iff_ne, ne_eq]
 intro h3; apply h; apply UInt8.toNat_inj.1; show c.toNat = 32; omega
theorem aLp (s : ByteArray) (w : World) (he : Env w) (h0 : 0 < s.size) :
  Calls Tryz.prog 115 #[.string s] w fun e w' => e = .returned (aE9 s (jE s.data.toList)) ∧ Below w.heap.size w w' := by
 have hl : s.data.toList.length = s.size := rfl
 have hcons := dR s.data.toList 0 (by omega)
 rw [List.drop_zero] at hcons
 have key : aH1 s ∧ ¬ (2 ≤ s.data.toList.length ∧ s.data.toList.take 2 ∈ fE) → Calls Tryz.prog 115 #[.string s] w fun e w' => e = .returned (aE9 s (jE s.data.toList)) ∧ Below w.heap.size w w' := by
  rintro ⟨hn, hm⟩
  by_cases hb : Lib.indexByte dW s[0] < 0
  ·have := (vL _).1 hb
   rw [show jE s.data.toList = 0 from by rw [hcons] at hm ⊢; exact tL hm this]
   exact aKr s w he h0 hn hb
  ·have : s[0] ∈ dW := Classical.byContradiction fun h => hb ((vL _).2 h)
   rw [show jE s.data.toList = 1 from by rw [hcons] at hm ⊢; exact oR hm this]
   exact aK7 s w he h0 hn (by omega)
 by_cases h2 : 1 < s.size
 ·have e2 : s.data.toList.take 2 = [s[0], s[1]] := by
   rw [hcons, dR s.data.toList 1 (by omega)]; rfl
  by_cases ha : s[0] = 32
  ·refine key ⟨.first (by omega) h0 ((aHm _).2 ha), fun h => ?_⟩
   rw [e2] at h; exact (rK _ _ h.2).1 ha
  by_cases hb : s[1] = 32
  ·refine key ⟨.second (by omega) h2 ((aHm _).1 ha) ((aHm _).2 hb), fun h => ?_⟩
   rw [e2] at h; exact (rK _ _ h.2).2 hb
  by_cases hc : Lib.contains wG (s.data.toList.take 2) = true
  ·have hm : s.data.toList.take 2 ∈ fE := by rw [e2] at hc ⊢; exact (aBy _ _ ha hb).1 hc
   rw [pA (by omega) hm]
   have h3 := (aHm _).1 ha
   have h4 := (aHm _).1 hb
   exact aLh s w he h2 (by simp at h3 ⊢; exact h3) (by simp at h4 ⊢; exact h4) hc
  ·refine key ⟨.other (by omega) h2 ((aHm _).1 ha) ((aHm _).1 hb) (by simpa using hc), fun h => hc ?_⟩
   have hm := h.2
   rw [e2] at hm ⊢; exact (aBy _ _ ha hb).2 hm
 ·exact key ⟨.short (by omega), by rintro ⟨h, _⟩; omega⟩
end
section
open Go.RowKit
theorem tF {W w1 : World} (hb : Below W.heap.size W w1) : (∀ b o, b < W.heap.size → w1.cell? ⟨b, o, none⟩ = W.cell? ⟨b, o, none⟩) ∧ (∀ b o, b < W.heap.size → w1.frozen? ⟨b, o, none⟩ = W.frozen? ⟨b, o, none⟩) :=
 ⟨fun b o h => hb.cell (p := ⟨b, o, none⟩) h, fun b o h => hb.frozen (p := ⟨b, o, none⟩) h⟩
def aLn (l : List UInt8) (k num er : Int) (text : ByteArray) : Prop :=
 (∃ n : Nat, dQ l = .err n ∧ er = n ∧ n ≠ 0) ∨ (∃ kd len nu : Nat, dQ l = .tok kd len nu ∧ er = 0 ∧ k = kd ∧ num = nu ∧ text = bytes (l.take len))
def aI3 (l : List UInt8) (e : Ending) : Prop := ∃ (k num er : Int) (text : ByteArray), e = .returned (.tuple #[.agg #[.int .i64 k, .string text, .int .i64 num, .int .i64 0], .int .i64 er]) ∧ aLn l k num er text
theorem takeWhile_take {α : Type} (p : α → Bool) (l : List α) : l.take (l.takeWhile p).length = l.takeWhile p :=
 (List.prefix_iff_eq_take.1 (List.takeWhile_prefix p)).symm
theorem kS (s : ByteArray) (h0 : 0 < s.size) : s.data.toList = s[0] :: s.data.toList.drop 1 := by
 have := dR s.data.toList 0 (by exact h0)
 rw [List.drop_zero] at this; exact this
theorem aKk (s : ByteArray) (w : World) (hs : s.size ≤ 9223372036854775807) (he : Env w) (h0 : 0 < s.size) (hl : fU s[0] = true) :
  Calls Tryz.prog 112 #[.string s] w fun e w' => aI3 s.data.toList e ∧ Below w.heap.size w w' := by
 refine (aMr s w hs he).mono fun e w' ⟨h, hb⟩ => ⟨⟨_, _, _, _, h, ?_⟩, hb⟩
 have hn := kK (c := s[0]) (r := s.data.toList.drop 1) hl
 rw [← kS s h0] at hn
 by_cases h16 : 16 < (s.data.toList.takeWhile cT).length
 ·rw [if_pos h16] at hn; exact .inl ⟨3, hn, by rw [if_pos h16], by omega⟩
 ·rw [if_neg h16] at hn; exact .inr ⟨_, _, _, hn, by rw [if_neg h16]; rfl, rfl, rfl, by rw [takeWhile_take]⟩
theorem aEz (s : ByteArray) (w : World) (hs : s.size ≤ 9223372036854775807) (h0 : 0 < s.size) (hl : fU s[0] = false) (hd : cD s[0] = true) :
  Calls Tryz.prog 114 #[.string s] w fun e w' => aI3 s.data.toList e ∧ Below w.heap.size w w' := by
 refine (aHi s w hs).mono fun e w' ⟨h, hb⟩ => ⟨?_, hb⟩
 obtain ⟨n, _, ⟨hn, h⟩ | ⟨hn, h⟩⟩ := h
 ·refine ⟨_, _, _, _, h, .inl ⟨2, ?_, rfl, by omega⟩⟩
  rw [jR] at hn
  rw [kS s h0] at hn; have hq := nK hl hd hn; rw [← kS s h0] at hq; exact hq
 ·refine ⟨_, _, _, _, h, .inr ⟨2, (s.data.toList.takeWhile cD).length, n, ?_, rfl, rfl, rfl, by rw [takeWhile_take]⟩⟩
  rw [jR] at hn
  rw [kS s h0] at hn; have hq := lP hl hd hn; rw [← kS s h0] at hq; exact hq
theorem aJ5 (s : ByteArray) (w : World) (he : Env w) (h0 : 0 < s.size) (hl : fU s[0] = false) (hd : cD s[0] = false) :
  Calls Tryz.prog 115 #[.string s] w fun e w' => aI3 s.data.toList e ∧ Below w.heap.size w w' := by
 refine (aLp s w he h0).mono fun e w' ⟨h, hb⟩ => ⟨?_, hb⟩
 have hn := iN (c := s[0]) (r := s.data.toList.drop 1) hl hd
 rw [← kS s h0] at hn
 by_cases hz : jE s.data.toList = 0
 ·rw [if_pos hz] at hn
  rw [hz] at h; exact ⟨_, _, _, _, h, .inl ⟨1, hn, rfl, by omega⟩⟩
 ·rw [if_neg hz] at hn
  refine ⟨_, _, _, _, h, .inr ⟨_, _, _, hn, by rw [if_neg hz], by rw [if_neg hz]; rfl, rfl, rfl⟩⟩
theorem aAf (s : ByteArray) (w : World) (hs : s.size ≤ 9223372036854775807) (he : Env w) (h0 : 0 < s.size) :
  Calls Tryz.prog 76 #[.string s] w fun e w' => aI3 s.data.toList e ∧ Below w.heap.size w w' := by
 by_cases hl : fU s[0] = true
 ·go_enter Tryz.func76, Tryz.ntmps76
  go_wp2_with (first | (go_at_call 111; refine (qG _ _).mono ?_; rintro e w' ⟨rfl, rfl⟩) | (go_at_call 112; refine (aKk _ _ hs (he.alloc _) h0 hl).mono ?_; rintro e w' ⟨⟨k, num, er, text, rfl, hR⟩, hb⟩; have HR := Lib.hid hR; clear hR; obtain ⟨hc, hf⟩ := tF hb))
  refine bodyPost_ret (v := .tuple #[.agg #[.int .i64 k, .string text, .int .i64 num, .int .i64 0], .int .i64 er]) (by simp [results, Tryz.results76, go_sem, hc]) rfl ?_
  exact ⟨⟨_, _, _, _, rfl, HR.out⟩, ((((Below.refl _ _).alloc (Nat.le_refl _) _).trans (hb.mono (by simp))).setCell (by simp) _).setCell (by simp) _ |>.setCell (by simp) _ |>.setCell (by simp) _⟩
 have hl' : fU s[0] = false := by simpa using hl
 clear hl
 by_cases hd : cD s[0] = true
 ·go_enter Tryz.func76, Tryz.ntmps76
  go_wp2_with (first | (go_at_call 111; refine (qG _ _).mono ?_; rintro e w' ⟨rfl, rfl⟩) | (go_at_call 113; refine (oV _ _).mono ?_; rintro e w' ⟨rfl, rfl⟩) | (go_at_call 114; refine (aEz _ _ hs h0 hl' hd).mono ?_; rintro e w' ⟨⟨k, num, er, text, rfl, hR⟩, hb⟩; have HR := Lib.hid hR; clear hR; obtain ⟨hc, hf⟩ := tF hb))
  refine bodyPost_ret (v := .tuple #[.agg #[.int .i64 k, .string text, .int .i64 num, .int .i64 0], .int .i64 er]) (by simp [results, Tryz.results76, go_sem, hc]) rfl ?_
  exact ⟨⟨_, _, _, _, rfl, HR.out⟩, ((((Below.refl _ _).alloc (Nat.le_refl _) _).trans (hb.mono (by simp))).setCell (by simp) _).setCell (by simp) _ |>.setCell (by simp) _ |>.setCell (by simp) _⟩
 have hd' : cD s[0] = false := by simpa using hd
 clear hd
 ·go_enter Tryz.func76, Tryz.ntmps76
  go_wp2_with (first | (go_at_call 111; refine (qG _ _).mono ?_; rintro e w' ⟨rfl, rfl⟩) | (go_at_call 113; refine (oV _ _).mono ?_; rintro e w' ⟨rfl, rfl⟩) | (go_at_call 115; refine (aJ5 _ _ (he.alloc _) h0 hl' hd').mono ?_; rintro e w' ⟨⟨k, num, er, text, rfl, hR⟩, hb⟩; have HR := Lib.hid hR; clear hR; obtain ⟨hc, hf⟩ := tF hb))
  refine bodyPost_ret (v := .tuple #[.agg #[.int .i64 k, .string text, .int .i64 num, .int .i64 0], .int .i64 er]) (by simp [results, Tryz.results76, go_sem, hc]) rfl ?_
  exact ⟨⟨_, _, _, _, rfl, HR.out⟩, ((((Below.refl _ _).alloc (Nat.le_refl _) _).trans (hb.mono (by simp))).setCell (by simp) _).setCell (by simp) _ |>.setCell (by simp) _ |>.setCell (by simp) _⟩
end
section
open Go.RowKit
def Tok.cells (t : Tok) : List Value := [.int .i64 t.kind, .string t.text, .int .i64 t.num, .int .i64 t.pos]
def dL (l : List Tok) : List Value := l.flatMap Tok.cells
theorem eP (l : List Tok) (t : Tok) : dL l ++ [.int .i64 t.kind, .string t.text, .int .i64 t.num, .int .i64 t.pos] = dL (l ++ [t]) := by simp [dL, Tok.cells]
theorem aI5 : (Tryz.prog.info? 84).map (fun i => (i.zero, i.size, i.bytes)) = some (some (.agg #[.int .i64 0, .string ⟨#[]⟩, .int .i64 0, .int .i64 0]), 4, 40) := by kernel_rfl
theorem aKq {l : List UInt8} {k num er : Int} {text : ByteArray} {n : Nat} (h : aLn l k num er text) (hn : dQ l = .err n) : er = n ∧ (n : Int) ≠ 0 := by
 rcases h with ⟨m, h1, h2, h3⟩ | ⟨_, _, _, h1, _⟩
 ·rw [hn] at h1; cases h1; exact ⟨h2, by omega⟩
 ·rw [hn] at h1; cases h1
theorem aBq {l : List UInt8} {k num er : Int} {text : ByteArray} {a b c : Nat} (h : aLn l k num er text) (hn : dQ l = .tok a b c) : er = 0 ∧ k = a ∧ num = c ∧ text = bytes (l.take b) := by
 rcases h with ⟨m, h1, h2, h3⟩ | ⟨_, _, _, h1, h2, h3, h4, h5⟩
 ·rw [hn] at h1; cases h1
 ·rw [hn] at h1; cases h1; exact ⟨h2, h3, h4, h5⟩
def aY0 (w : World) (s : List UInt8) (v : Value) (pos er : Int) : Prop :=
 (∃ l, iH s = .ok l ∧ dD w v l.length (dL l) ∧ pos = s.length ∧ er = 0 ∧ l.length ≤ 4001) ∨ (∃ p e : Nat, iH s = .err p e ∧ v = .slice none 0 0 ∧ pos = p ∧ er = e ∧ e ≠ 0)
def aCp (w : World) (N : Nat) (s : List UInt8) (v : Value) (pos er : Int) : Prop :=
 (∃ l, iH s = .ok l ∧ w.ownsRow N 84 4 v l.length (dL l) ∧ pos = s.length ∧ er = 0 ∧ l.length ≤ 4001) ∨ (∃ p e : Nat, iH s = .err p e ∧ v = .slice none 0 0 ∧ pos = p ∧ er = e ∧ e ≠ 0)
theorem aCp.r {w : World} {N : Nat} {s : List UInt8} {v : Value} {pos er : Int} (h : aCp w N s v pos er) : aY0 w s v pos er :=
 h.imp (fun ⟨l, h1, h2, h3⟩ => ⟨l, h1, dD.of_owns h2, h3⟩) id
theorem aK5 (a : Option Addr) (n cap : Nat) (w : World) (hs : (262144 : Int) < n) :
  Calls Tryz.prog 41 #[.slice a n cap] w fun e w' => e = .returned (.tuple #[.slice none 0 0, .int .i64 262144, .int .i64 3]) ∧ w = w' := by
 go_enter Tryz.func41, Tryz.ntmps41
 go_wp2_with fail
 go_step3
 go_wp2_with fail
 rw [Exit.noGoto_ret]
 go_ret3
 exact ⟨rfl, rfl⟩
theorem aOw (s : ByteArray) (a : Option Addr) (n cap : Nat) (w : World) (he : Env w) (hn : n = s.size) (hs : s.size ≤ 262144)
  (hcv : (convert 23 9 (.slice a n cap)).run Tryz.prog w = .ok (.string s) w) :
  Calls Tryz.prog 41 #[.slice a n cap] w fun e w' => (∃ v pos er, e = .returned (.tuple #[v, .int .i64 pos, .int .i64 er]) ∧ aCp w' w.heap.size s.data.toList v pos er) ∧ Below w.heap.size w w' := by
 subst hn
 obtain ⟨i0, hi, hz0, hz1, hz2⟩ := info_parts aI5
 have HS := Lib.hid (show s.data.toList.length = s.size from rfl)
 go_enter Tryz.func41, Tryz.ntmps41
 go_wp2_with fail
 go_step3
 go_wp2_with fail
 go_step3
 go_wp2_with fail
 go_loopw [6, 7] (fun v at_ wr => ∃ (k : Nat) (toks : List Tok), at_ = .int .i64 k ∧ k ≤ s.size ∧ wr.ownsRow w.heap.size 84 4 v toks.length (dL toks) ∧ kD s.data.toList 0 0 = fX.app toks (kD s.data.toList k toks.length) ∧ toks.length ≤ 4000 ∧ Below w.heap.size w wr) (fun _ at_ _ => s.size - (intOf at_).toNat)
 case atStart => exact ⟨0, [], rfl, by omega, ownsRow_nil _ _ _ _, by rw [fX.app_nil]; rfl, by simp, Below.refl _ _⟩
 case round =>
  obtain ⟨k, toks, rfl, hk, hown, hlx, hlen, hbel⟩ := hrel
  have heW : Env wr := he.below hbel he.size
  obtain ⟨oa, oc, rfl⟩ := lR hown
  have hge := lG s.data.toList k hk
  have HLX := Lib.hid hlx
  clear hlx hcv
  by_cases hend : s.size ≤ bF s.data.toList k
  ·go_wp2_with (first | (go_at_call 75; refine (uH _ _ _ (by omega) hk).mono ?_; rintro e w' ⟨rfl, rfl⟩) | (at_builtin; refine wpList_append_own _ rfl _ _ 43 rfl w.heap.size 84 i0 _ 4 40 Tryz.underlying43 hi hz0 hz1 hz2 rfl (by decide) _ toks.length (dL toks) rfl (ownsRow_below hown ((Below.refl _ _).alloc (Nat.le_refl _) _) (Nat.le_refl _)) ⟨wr.heap.size, 0, none⟩ 1 1 [.int .i64 5, .string ⟨#[]⟩, .int .i64 0, .int .i64 s.size] rfl rfl (sK _ _ _) (by simp [Value.oneCell']) (by unfold maxLen; omega) (by omega) (by have := hbel.size; simp; omega) ?_))
   intro v' w1 hown1 hgrow _
   have hb1 : Below w.heap.size w w1 := Below.grow (hbel.alloc hbel.size _) hgrow (by have := hbel.size; simp; omega) (ownsRow_below hown ((Below.refl _ _).alloc (Nat.le_refl _) _) (Nat.le_refl _)) (Nat.le_refl _)
   clear hgrow
   go_wp2_with fail
   rw [Exit.noGoto_ret]
   go_ret3
   refine ⟨⟨_, _, _, rfl, .inl ⟨toks ++ [⟨5, ⟨#[]⟩, 0, s.size⟩], ?_, ?_, by rw [HS.out], rfl, by simp; omega⟩⟩, hb1⟩
   ·unfold iH
    rw [if_neg (by rw [HS.out]; omega), HLX.out, mX (by rw [HS.out]; exact hend), HS.out]; rfl
   ·have := hown1
    rw [← eP]; simpa using this
  ·have hlt : bF s.data.toList k < s.size := by omega
   have hx : s.extract (bF s.data.toList k) s.size = bytes (s.data.toList.drop (bF s.data.toList k)) := by
    have := ByteArray.extract_mk s.data.toList (bF s.data.toList k) s.size
    rw [show (ByteArray.mk s.data.toList.toArray) = s from by simp] at this
    rw [this, bytes]; congr 2; exact take_of_length_le (by rw [List.length_drop, HS.out]; omega)
   have hsz : (bytes (s.data.toList.drop (bF s.data.toList k))).size = s.size - bF s.data.toList k := by rw [bytes]; show (List.drop _ _).toArray.size = _; rw [List.size_toArray, List.length_drop, HS.out]
   have HZ := Lib.hid hsz
   have hbd := jR (s.data.toList.drop (bF s.data.toList k))
   have HD := Lib.hid hbd
   clear hsz hbd
   cases hnx : dQ (s.data.toList.drop (bF s.data.toList k)) with
   | err en =>
    have HN := Lib.hid hnx
    clear hnx
    go_wp2_with (first | (go_at_call 75; refine (uH _ _ _ (by omega) hk).mono ?_; rintro e w' ⟨rfl, rfl⟩) | (go_at_call 76; refine (aAf _ _ (by rw [HZ.out]; omega) heW (by rw [HZ.out]; omega)).mono ?_; rintro e w1 ⟨⟨kd, num, er, text, rfl, hR⟩, hb⟩; rw [HD.out] at hR; obtain ⟨rfl, hne⟩ := aKq hR HN.out; clear hR; obtain ⟨hc, hf⟩ := tF hb))
    rw [Exit.noGoto_ret]
    go_ret3
    refine ⟨⟨_, _, _, rfl, .inr ⟨bF s.data.toList k, en, ?_, rfl, rfl, rfl, by omega⟩⟩, (hbel.trans (hb.mono hbel.size)).alloc (Nat.le_trans hbel.size hb.size) _⟩
    unfold iH
    rw [if_neg (by rw [HS.out]; omega), HLX.out, uY (by rw [HS.out]; exact hlt) HN.out]; rfl
   | tok nk len nu =>
    have hl1 := mS (by intro h; have := congrArg List.length h; rw [List.length_drop, HS.out] at this; simp at this; omega) hnx
    rw [List.length_drop, HS.out] at hl1
    have HN := Lib.hid hnx
    clear hnx
    have htx : (bytes ((s.data.toList.drop (bF s.data.toList k)).take len)).size = len := by
     rw [bytes]; show (List.take _ _).toArray.size = _; rw [List.size_toArray, List.length_take, List.length_drop, HS.out]; omega
    by_cases hfull : toks.length = 4000
    ·have hf1 : ((toks.length : Int) == 4000) = true := by rw [beq_iff_eq]; omega
     have HF := Lib.hid hfull
     clear hfull htx
     go_wp2_with (first | (go_at_call 75; refine (uH _ _ _ (by omega) hk).mono ?_; rintro e w' ⟨rfl, rfl⟩) | (go_at_call 76; refine (aAf _ _ (by rw [HZ.out]; omega) heW (by rw [HZ.out]; omega)).mono ?_; rintro e w1 ⟨⟨kd, num, er, text, rfl, hR⟩, hb⟩; rw [HD.out] at hR; obtain ⟨rfl, rfl, rfl, rfl⟩ := aBq hR HN.out; clear hR; obtain ⟨hc, hf⟩ := tF hb))
     rw [Exit.noGoto_ret]
     go_ret3
     refine ⟨⟨_, _, _, rfl, .inr ⟨bF s.data.toList k, 3, ?_, rfl, rfl, rfl, by omega⟩⟩, (hbel.trans (hb.mono hbel.size)).alloc (Nat.le_trans hbel.size hb.size) _⟩
     unfold iH
     rw [if_neg (by rw [HS.out]; omega), HLX.out, HF.out, sG (by rw [HS.out]; exact hlt) HN.out]; rfl
    ·have hf1 : ((toks.length : Int) == 4000) = false := by rw [beq_eq_false_iff_ne]; omega
     have HF := Lib.hid hfull
     have hlen2 : toks.length < 4000 := by omega
     clear hfull
     go_wp2_with (first | (go_at_call 75; refine (uH _ _ _ (by omega) hk).mono ?_; rintro e w' ⟨rfl, rfl⟩) | (go_at_call 76; refine (aAf _ _ (by rw [HZ.out]; omega) heW (by rw [HZ.out]; omega)).mono ?_; rintro e w1 ⟨⟨kd, num, er, text, rfl, hR⟩, hb⟩; rw [HD.out] at hR; obtain ⟨rfl, rfl, rfl, rfl⟩ := aBq hR HN.out; clear hR; obtain ⟨hc, hf⟩ := tF hb) | (at_builtin; refine wpList_append_own _ rfl _ _ 43 rfl w.heap.size 84 i0 _ 4 40 Tryz.underlying43 hi hz0 hz1 hz2 rfl (by decide) _ toks.length (dL toks) rfl (ownsRow_below hown ((hb.alloc hb.size _).alloc (by have := hb.size; simp; omega) _) (Nat.le_refl _)) ⟨w1.heap.size + 1, 0, none⟩ 1 1 [.int .i64 nk, .string (bytes ((s.data.toList.drop (bF s.data.toList k)).take len)), .int .i64 nu, .int .i64 (bF s.data.toList k)] rfl rfl (hG _ _ _ _ (by simp)) (by simp [Value.oneCell']) (by unfold maxLen; omega) (by omega) (by have := hbel.size; have := hb.size; simp; omega) ?_))
     intro v' w2 hown2 hgrow _
     have hb2 : Below w.heap.size w w2 := Below.grow (((hbel.trans (hb.mono hbel.size)).alloc (Nat.le_trans hbel.size hb.size) _).alloc (by have := hbel.size; have := hb.size; simp; omega) _) hgrow (by have := hbel.size; have := hb.size; simp; omega) (ownsRow_below hown ((hb.alloc hb.size _).alloc (by have := hb.size; simp; omega) _) (Nat.le_refl _)) (Nat.le_refl _)
     have hcw : ∀ o, w2.cell? ⟨w1.heap.size, o, none⟩ = ((w1.alloc (Obj.cells #[.int .i64 nk, .string (bytes ((s.data.toList.drop (bF s.data.toList k)).take len)), .int .i64 nu, .int .i64 (bF s.data.toList k)] 84)).cell? ⟨w1.heap.size, o, none⟩) := by
      intro o
      rw [aKa hgrow hown hb.size (by simp; omega) o]
      exact (Below.alloc (B := (w1.alloc (Obj.cells #[.int .i64 nk, .string (bytes ((s.data.toList.drop (bF s.data.toList k)).take len)), .int .i64 nu, .int .i64 (bF s.data.toList k)] 84)).heap.size) (Below.refl _ _) (Nat.le_refl _) _).cell (p := ⟨w1.heap.size, o, none⟩) (by simp)
     clear hgrow
     go_wp2_with fail
     go_roundw
     case rel =>
      refine ⟨bF s.data.toList k + len, toks ++ [⟨nk, bytes ((s.data.toList.drop (bF s.data.toList k)).take len), nu, bF s.data.toList k⟩], by go_num, by omega, ?_, ?_, by simp; omega, hb2⟩
      ·rw [← eP]; simpa using hown2
      ·rw [HLX.out, nD (by rw [HS.out]; exact hk) (by rw [HS.out]; exact hlt) HN.out HF.out, fX.app_cons]; simp
     case measure => simp [intOf]; omega
theorem aN1 (a : Option Addr) (n cap : Nat) (w : World) (s : List UInt8) (hn : n = s.length) (hs : 262144 < n) :
  Calls Tryz.prog 41 #[.slice a n cap] w fun e w' => (∃ v pos er, e = .returned (.tuple #[v, .int .i64 pos, .int .i64 er]) ∧ aCp w' w.heap.size s v pos er) ∧ Below w.heap.size w w' := by
 refine (aK5 a n cap w (by omega)).mono fun e w' ⟨h, hw⟩ => ?_
 subst hw
 refine ⟨⟨_, _, _, h, .inr ⟨262144, 3, ?_, rfl, rfl, rfl, by omega⟩⟩, Below.refl _ _⟩
 unfold iH; rw [if_pos (by omega)]
theorem aOn (s : List UInt8) (v : Value) (w : World) (he : Env w) (hv : dD w v s.length (s.map fun c => .int .u8 c.toNat)) :
  Calls Tryz.prog 41 #[v] w fun e w' => (∃ v pos er, e = .returned (.tuple #[v, .int .i64 pos, .int .i64 er]) ∧ aCp w' w.heap.size s v pos er) ∧ Below w.heap.size w w' := by
 obtain ⟨a, cap, rfl, hc, hcells⟩ := hv
 by_cases hs : 262144 < s.length
 ·exact aN1 a _ cap w s rfl hs
 have hconv : (convert 23 9 (.slice a s.length cap)).run Tryz.prog w = .ok (.string (bytes s)) w := by
  rcases hcells with h0 | ⟨b, off, rfl, hr⟩
  ·obtain rfl : s = [] := by simpa using h0
   cases a with
   | none => exact run_convert_bytes_nil w _ _ Tryz.underlying23 Tryz.underlying5 _ _ _ Tryz.underlying9
   | some a =>
    have hl := run_loadCells_list (P := Tryz.prog) w a [] (fun j v hj => by simp at hj)
    rw [run_convert_bytes_string w _ _ _ _ _ _ Tryz.underlying23 Tryz.underlying5 Tryz.underlying9, length_nil, run_bytesToString w a 0 cap [] (by simpa using hl)]
    rfl
  ·rw [run_convert_bytes_arg w _ _ Tryz.underlying23 Tryz.underlying5 b off s.length cap (s.map fun c => (c.toNat : Int)) (by simp) ?_ _ Tryz.underlying9]
   ·rw [strOfNums, List.map_map, bytes]; congr 3; rw [show ((fun n : Int => UInt8.ofNat n.toNat) ∘ fun c : UInt8 => (c.toNat : Int)) = id from by funext c; simp]; simp
   ·intro i hi
    rw [hr i (.int .u8 s[i].toNat) (by simp [hi])]; simp [hi]
 have := aOw (bytes s) a s.length cap w he (by simp [bytes, ByteArray.size]) (by show (List.toArray s).size ≤ _; rw [List.size_toArray]; omega) hconv
 rw [jR] at this; exact this
structure TB (P : Program) (E e : TypeId) (i : TypeInfo) (z bytes : Nat) (zv : Value) : Prop where
  hu : P.underlying E = some (.slice e)
  hi : P.info? e = some i
  hz : i.zero = some zv
  hsz : i.size = z
  hby : i.bytes = bytes
  hzs : zv.cells.size = z
  h0 : 0 < z
structure ZB (P : Program) (E e : TypeId) (i : TypeInfo) (len : Nat) (z : Value) (zc : List AC) : Prop where
  hu : P.underlying E = some (.slice e)
  hi : P.info? e = some i
  hz : i.zero = some z
  hsmall : ¬ len * i.size > 2 ^ 24
  hpos : ¬ len * i.size = 0
  hzc : (((Array.range (len * i.size)).map (z.cells[· % z.cells.size]!)).toList.all (·.oneCell')) = true
  hzr : ((Array.range (len * i.size)).map (z.cells[· % z.cells.size]!)).toList.map .val = zc
section
variable {P : Program} {U : List Nat} {o : Oper} {n d : Nat} {T : List Nat} {s : Sto} {ts : List (Nat × AT)} {bx : List Box} {K : AS → Prop}
theorem bDm {E e : TypeId} {i : TypeInfo} {x y : Operand} {k m z bytes : Nat} {v zv : Value} {cs ds r : List AC} (A : List bA) (t : TB P E e i z bytes zv) {B : List bA} (h0 : (o.op, o.dst, Nat.blt d n, evA ⟨n, T, ⟨bx, A ++ ⟨v, e, z, k, cs⟩ :: B⟩, ts⟩ x, evA ⟨n, T, ⟨bx, A ++ ⟨v, e, z, k, cs⟩ :: B⟩, ts⟩ y) = (.call { callee := .builtin .append, args := #[x, y], argTypes := #[E, E] }, some d, true, some (.c (.val v)), some (.c (.sl m ds))))
    (hm : ds.length = m * z) (hm0 : 0 < m) (hlen : k + m ≤ maxLen) (hbytes : (k + m) * bytes ≤ 140737488355328) {N : Nat} (hN : k + m = N) (hU : (⟨bx, A ++ ⟨v, e, z, k, cs⟩ :: B⟩ : Sto).bl.Nodup → ∀ b, b ∈ aY v → b ∈ U) (hT : ∀ b, b ∈ aY v → b ∈ T) (hr : cs ++ ds = r)
    (h : ∀ v', K ⟨n, aY v' ++ T, ⟨bx, A ++ ⟨v', e, z, N, r⟩ :: B⟩, (d, .c (.val v')) :: ts⟩) : AO P U o ⟨n, T, ⟨bx, A ++ ⟨v, e, z, k, cs⟩ :: B⟩, ts⟩ K := by
  simp only [Prod.mk.injEq] at h0
  exact eV A i bytes h0.1 h0.2.1 (Nat.le_of_ble_eq_true h0.2.2.1) h0.2.2.2.1 h0.2.2.2.2 t.hu t.hi t.hz t.hsz t.hby t.hzs t.h0 hm hm0 hlen hbytes hN hU hT hr h
theorem bDk {E e : TypeId} {i : TypeInfo} {z : Value} {len : Nat} {parts : Array (Nat × Operand)} {ps : List (Nat × AT)} {zc r : List AC} (t : ZB P E e i len z zc) (h0 : (o.op, o.dst, Nat.blt d n) = (.buildSlice E len parts, some d, true)) (hps : EvP ⟨n, T, s, ts⟩ parts.toList ps)
    (hf : qO (fun k => some (k * i.size, i.size)) zc ps = some r) (h : K ⟨n, T, s, (d, .c (.sl len r)) :: ts⟩) : AO P U o ⟨n, T, s, ts⟩ K := by
  simp only [Prod.mk.injEq] at h0
  exact wbs i zc h0.1 h0.2.1 (Nat.le_of_ble_eq_true h0.2.2) hps t.hu t.hi t.hz t.hsmall t.hpos t.hzc t.hzr hf h
end
def bDz := (⟨Tryz.underlying47, (by kernel_rfl), rfl, rfl, rfl, rfl, (by decide)⟩ : TB Tryz.prog 47 103 Tryz.t103 11 192 _)
def bDr := (⟨Tryz.underlying101, (by kernel_rfl), rfl, rfl, rfl, rfl, (by decide)⟩ : TB Tryz.prog 101 107 Tryz.t107 7 104 _)
def bDv := (⟨Tryz.underlying33, (by kernel_rfl), rfl, rfl, rfl, rfl, (by decide)⟩ : TB Tryz.prog 33 57 Tryz.t57 3 64 _)
def bDp := (⟨Tryz.underlying32, (by kernel_rfl), rfl, rfl, rfl, rfl, (by decide)⟩ : TB Tryz.prog 32 74 Tryz.t74 3 32 _)
def bDq := (⟨Tryz.underlying31, (by kernel_rfl), rfl, rfl, rfl, rfl, (by decide)⟩ : TB Tryz.prog 31 76 Tryz.t76 2 24 _)
def bDt := (⟨Tryz.underlying55, (by kernel_rfl), rfl, rfl, rfl, rfl, (by decide)⟩ : TB Tryz.prog 55 78 Tryz.t78 2 24 _)
def bDn := (⟨Tryz.underlying26, (by kernel_rfl), rfl, rfl, rfl, rfl, (by decide)⟩ : TB Tryz.prog 26 9 Tryz.t9 1 16 _)
def zb0 := (⟨Tryz.underlying47, (by kernel_rfl), rfl, (by decide), (by decide), (by kernel_rfl), (by kernel_rfl)⟩ : ZB Tryz.prog 47 103 Tryz.t103 1 _ [.val (.int .i64 0), .val (.string ⟨#[]⟩), .val (.int .i64 0), .val (.int .i64 0), .val (.string ⟨#[]⟩), .val (.slice none 0 0), .val (.string ⟨#[]⟩), .val (.slice none 0 0), .val (.slice none 0 0), .val (.slice none 0 0), .val (.slice none 0 0)])
def zb1 := (⟨Tryz.underlying101, (by kernel_rfl), rfl, (by decide), (by decide), (by kernel_rfl), (by kernel_rfl)⟩ : ZB Tryz.prog 101 107 Tryz.t107 1 _ [.val (.bool false), .val (.string ⟨#[]⟩), .val (.slice none 0 0), .val (.int .i64 0), .val (.int .i64 0), .val (.string ⟨#[]⟩), .val (.slice none 0 0)])
def zb5 := (⟨Tryz.underlying22, (by kernel_rfl), rfl, (by decide), (by decide), (by kernel_rfl), (by kernel_rfl)⟩ : ZB Tryz.prog 22 3 Tryz.t3 1 _ [.val (.int .i64 0)])
def zb6 := (⟨Tryz.underlying23, (by kernel_rfl), rfl, (by decide), (by decide), (by kernel_rfl), (by kernel_rfl)⟩ : ZB Tryz.prog 23 5 Tryz.t5 2 _ [.val (.int .u8 0), .val (.int .u8 0)])
def zb7 := (⟨Tryz.underlying23, (by kernel_rfl), rfl, (by decide), (by decide), (by kernel_rfl), (by kernel_rfl)⟩ : ZB Tryz.prog 23 5 Tryz.t5 1 _ [.val (.int .u8 0)])
def zb8 := (⟨Tryz.underlying33, (by kernel_rfl), rfl, (by decide), (by decide), (by kernel_rfl), (by kernel_rfl)⟩ : ZB Tryz.prog 33 57 Tryz.t57 1 _ [.val (.string ⟨#[]⟩), .val (.slice none 0 0), .val (.slice none 0 0)])
def zb9 := (⟨Tryz.underlying32, (by kernel_rfl), rfl, (by decide), (by decide), (by kernel_rfl), (by kernel_rfl)⟩ : ZB Tryz.prog 32 74 Tryz.t74 1 _ [.val (.string ⟨#[]⟩), .val (.bool false), .val (.int .i64 0)])
def bDs := (⟨Tryz.underlying31, (by kernel_rfl), rfl, (by decide), (by decide), (by kernel_rfl), (by kernel_rfl)⟩ : ZB Tryz.prog 31 76 Tryz.t76 1 _ [.val (.string ⟨#[]⟩), .val (.int .i64 0)])
def bDu := (⟨Tryz.underlying55, (by kernel_rfl), rfl, (by decide), (by decide), (by kernel_rfl), (by kernel_rfl)⟩ : ZB Tryz.prog 55 78 Tryz.t78 1 _ [.val (.string ⟨#[]⟩), .val (.bool false)])
def bDy := (⟨Tryz.underlying26, (by kernel_rfl), rfl, (by decide), (by decide), (by kernel_rfl), (by kernel_rfl)⟩ : ZB Tryz.prog 26 9 Tryz.t9 2 _ [.val (.string ⟨#[]⟩), .val (.string ⟨#[]⟩)])
def bDo := (⟨Tryz.underlying26, (by kernel_rfl), rfl, (by decide), (by decide), (by kernel_rfl), (by kernel_rfl)⟩ : ZB Tryz.prog 26 9 Tryz.t9 1 _ [.val (.string ⟨#[]⟩)])
def bDx := (⟨Tryz.underlying96, (by kernel_rfl), rfl, (by decide), (by decide), (by kernel_rfl), (by kernel_rfl)⟩ : ZB Tryz.prog 96 98 Tryz.t98 2 _ [.val (.int .i64 0), .val (.int .i64 0), .val (.string ⟨#[]⟩), .val (.slice none 0 0), .val (.int .i64 0), .val (.int .i64 0), .val (.string ⟨#[]⟩), .val (.slice none 0 0)])
def bDw := (⟨Tryz.underlying96, (by kernel_rfl), rfl, (by decide), (by decide), (by kernel_rfl), (by kernel_rfl)⟩ : ZB Tryz.prog 96 98 Tryz.t98 1 _ [.val (.int .i64 0), .val (.int .i64 0), .val (.string ⟨#[]⟩), .val (.slice none 0 0)])
end
end Go.Proofs.YteiefdnbdjnoiaaGreatDoor
