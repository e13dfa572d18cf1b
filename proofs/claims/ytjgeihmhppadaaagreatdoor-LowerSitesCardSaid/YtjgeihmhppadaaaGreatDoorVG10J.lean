import Derived.Test.YtjgeihmhppadaaaGreatDoorVG9J
set_option linter.all false
set_option synthInstance.maxHeartbeats 1000000
set_option synthInstance.maxSize 1000000
set_option maxHeartbeats 8000000
set_option maxRecDepth 100000
namespace Go.Proofs.YtjgeihmhppadaaaGreatDoor
open Go.Proofs.Tryz
open List (length_append length_cons length_nil mem_append mem_cons not_mem_nil append_assoc getElem_mem take_of_length_le)
section
open Go.RowKit
def fB.aIu{ms:List cn}{fs:List iR}{ps:List bg}{vars:List aH}{deep left left':Nat}{l:List aE}(h:fB ms fs ps vars deep left l left'):l.length+2*left' <= 2*left:=by
 induction h<;>(try simp only [length_cons,length_append,length_nil])<;>omega
def lY(ms:List cn)(fs:List iR)(ps:List bg)(D0:List ByteArray)(deep Fd:Nat)(vs:List ByteArray)(left:Nat)(al:List aE):Prop:=
 ∀rest l',fB ms fs ps vs deep left rest l' -> fB ms fs ps D0 deep Fd (al++rest) l'
def lY.step{ms:List cn}{fs:List iR}{ps:List bg}{D0 vs vs':List aH}{deep Fd left left':Nat}{al:List aE}(h:lY ms fs ps D0 deep Fd vs left al)(x:List aE)
  (hx:∀rest l',fB ms fs ps vs' deep left' rest l' -> fB ms fs ps vs deep left (x++rest) l'):lY ms fs ps D0 deep Fd vs' left' (al++x):=λrest l' hr=>by
 rw [append_assoc];exact h _ _ (hx _ _ hr)
def lY.fin{ms:List cn}{fs:List iR}{ps:List bg}{D0 vs:List aH}{deep Fd left:Nat}{al:List aE}(h:lY ms fs ps D0 deep Fd vs left al):fB ms fs ps D0 deep Fd al left:=by
 have:=h [] left .nil
 rwa [eV] at this
def de(f:ByteArray×List bg×aO):List aO:=[ah f.1,aB cC f.2.1,f.2.2]
def flat_get{α:Type}(enc:α -> List aO)(z:Nat)(hz:∀x,(enc x).length=z):∀(fs:List α)(j:Nat)(h:j<fs.length),((fs.flatMap enc).drop (j*z)).take z=enc fs[j] /\ j*z+z <= (fs.flatMap enc).length
 |f::fs,0,_=>by
  rw [ec,rO,tc,rY (hz f)];exact ⟨J,by rw [length_append,hz];omega⟩
 |f::fs,j+1,h=>by
  obtain ⟨h1,h2⟩:=flat_get enc z hz fs j i_;rw [ec,show (j+1)*z=z+j*z by rw [yu,Cj],←List.drop_drop,tX (hz f)];exact ⟨h1,by rw [length_append,hz];omega⟩
def ui(fs:List (aH×List bg×aO))(j:Nat)(h:j<fs.length):fg true 3 (fs.flatMap de) (0+j*3)=some (.agg [ah (fs[j].1),aB cC fs[j].2.1,fs[j].2.2]):=by
 obtain ⟨h1,h2⟩:=flat_get de 3 (λ_=>rfl) fs j h;unfold fg;rw [if_pos rfl,cp,if_pos h2,h1];rfl
def yb{P:Program}{c y:Code}{st:AS}{Q Q0:Exit -> AS -> Prop}{ι:Type}(NF:ι -> AS)(I:ι -> Prop)(h1:br P c st (λe s=>e=.normal /\ ∃i,I i /\ Sub s (NF i)))(h2:∀i,I i -> br P y (NF i) Q):br P c st (lX (λs=>br P y s Q) Q0):=
 sN h1 λe s ⟨he,i,hi,hs⟩=>by subst he;exact D' (rp hs (h2 i hi))
section
variable {P:Program}{U:List Nat}{o:Oper}{st:AS}{t:AT}
theorem m0{E E0:bA}{x:bb}{g off z zz k cap:Nat}{cs:List aO}{ag:Bool}(hA:∀w,(isAgg E).run P w=.ok ag w)(hS:∀w,(sizeOf E).run P w=.ok z w)(hp:fg ag z cs off=some t)(ho:o.op=.load E x:=by exact rfl)(hx:aw st x=some (av (.pointer (some ⟨g,off,none⟩))):=by exact rfl)(hrow:(⟨.slice (some ⟨g,0,none⟩) k cap,E0,zz,k,cs⟩:aP)∈st.s.rows:=by simp)(hU:st.s.bl.Nodup -> g∉U:=by exact λ_ h=>iH):co P U o st t:=by
 obtain ⟨n,T,⟨bx,rows⟩,ts⟩:=st;obtain ⟨A,B,hAB⟩:=List.append_of_mem hrow;exact kc (ho:=ho) (hx:=hx) (hrow:=hAB) (hU:=hU) A hA hS hp
theorem ll{E yt:bA}{x y:bb}{m k r:Nat}(ho:o.op=.binOp .add E x y yt:=by exact rfl)(hx:aw st x=some (ae m):=by exact rfl)(hy:aw st y=some (ae k):=by exact rfl)(hr:m+k=r:=by exact rfl)(h2:r <= 1000000:=by omega):co P U o st (ae r):=by
 subst hr;have h:=uk (P:=P) (U:=U) ho hx hy Y Y
 rwa [show (m:Int)+(k:Int)=((m+k:Nat):Int) by omega] at h
theorem UT{E yt:bA}{x y:bb}{m k:Nat}(r:Nat)(ho:o.op=.binOp .quo E x y yt)(hx:aw st x=some (ae m))(hy:aw st y=some (ae k))(hk:k≠0)(hm:m <= 1000000)(hr:m/k=r):co P U o st (ae r):=by
 subst hr;refine FD ho hx hy Y ?_;have h1:m/k <= m:=Nat.div_le_self _ _;show some (IntKind.i64.wrap ((m:Int).tdiv (k:Int)))=_;rw [show ((m:Int).tdiv (k:Int))=((m/k:Nat):Int) from (Int.ofNat_tdiv m k).symm];generalize m/k=q at h1;rw [IntWalk.i64_in _ Y]
theorem CQ{E yt:bA}{x y:bb}{m:Nat}{b r:aH}(ho:o.op=.binOp .add E x y yt)(hx:aw st x=some (cK ⟨#[118]⟩))(hy:aw st y=some (cK b))(hb:b=bytes [UInt8.ofNat (97+m%26),UInt8.ofNat (97+m/26%26)])(hr:kQ m=r):co P U o st (cK r):=by
 subst hr;subst hb;have h:=Ie (P:=P) (U:=U) ho hx hy (by show 1+2 <= _;decide);exact h
end
def Of(l:List aE):(l.flatMap encS).length=l.length*11:=by
 induction l with
 |nil=>rfl
 |cons x l ih=>rw [ec,length_append,l8,ih,length_cons,yu,Cj]
def Sb(B:List aV)(S W:Nat)(l:List Int)(ms:List cn)(ps:List bg)(fn:aH)(G FB:aO)(ar:Bool)(fs:List (aH×List bg×aO))(gF gc:Nat)(hl:l.length <= 1000000)(hm1:1 <= ms.length)(hm2:ms.length <= 1000)(hmz:∀m,m∈ms -> m.size <= 1000)(hp2:ps.length <= 1000)(hf1:1 <= fs.length)(hf2:fs.length <= 1000)(hfp:∀f,f∈fs -> f.2.1.length <= 1000)(L:Nat)(ih:∀(m:Nat),m<L -> ∀(A:List aV) (RA rw:List aP) (vv:aN) (vars:List aH) (i deep most:Nat) (hi:i <= l.length) (hd:deep <= 100) (Id:most <= 1000) (hvl:vars.length+m <= 1000) (hF:(⟨.slice (some ⟨gF,0,none⟩) fs.length gc,67,3,fs.length,fs.flatMap de⟩:aP)∈rw),aU prog 24 [aF W,.agg [ah fn,aB cC ps,FB],av vv,ae deep,ae most] [S,W] (eM A (⟨W,56,[.val (.pointer (some ⟨S,0,none⟩)),G,(aB aT ms),(.val (.slice (some ⟨gF,0,none⟩) fs.length gc)),ap m,bG ar]⟩::B) (ee RA vv vars rw) S l i) (λr s=>∃(al:List aE) (i left':Nat),r=.c (aB encS al) /\ fB ms (fs.map λf=>(f.1,f.2.1)) ps vars deep m al left' /\ i <= l.length /\ s=eM A (⟨W,56,[.val (.pointer (some ⟨S,0,none⟩)),G,(aB aT ms),(.val (.slice (some ⟨gF,0,none⟩) fs.length gc)),aA (left':Int),bG ar]⟩::B) (ee RA vv vars rw) S l i))(A:List aV)(RA rw:List aP)(vv:aN)(vars:List aH)(i0 deep most:Nat)(hi0:i0 <= l.length)(hd:deep <= 100)(Id:most <= 1000)(hvl:vars.length+L <= 1000)(hF:(⟨.slice (some ⟨gF,0,none⟩) fs.length gc,67,3,fs.length,fs.flatMap de⟩:aP)∈rw):aU prog 24 [aF W,.agg [ah fn,aB cC ps,FB],av vv,ae deep,ae most] [S,W] (eM A (⟨W,56,[.val (.pointer (some ⟨S,0,none⟩)),G,(aB aT ms),(.val (.slice (some ⟨gF,0,none⟩) fs.length gc)),ap L,bG ar]⟩::B) (ee RA vv vars rw) S l i0) (λr s=>∃(al:List aE) (i left':Nat),r=.c (aB encS al) /\ fB ms (fs.map λf=>(f.1,f.2.1)) ps vars deep L al left' /\ i <= l.length /\ s=eM A (⟨W,56,[.val (.pointer (some ⟨S,0,none⟩)),G,(aB aT ms),(.val (.slice (some ⟨gF,0,none⟩) fs.length gc)),aA (left':Int),bG ar]⟩::B) (ee RA vv vars rw) S l i):=by
 refine bR 249 func24 ?_;refine go 13 λb1=>?_;refine aX J (fE o0 iK λg0=>?_);refine go 1 ?_;refine aX J (QL (ds:=cj vars) [] Tryz.t9 16 J J V J J aL o0 aQ J J J J V cN Y (cp vars.length) (λ_ b hb=>tS) (λb hb=>tS) aL (cg _) λu0=>?_);refine go 11 ?_;refine aD J (ll (k:=1)) ?_;refine aX J (bm [S] J J V fG J (fW (_::A) _ _ _ l i0 _ hi0 hl Y Y) (bY) (bY (h:=by simp [aJ.bl])) (λ_=>bY) ?_);rintro r1 s1 ⟨z1,i1,rfl,hy1,hi1,rfl⟩;refine go 4 ?_;refine f_ 120 11 ?_;refine f9 (λg:Nat×Nat×Nat×aN×List aH×aN×List aE=>(⟨249,aR g.2.2.2.2.2.1++(aR g.2.2.2.1++[b1,S,W]),⟨⟨b1,67,[.val (.string fn),.sl ps.length (ps.flatMap cC),FB]⟩::(A++⟨S,54,[.sl l.length (l.map λi=>.val (.int .i64 i)),ap g.2.2.1]⟩::⟨W,56,[.val (.pointer (some ⟨S,0,none⟩)),G,(.sl ms.length (ms.flatMap aT)),(.val (.slice (some ⟨gF,0,none⟩) fs.length gc)),ap g.2.1,.val (.bool ar)]⟩::B),⟨g.2.2.2.2.2.1,120,11,g.2.2.2.2.2.2.length,g.2.2.2.2.2.2.flatMap encS⟩::⟨g.2.2.2.1,9,1,g.2.2.2.2.1.length,cj g.2.2.2.2.1⟩::RA++⟨vv,9,1,vars.length,cj vars⟩::rw⟩,[(12,ae g.1),(11,.c (.val g.2.2.2.2.2.1)),(2,.c (.val g.2.2.2.1)),(0,aF W),(3,ae deep),(6,aF b1)]⟩:AS)) (λg=>g.1 <= most /\ g.2.1 <= L /\ g.2.2.1 <= l.length /\ g.2.2.2.2.1.length+g.2.1 <= 1000 /\ g.2.2.2.2.2.2.length+2*g.2.1 <= 2*L /\ lY ms (fs.map λf=>(f.1,f.2.1)) ps vars deep L g.2.2.2.2.1 g.2.1 g.2.2.2.2.2.2) (λg=>g.1) (z1,L,i1,u0,vars,.slice none 0 0,[]) (bD JA) ⟨Y,bX _,hi1,hvl,Nat.le_of_eq (cp _),λ_ _ h=>h⟩ ?_;rintro ⟨n,lf,ik,u,us,vo,al⟩ ⟨hn,hlf,hik,hul,hal,hto⟩;dsimp only at hn hlf hik hul hal hto;show br prog _ (⟨249,aR vo++(aR u++[b1,S,W]),⟨⟨b1,67,[ah fn,aB cC ps,FB]⟩::(A++⟨S,54,[.sl l.length (l.map λi=>aA i),ap ik]⟩::⟨W,56,[.val (.pointer (some ⟨S,0,none⟩)),G,(aB aT ms),(.val (.slice (some ⟨gF,0,none⟩) fs.length gc)),ap lf,bG ar]⟩::B),⟨vo,120,11,al.length,al.flatMap encS⟩::⟨u,9,1,us.length,cj us⟩::RA++⟨vv,9,1,vars.length,cj vars⟩::rw⟩,[(12,ae n),(11,av vo),(2,av u),(0,aF W),(3,ae deep),(6,aF b1)]⟩:AS) _;refine go 4 ?_;by_cases hn0:0<n;focus
  obtain ⟨n,rfl⟩:∃q,n=q+1:=⟨n-1,Y⟩;refine aI J fN (go 5 ?_);by_cases hl0:0<lf
  ·obtain ⟨m,rfl⟩:∃q,lf=q+1:=⟨lf-1,Y⟩;refine aI J fN (go 14 ?_);refine aD J (jq (m:Int)) (go 19 λb2=>?_);refine aX J (bm [S] J J V fG J (fW (_::_::A) _ _ _ l ik _ hik hl V V) (bY) (bY (h:=by simp [aJ.bl])) (λ_=>bY) ?_);rintro r2 s2 ⟨z2,i2,rfl,hy2,hi2,rfl⟩;refine go 3 ?_;refine yb (λg:Nat×List aO×aE×Nat×Nat×aN×List aH×aN×List aE=>(⟨249,g.1::(aR g.2.2.2.2.2.2.2.1++(aR g.2.2.2.2.2.1++[b1,S,W])),⟨⟨g.1,120,g.2.1⟩::⟨b1,67,[ah fn,aB cC ps,FB]⟩::(A++⟨S,54,[.sl l.length (l.map λi=>aA i),ap g.2.2.2.2.1]⟩::⟨W,56,[.val (.pointer (some ⟨S,0,none⟩)),G,(aB aT ms),(.val (.slice (some ⟨gF,0,none⟩) fs.length gc)),ap g.2.2.2.1,bG ar]⟩::B),⟨g.2.2.2.2.2.2.2.1,120,11,g.2.2.2.2.2.2.2.2.length,g.2.2.2.2.2.2.2.2.flatMap encS⟩::⟨g.2.2.2.2.2.1,9,1,g.2.2.2.2.2.2.1.length,cj g.2.2.2.2.2.2.1⟩::RA++⟨vv,9,1,vars.length,cj vars⟩::rw⟩,[(13,av (.pointer (some ⟨g.1,0,none⟩))),(12,ae (n+1)),(11,av g.2.2.2.2.2.2.2.1),(2,av g.2.2.2.2.2.1),(0,aF W),(3,ae deep),(6,aF b1)]⟩:AS)) (λg=>g.2.1.length=11 /\ mY g.2.1 (ci g.2.2.1) /\ g.2.2.2.1 <= L /\ g.2.2.2.2.1 <= l.length /\ g.2.2.2.2.2.2.1.length+g.2.2.2.1 <= 1000 /\ (g.2.2.2.2.2.2.2.2++[g.2.2.1]).length+2*g.2.2.2.1 <= 2*L /\ lY ms (fs.map λf=>(f.1,f.2.1)) ps vars deep L g.2.2.2.2.2.2.1 g.2.2.2.1 (g.2.2.2.2.2.2.2.2++[g.2.2.1])) ?_ ?_
   ·refine go 4 ?_;by_cases hk4:z2<4
    ·refine aI J fN (go 8 ?_);refine aX J (bm [S] J J V call42 J (sy (_::_::A) _ [_] _ _ S W l i2 ms ps us fn G _ FB _ ar hi2 hl hm1 hm2 hmz hp2 Y) (bY) (bY (h:=by simp [aJ.bl])) (λ_=>bY) ?_);rintro r3 s3 ⟨f3,i3,rfl,hm3,hi3,rfl⟩;unfold encR;refine go 4 ?_;refine ⟨J,(b2,_,(.mk 5 a_ .zero f3 [] [] []),m,i3,u,us,vo,al),⟨J,(.r (.r (.r (.r (.r (.n (.r (.r (.n (.n (.n .nil))))))))))),uc,hi3,wb,(by show List.length (al++[(.mk 5 a_ .zero f3 [] [] [])])+2*m <= 2*L;(try simp only [length_append,length_cons,length_nil]);omega),lY.step hto [(.mk 5 a_ .zero f3 [] [] [])] (λ_ _ h=>.lock hm3 h)⟩,bD fD⟩
    refine aG J eR (go 7 ?_);by_cases hk7:z2<7
    ·refine aI J fN (go 8 ?_);refine aX J (bm [S] J J V call42 J (sy (_::_::A) _ [_] _ _ S W l i2 ms ps us fn G _ FB _ ar hi2 hl hm1 hm2 hmz hp2 Y) (bY) (bY (h:=by simp [aJ.bl])) (λ_=>bY) ?_);rintro r3 s3 ⟨f3,i3,rfl,hm3,hi3,rfl⟩;unfold encR;refine go 6 ?_;refine ⟨J,(b2,_,(.mk 6 a_ .zero f3 [] [] []),m,i3,u,us,vo,al),⟨J,(.r (.r (.r (.r (.r (.n (.r (.r (.n (.n (.n .nil))))))))))),uc,hi3,wb,(by show List.length (al++[(.mk 6 a_ .zero f3 [] [] [])])+2*m <= 2*L;(try simp only [length_append,length_cons,length_nil]);omega),lY.step hto [(.mk 6 a_ .zero f3 [] [] [])] (λ_ _ h=>.unlock hm3 h)⟩,bD fD⟩
    refine aG J eR (go 7 ?_);by_cases hk7e:z2=7
    ·refine aI J fN (go 5 ?_);refine cB [b1,W] (aa [0,1,3,4,5,6] 21 (go 7 ?_));refine ac 7 J (JP (k:=26) (m%26) J J J V J) ?_;refine ac 8 J (ll (m:=97)) ?_;refine ac 9 J (xo J J Y J J J) (aa [10,11,12,13] 14 (go 5 ?_));refine ac 14 J (UT (k:=26) (m/26) J J J V Y J) ?_;refine ac 15 J (JP (k:=26) (m/26%26) J J J V J) ?_;refine ac 16 J (ll (m:=97)) ?_;refine ac 17 J (xo J J Y J J J) (aa [21] 9 (go 2 ?_));refine cA 2 18 J ?_ ?_;focus
      refine (bm [S] J J V call43 J (uW (_::_::A) _ [_] _ _ S W l i2 us G (aB aT ms) _ _ ar hi2 hl Y) dd db ij ?_);rintro r3 s3 ⟨x3,i3,rfl,hm3,hi3,rfl⟩;unfold bo;refine cA 18 22 J ?_ ?_;focus
       refine (bV (r:=ca [UInt8.ofNat (97+m%26),UInt8.ofNat (97+m/26%26)]) (hps:=(.cons J (.cons J .nil))) CM ?_);refine ac 19 J (lp J J J) ?_;refine ac 20 J (CQ (m:=m) J J J J J) (cY [(22,false),(23,true),(24,false),(25,true),(26,false)] 0 (go 6 ?_))
      rotate_left;focus
       refine go 1 ?_;refine aa [23] 6 (go 2 ?_);refine cA 18 24 J ?_ ?_;focus
        refine (bV (r:=ca [UInt8.ofNat (97+m%26),UInt8.ofNat (97+m/26%26)]) (hps:=(.cons J (.cons J .nil))) CM ?_);refine ac 19 J (lp J J J) ?_;refine ac 20 J (CQ (m:=m) J J J J J) (cY [(24,false),(25,true),(26,false)] 0 (go 4 ?_))
       rotate_left;refine go 1 ?_;refine aW 18 J J (bV (r:=ca [UInt8.ofNat (97+m%26),UInt8.ofNat (97+m/26%26)]) (hps:=(.cons J (.cons J .nil))) CM ?_);refine ac 19 J (lp J J J) ?_;refine ac 20 J (CQ (m:=m) J J J J J) (cY [(25,true),(26,false)] 0 (go 3 ?_))
     rotate_left 3;refine (bV (r:=ca [UInt8.ofNat (97+m%26),UInt8.ofNat (97+m/26%26)]) (hps:=(.cons J (.cons J .nil))) CM ?_);refine ac 19 J (lp J J J) ?_;refine ac 20 J (CQ (m:=m) J J J J J) ?_;refine aW 2 J J (bm [S] J J V call43 J (uW (_::_::A) _ [_] _ _ S W l i2 us G (aB aT ms) _ _ ar hi2 hl Y) dd db ij ?_);rintro r3 s3 ⟨x3,i3,rfl,hm3,hi3,rfl⟩;unfold bo;refine cY [(22,false),(23,true),(24,false),(25,true),(26,false)] 0 (go 6 ?_);all_goals
      refine bH (go 5 ?_);refine aX J (bV (r:=cj [kQ m]) io ?_);refine aX J (dQ [_] pC J J V cN Y (@length_append _ us [kQ m]).symm fu cm (fL (f:=λx=>aO.val (.string x))).symm λv4=>?_);refine go 3 ?_;refine ⟨J,(b2,_,(.mk 1 (kQ m) x3 .zero [] [] []),m,i3,v4,(us++[kQ m]),vo,al),⟨J,(.r (.r (.r (.r (.r (.r (.r (.n (.n (.n (.n .nil))))))))))),uc,hi3,(by show List.length (us++[kQ m])+m <= 1000;(try simp only [length_append,length_cons,length_nil]);omega),(by show List.length (al++[(.mk 1 (kQ m) x3 .zero [] [] [])])+2*m <= 2*L;(try simp only [length_append,length_cons,length_nil]);omega),lY.step hto [(.mk 1 (kQ m) x3 .zero [] [] [])] (λ_ _ h=>.var hm3 h)⟩,bD fD⟩
    refine aG J eR (go 7 ?_);by_cases hk8:z2=8;focus
     refine aI J fN (go 2 ?_);refine aD J (lT [_] J J J kP) ?_;by_cases hus:0<us.length
     ·refine aI J fN (go 5 ?_);refine sb [_] hus λgu cu hgu=>?_;subst hgu;refine cB [b1,W] (aa [0,1,2,3,4,5,6,10,11,13] 9 (go 11 ?_));refine aW 7 J J (bm [S] J J V fG J (fW (_::_::A) _ _ _ l i2 _ hi2 hl Y Y) dd db ij ?_);rintro r3 s3 ⟨z3,i3,rfl,hy3,hi3,rfl⟩;refine ac 8 J (ey z3 J J J J Y kP iK) ?_;refine cA 9 12 J ?_ ?_;focus
       refine dO J V (m0 (g:=gu) (k:=us.length) (cap:=cu) (E0:=9) (zz:=1) (cs:=cj us) rH iK (yC us z3 Y)) ?_;refine aW 12 J J (bm [S] J J V call43 J (uW (_::_::A) _ [_] _ _ S W l i3 us G (aB aT ms) _ _ ar hi3 hl Y) dd db ij ?_);rintro r4 s4 ⟨x4,i4,rfl,CD,hi4,rfl⟩;unfold bo;refine cY [(14,false),(15,true),(16,false),(17,true),(18,false)] 0 (go 6 ?_)
      rotate_left;focus
       refine (bm [S] J J V call43 J (uW (_::_::A) _ [_] _ _ S W l i3 us G (aB aT ms) _ _ ar hi3 hl Y) dd db ij ?_);rintro r4 s4 ⟨x4,i4,rfl,CD,hi4,rfl⟩;unfold bo;refine cA 9 14 J ?_ ?_;focus
        refine dO J V (m0 (g:=gu) (k:=us.length) (cap:=cu) (E0:=9) (zz:=1) (cs:=cj us) rH iK (yC us z3 Y)) ?_;refine cY [(14,false),(15,true),(16,false),(17,true),(18,false)] 0 (go 6 ?_)
       rotate_left;refine go 1 ?_;refine aW 9 J J (dO J V (m0 (g:=gu) (k:=us.length) (cap:=cu) (E0:=9) (zz:=1) (cs:=cj us) rH iK (yC us z3 Y)) ?_);refine cY [(15,true),(16,false),(17,true),(18,false)] 0 (go 5 ?_)
      all_goals
       refine bH (go 1 ?_);refine ⟨J,(b2,_,(.mk 2 us[z3] x4 .zero [] [] []),m,i4,(.slice (some ⟨gu,0,none⟩) us.length cu),us,vo,al),⟨J,(.r (.r (.r (.r (.r (.r (.r (.n (.n (.n (.n .nil))))))))))),uc,hi4,wb,(by show List.length (al++[(.mk 2 us[z3] x4 .zero [] [] [])])+2*m <= 2*L;(try simp only [length_append,length_cons,length_nil]);omega),lY.step hto [(.mk 2 us[z3] x4 .zero [] [] [])] (λ_ _ h=>.assign (getElem_mem Y) CD h)⟩,bD fD⟩
     refine aG J eR (go 8 ?_);refine aG J eR (go 2 ?_);refine aG J eR (go 8 ?_);refine aG J eR (go 11 ?_);refine aG J eR (go 11 ?_);refine aG J eR (go 17 ?_);refine aX J (bm [S] J J V call42 J (sy (_::_::A) _ [_] _ _ S W l i2 ms ps us fn G _ FB _ ar hi2 hl hm1 hm2 hmz hp2 Y) (bY) (bY (h:=by simp [aJ.bl])) (λ_=>bY) ?_)
    rotate_left;focus
     refine aG J eR (go 12 ?_);by_cases hk9:z2=9
     ·refine aI J fN (go 18 ?_);refine aG J (P2 Y) (go 6 ?_);refine cB [b2,b1,W] (aa [0,1,2,3,4,5,6,7,8,9,10,11,12,13,14] 5 (go 16 ?_));refine cA 15 18 J ?_ ?_;focus
       refine (bm [S] J J V fG J (fW (_::_::A) _ _ _ l i2 _ hi2 hl Y Y) dd db ij ?_);rintro r3 s3 ⟨z3,i3,rfl,hy3,hi3,rfl⟩;refine ac 16 J (ey z3 J J J J Y fU dn) ?_;refine cA 17 18 J ?_ ?_;focus
        refine dO J V (m0 (g:=gF) (k:=fs.length) (cap:=gc) (E0:=67) (zz:=3) (cs:=fs.flatMap de) (hrow:=by simp [hF]) oP dn (ui fs z3 Y)) ?_;refine cY [(18,false),(19,false)] 0 (go 3 λb6=>?_)
       rotate_left;refine (jm J J V sQ J λb6=>?_);refine aW 17 J J (dO J V (m0 (g:=gF) (k:=fs.length) (cap:=gc) (E0:=67) (zz:=3) (cs:=fs.flatMap de) (hrow:=by simp [hF]) oP dn (ui fs z3 Y)) ?_);refine cY [(19,false)] 0 (go 2 ?_)
      rotate_left 2;refine (jm J J V sQ J λb6=>?_);refine aW 15 J J (bm [S] J J V fG J (fW (_::_::_::A) _ _ _ l i2 _ hi2 hl Y Y) dd db ij ?_);rintro r3 s3 ⟨z3,i3,rfl,hy3,hi3,rfl⟩;refine ac 16 J (ey z3 J J J J Y fU dn) ?_;refine aW 17 J J (dO J V (m0 (g:=gF) (k:=fs.length) (cap:=gc) (E0:=67) (zz:=3) (cs:=fs.flatMap de) (hrow:=by simp [hF]) oP dn (ui fs z3 Y)) ?_);refine cY [(19,false)] 0 (go 2 ?_);all_goals
       refine bH (go 1 ?_);refine cB [b6,b1,W] (aa [0,1,2,3,4,5,7] 4 (go 8 ?_));refine aW 6 J J (bm [S] J J V call44 J (J3 (_::_::_::A) _ [_] _ _ S W l i3 ms ps us fn G _ FB _ ar fs[z3].1 fs[z3].2.1 fs[z3].2.2 hi3 hl hm1 hm2 hmz hp2 Y (hfp _ (getElem_mem Y))) dd db ij ?_);rintro r4 s4 ⟨a4,i4,rfl,CD,hi4,rfl⟩;refine cY [(8,false),(9,true),(10,false)] 0 (go 4 ?_);refine bH (go 1 ?_);refine ⟨J,(b2,_,(.mk 3 fs[z3].1 .zero .zero a4 [] []),m,i4,u,us,vo,al),⟨J,(.r (.r (.r (.r (.r (.n (.r (.n (.r (.n (.n .nil))))))))))),uc,hi4,wb,(by show List.length (al++[(.mk 3 fs[z3].1 .zero .zero a4 [] [])])+2*m <= 2*L;(try simp only [length_append,length_cons,length_nil]);omega),lY.step hto [(.mk 3 fs[z3].1 .zero .zero a4 [] [])] (λ_ _ h=>.call (g:=(fs[z3].1,fs[z3].2.1)) (.inl J) (lP.2 ⟨_,getElem_mem Y,J⟩) CD h)⟩,bD (h1:=bI) fD⟩
     refine aG J eR (go 2 ?_);by_cases hk10:z2=10
     ·refine aI J fN (go 15 ?_);refine aI J (Lk Y) (go 9 ?_);refine cB [b2,b1,W] (aa [0,1,2,3,4,5,6,7,8,9,10,11,12,13,14] 5 (go 16 ?_));refine cA 15 18 J ?_ ?_;focus
       refine (bm [S] J J V fG J (fW (_::_::A) _ _ _ l i2 _ hi2 hl Y Y) dd db ij ?_);rintro r3 s3 ⟨z3,i3,rfl,hy3,hi3,rfl⟩;refine ac 16 J (ey z3 J J J J Y fU dn) ?_;refine cA 17 18 J ?_ ?_;focus
        refine dO J V (m0 (g:=gF) (k:=fs.length) (cap:=gc) (E0:=67) (zz:=3) (cs:=fs.flatMap de) (hrow:=by simp [hF]) oP dn (ui fs z3 Y)) ?_;refine cY [(18,false),(19,false)] 0 (go 3 λb9=>?_)
       rotate_left;refine (jm J J V sQ J λb9=>?_);refine aW 17 J J (dO J V (m0 (g:=gF) (k:=fs.length) (cap:=gc) (E0:=67) (zz:=3) (cs:=fs.flatMap de) (hrow:=by simp [hF]) oP dn (ui fs z3 Y)) ?_);refine cY [(19,false)] 0 (go 2 ?_)
      rotate_left 2;refine (jm J J V sQ J λb9=>?_);refine aW 15 J J (bm [S] J J V fG J (fW (_::_::_::A) _ _ _ l i2 _ hi2 hl Y Y) dd db ij ?_);rintro r3 s3 ⟨z3,i3,rfl,hy3,hi3,rfl⟩;refine ac 16 J (ey z3 J J J J Y fU dn) ?_;refine aW 17 J J (dO J V (m0 (g:=gF) (k:=fs.length) (cap:=gc) (E0:=67) (zz:=3) (cs:=fs.flatMap de) (hrow:=by simp [hF]) oP dn (ui fs z3 Y)) ?_);refine cY [(19,false)] 0 (go 2 ?_);all_goals
       refine bH (go 1 ?_);refine cB [b9,b1,W] (aa [0,1,2,3,4,5,7] 4 (go 8 ?_));refine aW 6 J J (bm [S] J J V call44 J (J3 (_::_::_::A) _ [_] _ _ S W l i3 ms ps us fn G _ FB _ ar fs[z3].1 fs[z3].2.1 fs[z3].2.2 hi3 hl hm1 hm2 hmz hp2 Y (hfp _ (getElem_mem Y))) dd db ij ?_);rintro r4 s4 ⟨a4,i4,rfl,CD,hi4,rfl⟩;refine cY [(8,false),(9,true),(10,false)] 0 (go 4 ?_);refine bH (go 1 ?_);refine ⟨J,(b2,_,(.mk 4 fs[z3].1 .zero .zero a4 [] []),m,i4,u,us,vo,al),⟨J,(.r (.r (.r (.r (.r (.n (.r (.n (.r (.n (.n .nil))))))))))),uc,hi4,wb,(by show List.length (al++[(.mk 4 fs[z3].1 .zero .zero a4 [] [])])+2*m <= 2*L;(try simp only [length_append,length_cons,length_nil]);omega),lY.step hto [(.mk 4 fs[z3].1 .zero .zero a4 [] [])] (λ_ _ h=>.call (g:=(fs[z3].1,fs[z3].2.1)) (.inr J) (lP.2 ⟨_,getElem_mem Y,J⟩) CD h)⟩,bD (h1:=bI) fD⟩
     refine aG J eR (go 8 ?_);by_cases aHb:z2=11;focus
      refine aI J fN (go 2 ?_);by_cases hd0:0<deep
      ·refine aI J fN (go 6 ?_);refine cB [b1] (aa [0,1,3,4,5,6] 9 (go 7 ?_));refine ac 7 J (jq ((deep-1:Nat):Int)) (aa [9] 7 (go 2 ?_));refine aW 2 J J (bm [S] J J V call43 J (uW (_::_::A) _ [_] _ _ S W l i2 us G (aB aT ms) _ _ ar hi2 hl Y) dd db ij ?_);rintro r3 s3 ⟨x3,i3,rfl,hm3,hi3,rfl⟩;unfold bo;refine aW 8 J J (bm [S,W] J J V call24 J (ih m Y (_::_::A) [_] _ _ us i3 (deep-1) 3 hi3 Y Y Y (by simp [hF])) jT tf wn ?_);rintro r4 s4 ⟨b4l,i4,l4,rfl,CD,hi4,rfl⟩;have hle4:=CD.le;have hln4:=CD.aIu;refine cY [(10,false),(11,true),(12,false),(13,true),(14,false)] 0 (go 6 ?_);refine bH (go 7 ?_);refine aX J (bm [S] J J V fG J (fW (_::_::A) _ _ _ l i4 _ hi4 hl V V) (bY) (bY (h:=by simp [aJ.bl])) (λ_=>bY) ?_);rintro r5 s5 ⟨z5,i5,rfl,hy5,hi5,rfl⟩;by_cases hel:z5=1
       ·refine aI J fN (go 8 ?_);refine aD J (jq ((deep-1:Nat):Int)) ?_;refine aX J (bm [S,W] J J V call24 J (ih l4 Y (_::_::A) [_] _ _ us i5 (deep-1) 3 hi5 Y Y Y (by simp [hF])) jT tf mO ?_);rintro r6 s6 ⟨b6l,i6,l6,rfl,hm6,hi6,rfl⟩;have hle6:=hm6.le;have hln6:=hm6.aIu;refine go 4 ?_;refine ⟨J,(b2,_,(.mk 7 a_ x3 .zero [] b4l b6l),l6,i6,u,us,vo,al),⟨J,(.r (.r (.r (.r (.r (.r (.r (.n (.n (.r (.r .nil))))))))))),(by show l6 <= L;omega),hi6,(by show List.length us+l6 <= 1000;(try simp only [length_append,length_cons,length_nil]);omega),(by show List.length (al++[(.mk 7 a_ x3 .zero [] b4l b6l)])+2*l6 <= 2*L;(try simp only [length_append,length_cons,length_nil]);omega),lY.step hto [(.mk 7 a_ x3 .zero [] b4l b6l)] (λ_ _ h=>by obtain ⟨d,rfl⟩:∃d,deep=d+1:=⟨deep-1,Y⟩;exact .cond hm3 CD hm6 h)⟩,bD fD⟩
       refine aG J eR (go 5 ?_);refine ⟨J,(b2,_,(.mk 7 a_ x3 .zero [] b4l []),l4,i5,u,us,vo,al),⟨J,(.r (.r (.r (.r (.r (.r (.r (.n (.n (.r (.n .nil))))))))))),(by show l4 <= L;omega),hi5,L9,(by show List.length (al++[(.mk 7 a_ x3 .zero [] b4l [])])+2*l4 <= 2*L;(try simp only [length_append,length_cons,length_nil]);omega),lY.step hto [(.mk 7 a_ x3 .zero [] b4l [])] (λ_ _ h=>by obtain ⟨d,rfl⟩:∃d,deep=d+1:=⟨deep-1,Y⟩;exact .cond hm3 CD .nil h)⟩,bD fD⟩
      refine aG J eR (go 8 ?_);refine aG J eR (go 11 ?_);refine aG J eR (go 17 ?_);refine aX J (bm [S] J J V call42 J (sy (_::_::A) _ [_] _ _ S W l i2 ms ps us fn G _ FB _ ar hi2 hl hm1 hm2 hmz hp2 Y) (bY) (bY (h:=by simp [aJ.bl])) (λ_=>bY) ?_)
     rotate_left;focus
      refine aG J eR (go 11 ?_);by_cases aIv:z2=12;focus
       refine aI J fN (go 2 ?_);by_cases hd1:0<deep
       ·refine aI J fN (go 5 ?_);refine cB [b1] (aa [0,1,3,4,5,6] 9 (go 7 ?_));refine ac 7 J (jq ((deep-1:Nat):Int)) (aa [9] 7 (go 2 ?_));refine aW 2 J J (bm [S] J J V call43 J (uW (_::_::A) _ [_] _ _ S W l i2 us G (aB aT ms) _ _ ar hi2 hl Y) dd db ij ?_);rintro r3 s3 ⟨x3,i3,rfl,hm3,hi3,rfl⟩;unfold bo;refine aW 8 J J (bm [S,W] J J V call24 J (ih m Y (_::_::A) [_] _ _ us i3 (deep-1) 3 hi3 Y Y Y (by simp [hF])) jT tf wn ?_);rintro r4 s4 ⟨b4l,i4,l4,rfl,CD,hi4,rfl⟩;have hle4:=CD.le;have hln4:=CD.aIu;refine cY [(10,false),(11,true),(12,false),(13,true),(14,false)] 0 (go 6 ?_);refine bH (go 1 ?_);refine ⟨J,(b2,_,(.mk 8 a_ x3 .zero [] b4l []),l4,i4,u,us,vo,al),⟨J,(.r (.r (.r (.r (.r (.r (.r (.n (.n (.r (.n .nil))))))))))),(by show l4 <= L;omega),hi4,L9,(by show List.length (al++[(.mk 8 a_ x3 .zero [] b4l [])])+2*l4 <= 2*L;(try simp only [length_append,length_cons,length_nil]);omega),lY.step hto [(.mk 8 a_ x3 .zero [] b4l [])] (λ_ _ h=>by obtain ⟨d,rfl⟩:∃d,deep=d+1:=⟨deep-1,Y⟩;exact .loop hm3 CD h)⟩,bD fD⟩
       refine aG J eR (go 8 ?_);refine aG J eR (go 17 ?_);refine aX J (bm [S] J J V call42 J (sy (_::_::A) _ [_] _ _ S W l i2 ms ps us fn G _ FB _ ar hi2 hl hm1 hm2 hmz hp2 Y) (bY) (bY (h:=by simp [aJ.bl])) (λ_=>bY) ?_)
      rotate_left;focus
       refine aG J eR (go 11 ?_);by_cases aMf:z2=13;focus
        refine aI J fN (go 5 ?_);refine aX J (bm [S] J J V fG J (fW (_::_::A) _ _ _ l i2 _ hi2 hl V V) (bY) (bY (h:=by simp [aJ.bl])) (λ_=>bY) ?_);rintro r7 s29 ⟨z3,i7,rfl,hy3,hi7,rfl⟩;by_cases hrt:z3=1
        ·refine aI J fN (go 10 ?_);refine ⟨J,(b2,_,(.mk 9 a_ .zero .zero [] [] []),m,i7,u,us,vo,al),⟨J,(.r (.r (.r (.r (.r (.n (.r (.n (.n (.n (.n .nil))))))))))),uc,hi7,wb,(by show List.length (al++[(.mk 9 a_ .zero .zero [] [] [])])+2*m <= 2*L;(try simp only [length_append,length_cons,length_nil]);omega),lY.step hto [(.mk 9 a_ .zero .zero [] [] [])] (λ_ _ h=>.ret h)⟩,bD fD⟩
        refine aG J eR (go 10 ?_);refine aX J (bm [S] J J V call42 J (sy (_::_::A) _ [_] _ _ S W l i7 ms ps us fn G _ FB _ ar hi7 hl hm1 hm2 hmz hp2 Y) (bY) (bY (h:=by simp [aJ.bl])) (λ_=>bY) ?_)
       rotate_left;refine aG J eR (go 17 ?_);refine aX J (bm [S] J J V call42 J (sy (_::_::A) _ [_] _ _ S W l i2 ms ps us fn G _ FB _ ar hi2 hl hm1 hm2 hmz hp2 Y) (bY) (bY (h:=by simp [aJ.bl])) (λ_=>bY) ?_)
    all_goals
     rintro r3 s3 ⟨f3,i3,rfl,hm3,hi3,rfl⟩;unfold encR;refine go 17 λb13=>?_;refine ct 60 J (bL.agg (.r (.r (.r (.r (.r (.n (.r (.r (.n (.n (.n .nil)))))))))))) ?_;refine aX J (bV (hf:=dc encS ci (.mk 5 a_ .zero f3 [] [] []) (mQ _) J J) Co ?_);refine aX J (eU [] Tryz.t120 192 J J V J J sx aQ J J J J V J ET Hg (@length_append _ al [(.mk 5 a_ .zero f3 [] [] [])]).symm fu cm (dj (f:=encS)).symm λv4=>?_);refine go 9 ?_;refine aX J (bm [S,W] J J V call24 J (ih m Y (_::_::_::A) [_] _ _ us i3 0 2 hi3 Y Y Y (by simp [hF])) jT tf mO ?_);rintro r5 s5 ⟨b5l,i5,l5,rfl,hm5,hi5,rfl⟩;have hle5:=hm5.le;have hln5:=hm5.aIu;refine aX J (eU [] Tryz.t120 192 J J V J J sx aQ J J J J V (Of _) ET Hg (@length_append _ (al++[(.mk 5 a_ .zero f3 [] [] [])]) b5l).symm fu cm (dj (f:=encS)).symm λv6=>?_);refine go 8 ?_;refine ⟨J,(b2,_,(.mk 6 a_ .zero f3 [] [] []),l5,i5,u,us,v6,(al++[(.mk 5 a_ .zero f3 [] [] [])]++b5l)),⟨J,(.r (.r (.r (.r (.r (.n (.r (.r (.n (.n (.n .nil))))))))))),(by show l5 <= L;omega),hi5,(by show List.length us+l5 <= 1000;(try simp only [length_append,length_cons,length_nil]);omega),(by show List.length ((al++[(.mk 5 a_ .zero f3 [] [] [])]++b5l)++[(.mk 6 a_ .zero f3 [] [] [])])+2*l5 <= 2*L;(try simp only [length_append,length_cons,length_nil]);omega),(by have h:=lY.step hto ((.mk 5 a_ .zero f3 [] [] [])::(b5l++[(.mk 6 a_ .zero f3 [] [] [])])) (λ_ _ h=>by rw [eA,append_assoc];exact .pair hm3 hm5 h);simpa using h)⟩,bD (h1:=bI) fD⟩
   rintro ⟨tb,cs,sm,m2,i9,u2,us2,vo2,al2⟩ ⟨hcl,hwk,aPc,hi9,aPd,aKo,aMh⟩;dsimp only at hcl hwk aPc hi9 aPd aKo aMh;have hal3:al2.length+1+2*m2 <= 2*L:=by simp only [length_append,length_cons,length_nil] at aKo;omega
   show br prog _ (⟨249,tb::(aR vo2++(aR u2++[b1,S,W])),⟨⟨tb,120,cs⟩::⟨b1,67,[ah fn,aB cC ps,FB]⟩::(A++⟨S,54,[.sl l.length (l.map λi=>aA i),ap i9]⟩::⟨W,56,[.val (.pointer (some ⟨S,0,none⟩)),G,(aB aT ms),(.val (.slice (some ⟨gF,0,none⟩) fs.length gc)),ap m2,bG ar]⟩::B),⟨vo2,120,11,al2.length,al2.flatMap encS⟩::⟨u2,9,1,us2.length,cj us2⟩::RA++⟨vv,9,1,vars.length,cj vars⟩::rw⟩,[(13,aF tb),(12,ae (n+1)),(11,av vo2),(2,av u2),(0,aF W),(3,ae deep),(6,aF b1)]⟩:AS) _;refine go 2 ?_;refine aD J (id (cV (hp:=cH hcl J) [] gX d7)) ?_;refine ct 245 J (bL.agg hwk) ?_;refine aX J (bV (hf:=dc encS ci sm (mQ _) J J) Co ?_);refine aX J (eU [] Tryz.t120 192 J J V J J sx aQ J J J J V (Of [sm]) ET Hg (@length_append _ al2 [sm]).symm fu cm (dj (f:=encS)).symm λv3=>?_);refine go 6 ?_;refine aD J (jq (n:Int)) (go 2 ?_);refine ⟨(n,m2,i9,u2,us2,v3,(al2++[sm])),⟨by show n <= most;omega,by show m2 <= L;omega,hi9,by show List.length us2+m2 <= 1000;omega,aKo,aMh⟩,EJ n,bD (h1:=bI) fD⟩
  refine aG J eR (go 11 ?_)
 rotate_left;refine aG J eR (go 17 ?_);all_goals
  refine iX 11 J ?_;refine go 5 ?_;exact ⟨.inr J,_,eM A (⟨W,56,[.val (.pointer (some ⟨S,0,none⟩)),G,(aB aT ms),(.val (.slice (some ⟨gF,0,none⟩) fs.length gc)),ap lf,bG ar]⟩::B) (ee RA vv vars rw) S l ik,bK J (bN J),ai bI bI,⟨al,ik,lf,J,hto.fin,hik,J⟩⟩
def Uz(B:List aV)(S W:Nat)(l:List Int)(ms:List cn)(ps:List bg)(fn:aH)(G FB:aO)(ar:Bool)(fs:List (aH×List bg×aO))(gF gc:Nat)(hl:l.length <= 1000000)(hm1:1 <= ms.length)(hm2:ms.length <= 1000)(hmz:∀m,m∈ms -> m.size <= 1000)(hp2:ps.length <= 1000)(hf1:1 <= fs.length)(hf2:fs.length <= 1000)(hfp:∀f,f∈fs -> f.2.1.length <= 1000):∀(L:Nat) (A:List aV) (RA rw:List aP) (vv:aN) (vars:List aH) (i0 deep most:Nat) (hi0:i0 <= l.length) (hd:deep <= 100) (Id:most <= 1000) (hvl:vars.length+L <= 1000) (hF:(⟨.slice (some ⟨gF,0,none⟩) fs.length gc,67,3,fs.length,fs.flatMap de⟩:aP)∈rw),aU prog 24 [aF W,.agg [ah fn,aB cC ps,FB],av vv,ae deep,ae most] [S,W] (eM A (⟨W,56,[.val (.pointer (some ⟨S,0,none⟩)),G,(aB aT ms),(.val (.slice (some ⟨gF,0,none⟩) fs.length gc)),ap L,bG ar]⟩::B) (ee RA vv vars rw) S l i0) (λr s=>∃(al:List aE) (i left':Nat),r=.c (aB encS al) /\ fB ms (fs.map λf=>(f.1,f.2.1)) ps vars deep L al left' /\ i <= l.length /\ s=eM A (⟨W,56,[.val (.pointer (some ⟨S,0,none⟩)),G,(aB aT ms),(.val (.slice (some ⟨gF,0,none⟩) fs.length gc)),aA (left':Int),bG ar]⟩::B) (ee RA vv vars rw) S l i):=by
 intro L;induction L using Nat.strongRecOn with
 |ind L ih=>exact λA RA rw vv vars i0 deep most hi0 hd Id hvl hF=>Sb B S W l ms ps fn G FB ar fs gF gc hl hm1 hm2 hmz hp2 hf1 hf2 hfp L ih A RA rw vv vars i0 deep most hi0 hd Id hvl hF
def A7(B:List aV)(S W:Nat)(l:List Int)(ms:List cn)(ps:List bg)(fn:aH)(G FB:aO)(ar:Bool)(fs:List (aH×List bg×aO))(gF gc:Nat)(hl:l.length <= 1000000)(hm1:1 <= ms.length)(hm2:ms.length <= 1000)(hmz:∀m,m∈ms -> m.size <= 1000)(hp2:ps.length <= 1000)(hf1:1 <= fs.length)(hf2:fs.length <= 1000)(hfp:∀f,f∈fs -> f.2.1.length <= 1000)(k:Nat)(hk:fs.length=k)(L:Nat)(A:List aV)(RA rw:List aP)(vv:aN)(vars:List aH)(i0 deep most:Nat)(hi0:i0 <= l.length)(hd:deep <= 100)(Id:most <= 1000)(hvl:vars.length+L <= 1000)(hF:(⟨.slice (some ⟨gF,0,none⟩) k gc,67,3,k,fs.flatMap de⟩:aP)∈rw):aU prog 24 [aF W,.agg [ah fn,aB cC ps,FB],av vv,ae deep,ae most] [S,W] (eM A (⟨W,56,[.val (.pointer (some ⟨S,0,none⟩)),G,(aB aT ms),(.val (.slice (some ⟨gF,0,none⟩) k gc)),ap L,bG ar]⟩::B) (ee RA vv vars rw) S l i0) (λr s=>∃(al:List aE) (i left':Nat),r=.c (aB encS al) /\ fB ms (fs.map λf=>(f.1,f.2.1)) ps vars deep L al left' /\ i <= l.length /\ s=eM A (⟨W,56,[.val (.pointer (some ⟨S,0,none⟩)),G,(aB aT ms),(.val (.slice (some ⟨gF,0,none⟩) k gc)),aA (left':Int),bG ar]⟩::B) (ee RA vv vars rw) S l i):=by
 subst hk;exact Uz B S W l ms ps fn G FB ar fs gF gc hl hm1 hm2 hmz hp2 hf1 hf2 hfp L A RA rw vv vars i0 deep most hi0 hd Id hvl hF
end
section
open Go.RowKit
def m9{α:Type}(p:Nat -> α -> Prop)(l:List α):Prop:=∀k (h:k<l.length),p k l[k]
def m9.nil{α:Type}(p:Nat -> α -> Prop):m9 p []:=λk h=>absurd h (Fo _)
def m9.snoc{α:Type}{p:Nat -> α -> Prop}{l:List α}{x:α}(h:m9 p l)(hx:p l.length x):m9 p (l++[x]):=λk hk=>by
 by_cases hl:k<l.length
 ·rw [rD hl];exact h k hl
 have:k=l.length:=by simp at hk;omega
 subst this;rw [qz (bX _)];simpa using hx
def wS(q:Nat):ByteArray:=if q=0 then bytes [109,97,105,110] else bytes [102,UInt8.ofNat (48+q)]
abbrev be(s:ByteArray×List bg):ByteArray×List bg×aO:=(s.1,s.2,aK)
def Gv(i:Nat)(s:ByteArray×List bg):Prop:=s.1=wS i /\ (i=0 -> s.2=[]) /\ wN s.2
def Rn{P:Program}{c:Code}{n:Nat}{T:List Nat}{ts:List (Nat×AT)}{Q:Exit -> AS -> Prop}{rw:List aP}{b:Nat}{E:bA}{cs cs':List aO}{v:aN}{E2:bA}{z k:Nat}{ds:List aO}(A:List aV){B:List aV}(i:Nat)(hi:cs[i]?=some (.val v))(hr:cs.set i (.sl k ds)=cs')(h:br P c ⟨n,T,⟨A++⟨b,E,cs'⟩::B,rw⟩,ts⟩ Q)(hz:0<z:=by decide):br P c ⟨n,T,⟨A++⟨b,E,cs⟩::B,⟨v,E2,z,k,ds⟩::rw⟩,ts⟩ Q:=by
 subst hr;exact rp (qx (st:=⟨n,T,⟨A++⟨b,E,cs⟩::B,⟨v,E2,z,k,ds⟩::rw⟩,ts⟩) (Ed (r:=⟨v,E2,z,k,ds⟩) A i hi hz)) h
def TB(fs:List (aH×List bg×aO))(j:Nat)(h:j<fs.length):fg false 1 (fs.flatMap de) (0+j*3+1)=some (.c (aB cC fs[j].2.1)):=by
 obtain ⟨h1,h2⟩:=flat_get de 3 (λ_=>rfl) fs j h;unfold fg;rw [if_neg V,cp];have h3:((fs.flatMap de).drop (j*3))[1]?=(de fs[j])[1]?:=by rw [←h1,oy];rfl
 rw [qX] at h3;rw [h3];rfl
def RU(fs:List (aH×List bg×aO))(j:Nat)(h:j<fs.length)(c:aO):splice (fs.flatMap de) (0+j*3+2) [c]=(fs.set j (fs[j].1,fs[j].2.1,c)).flatMap de /\ 0+j*3+2+1 <= (fs.flatMap de).length:=by
 induction fs generalizing j with
 |nil=>simp at h
 |cons f fs ih=>
  cases j with
  |zero=>exact ⟨rfl,by rw [ec,length_append];show 0+0*3+2+1 <= 3+_;omega⟩
  |succ j=>
   obtain ⟨h1,h2⟩:=ih j i_;refine ⟨?_,by rw [ec,length_append];show 0+(j+1)*3+2+1 <= 3+_;omega⟩;rw [show 0+(j+1)*3+2=3+(0+j*3+2) by omega];have e:splice (de f++fs.flatMap de) (3+(0+j*3+2)) [c]=de f++splice (fs.flatMap de) (0+j*3+2) [c]:=by
    generalize 0+j*3+2=q;generalize fs.flatMap de=t;unfold splice de;simp [Cj 3 q,jW]
    try (rw [show q+3+1=(q+1)+3 by omega];rfl)
   rw [ec,e,h1];rfl
abbrev EL(f:bB):ByteArray×List bg×aO:=(f.name,f.params,aB encS f.body)
def Tn(ds:List bB):(ds.map EL).flatMap de=ds.flatMap aZ:=by
 induction ds with
 |nil=>rfl
 |cons f ds ih=>rw [dE,ec,ec,ih];rfl
def fK(sg:List iR)(ds:List bB):List (ByteArray×List bg×aO):=ds.map EL++(sg.drop ds.length).map be
def xD{sg:List iR}{ds:List bB}(h:ds.length <= sg.length):(fK sg ds).length=sg.length:=by
 unfold fK;rw [length_append,gI,gI,kL];omega
def EG{sg:List iR}{ds:List bB}(h:ds.length<sg.length)(h2:ds.length<(fK sg ds).length):(fK sg ds)[ds.length]=be sg[ds.length]:=by
 have e:(fK sg ds)[ds.length]?=some (be sg[ds.length]):=by
  unfold fK;rw [pZ aL];simp [k_ h]
 rw [k_ h2] at e;exact mT e
def WL{sg:List iR}{ds:List bB}(h:ds.length<sg.length)(b:List aE):(fK sg ds).set ds.length (sg[ds.length].1,sg[ds.length].2,aB encS b)=fK sg (ds++[⟨sg[ds.length].1,sg[ds.length].2,b⟩]):=by
 unfold fK;rw [List.set_append_right _ _ aL,gI,Nat.sub_self,ic h,dE,Di];simp
def GF{sg:List iR}{ds:List bB}(h:ds.length<sg.length):fg true 3 ((fK sg ds).flatMap de) (0+ds.length*3)=some (.agg [ah (sg[ds.length].1),.sl sg[ds.length].2.length (sg[ds.length].2.flatMap cC),aK]):=by
 have h2:ds.length<(fK sg ds).length:=GY;rw [ui (fK sg ds) ds.length h2,EG h h2]
def GU{sg:List iR}{ds:List bB}(h:ds.length<sg.length):fg false 1 ((fK sg ds).flatMap de) (0+ds.length*3+1)=some (.c (.sl sg[ds.length].2.length (sg[ds.length].2.flatMap cC))):=by
 have h2:ds.length<(fK sg ds).length:=GY;rw [TB (fK sg ds) ds.length h2,EG h h2]
def LF{sg:List iR}{ds:List bB}(h:ds.length<sg.length)(b:List aE):splice ((fK sg ds).flatMap de) (0+ds.length*3+2) [aB encS b]=(fK sg (ds++[⟨sg[ds.length].1,sg[ds.length].2,b⟩])).flatMap de /\ 0+ds.length*3+2+1 <= ((fK sg ds).flatMap de).length:=by
 have h2:ds.length<(fK sg ds).length:=GY;obtain ⟨aj,e2⟩:=RU (fK sg ds) ds.length h2 (.sl b.length (b.flatMap encS));refine ⟨?_,e2⟩;rw [aj,EG h h2,←WL h b]
def zd(sg:List iR)(ds:List bB)(h:ds.map bB.sig=sg.take ds.length):((fK sg ds).map λf=>(f.1,f.2.1))=sg:=by
 have aj:((ds.map EL).map λf=>(f.1,f.2.1))=ds.map bB.sig:=F_;have e2:(((sg.drop ds.length).map be).map λf=>(f.1,f.2.1))=sg.drop ds.length:=by rw [oh];exact List.map_id _
 unfold fK;rw [fL,aj,e2,h,pT]
def qK(gs:List b_)(ps:List bg):List ByteArray:=gs.map b_.name++(ps.filter λx=>!x.mutex).map bg.name
def KI(gs:List b_)(ps:List bg)(j:Nat)(h:j<ps.length):qK gs (ps.take (j+1))=qK gs (ps.take j)++(if ps[j].mutex=true then [] else [ps[j].name]):=by
 unfold qK;rw [gz h,FH,fL,append_assoc];cases hm:ps[j].mutex<;>simp [hm]
def R3{ms:List cn}(h:m9 C8 ms):∀m,m∈ms -> m.size <= 1000:=λm hm=>by
 obtain ⟨k,hk,rfl⟩:=mp hm;rcases (h k hk).2 with h1|h1<;>omega
def YU{sg:List iR}{ds:List bB}(h:m9 Gv sg)(hd:ds.map bB.sig=sg.take ds.length):∀f,f∈fK sg ds -> f.2.1.length <= 1000:=λf hf=>by
 have h1:(f.1,f.2.1)∈sg:=by rw [←zd sg ds hd];exact lP.2 ⟨f,hf,rfl⟩
 obtain ⟨k,hk,e⟩:=mp h1;have h2:=(h k hk).2.2.1;rw [e] at h2;exact iS h2 V
def I6(ms:List cn)(sg:List iR)(gs:List b_)(lf:Nat)(ds:List bB):Prop:=∀rest,py ms sg gs lf rest -> py ms sg gs 24 (ds++rest)
def AY{P:Program}{U:List Nat}{o:Oper}{st:AS}(off q:Nat){t ft:bA}{x:bb}{fs:Array Field}{f z b p:Nat}(ho:o.op=.fieldAddr t x f)(hx:aw st x=some (av (.pointer (some ⟨b,p,none⟩))))(hu:∀w,(underlying t).run P w=.ok (.struct fs) w)(hf:s_ fs f=some (off,ft))(hS:∀w,(sizeOf ft).run P w=.ok z w)(hz:z≠0)(hq:p+off=q):co P U o st (av (.pointer (some ⟨b,q,none⟩))):=jO (ho:=ho) (hx:=hx) (hf:=hf) (hz:=hz) (hq:=hq) off q hu hS
def Un{sg:List iR}{ds:List bB}(h:ds.length=sg.length):(fK sg ds).flatMap de=ds.flatMap aZ:=by
 unfold fK;rw [h,uF (bX _),gH,eV,Tn]
def Ru{ms:List cn}{gs:List b_}{sg:List iR}{ds:List bB}(hmN:1 <= ms.length /\ ms.length <= 4)(hms:m9 C8 ms)(hgN:gs.length <= 2)(hgs:m9 ID gs)(hs1:1 <= sg.length /\ sg.length <= 4)(hsg:m9 Gv sg)(hd:ds.length=sg.length)(hdm:ds.map bB.sig=sg.take ds.length)(hbt:∃lf,I6 ms sg gs lf ds):BI ⟨gs,ms,ds⟩:=by
 have hds:ds.map bB.sig=sg:=by rw [hdm,hd,hG]
 obtain ⟨lf,hbt⟩:=hbt;refine ⟨⟨hmN.1,hmN.2,hms⟩,⟨hgN,hgs⟩,⟨by show 1 <= ds.length;omega,by show ds.length <= 4;omega,λk hk=>?_⟩,?_⟩
 ·have hk2:k<sg.length:=by rw [←hd];exact hk
  have e:sg[k]=ds[k].sig:=by simp only [←hds];simp
  obtain ⟨h1,h2,h3⟩:=hsg k hk2;rw [e] at h1 h2 h3;refine ⟨λh0=>⟨by rw [show ds[k].name=_ from h1,wS,if_pos h0],h2 h0⟩,λh0=>by rw [show ds[k].name=_ from h1,wS,if_neg Y],h3⟩
 have:=hbt [] .nil;rw [eV] at this;show py ms (ds.map bB.sig) gs 24 ds;rw [hds];exact this
def Rz(q:Nat):ed .eql (q:Int) 0=some (decide (q=0)):=by
 cases q with
 |zero=>rfl
 |succ n=>show some (((n+1:Nat):Int) == 0)=_;rw [show (((n+1:Nat):Int) == 0)=false from beq_eq_false_iff_ne.2 Y];rfl
def VZ(l0:List Int)(hl0:l0.length <= 9223372036854775807)(s:aJ):aU prog 8 [.c (.sl l0.length (l0.map λi=>aA i))] [] s (λr s'=>∃p,r=.agg (dl p) /\ BI p /\ s'=s):=by
 obtain ⟨bx,rw⟩:=s;refine bR 264 func8 ?_;refine go 8 λb1=>?_;refine aX J (bm [] J J V call22 J (VH l0 400 _) dJ dJ (λ_=>dJ) ?_);rintro rc sc ⟨rfl,rfl⟩;obtain ⟨l,hlc⟩:∃x,x=l0.take 400:=⟨_,rfl⟩;rw [←hlc];have hl:l.length <= 1000000:=by rw [hlc,ke];omega
 clear hlc;have hi0:0 <= l.length:=eT _;refine go 9 λS W=>?_;refine Vf ?_;refine go 5 ?_;refine aX J (bm [S] J J V fG J (fW [] _ _ _ l 0 _ hi0 hl V V) (bY) (bY (h:=by simp [aJ.bl])) (λ_=>bY) ?_);rintro r1 s1 ⟨z1,i1,rfl,hy1,hi1,rfl⟩;obtain ⟨ar,har⟩:∃b,ed .eql (z1:Int) 1=some b:=⟨_,rfl⟩;refine aD J (fC ar J J J har) (go 12 ?_);refine aX J (bm [S] J J V fG J (fW [] _ _ _ l i1 _ hi1 hl V V) (bY) (bY (h:=by simp [aJ.bl])) (λ_=>bY) ?_);rintro r2 s2 ⟨z2,i2,rfl,hy2,hi2,rfl⟩;refine aD J (ll (m:=1)) (go 5 ?_);refine f_ 60 3 ?_;refine f9 (λg:Nat×aN×List cn×Nat=>(⟨264,aR g.2.1++[W,S,b1],⟨⟨S,54,[.sl l.length (l.map λi=>aA i),ap g.2.2.2]⟩::⟨W,56,[.val (.pointer (some ⟨S,0,none⟩)),aK,.val g.2.1,aK,aA 24,bG ar]⟩::⟨b1,27,[aK,aK,aK]⟩::bx,⟨g.2.1,60,3,g.2.2.1.length,g.2.2.1.flatMap aT⟩::rw⟩,[(4,ae g.1),(5,ae (1+z2)),(3,aF W),(2,aF b1)]⟩:AS)) (λg=>g.1 <= (1+z2) /\ g.2.2.1.length=g.1 /\ m9 C8 g.2.2.1 /\ g.2.2.2 <= l.length) (λg=>(1+z2)-g.1) (0,.slice none 0 0,[],i2) (bD ue) ⟨eT _,J,.nil _,hi2⟩ ?_;rintro ⟨k,vM,ms,ik⟩ ⟨hk,hmk,hms,hik⟩;dsimp only at hk hmk hms hik;show br prog _ (⟨264,aR vM++[W,S,b1],⟨⟨S,54,[.sl l.length (l.map λi=>aA i),ap ik]⟩::⟨W,56,[.val (.pointer (some ⟨S,0,none⟩)),aK,.val vM,aK,aA 24,bG ar]⟩::⟨b1,27,[aK,aK,aK]⟩::bx,⟨vM,60,3,ms.length,ms.flatMap aT⟩::rw⟩,[(4,ae k),(5,ae (1+z2)),(3,aF W),(2,aF b1)]⟩:AS) _;refine go 5 ?_;by_cases hlt:k<(1+z2)
 ·refine aI J fN (go 10 ?_);refine aD J (ll (m:=97)) ?_;refine aD J (xo J J Y J J J) ?_;refine aX J (bV (r:=ca [UInt8.ofNat (97+k)]) ko ?_);refine aD J (lp J J J) (go 12 λb2=>?_);refine aX J (bm [S] J J V fG J (fW [_] _ _ _ l ik _ hik hl V V) (bY) (bY (h:=by simp [aJ.bl])) (λ_=>bY) ?_);rintro r3 s3 ⟨z3,i3,rfl,hy3,hi3,rfl⟩;refine go 5 ?_;by_cases h1:z3=1
  ·refine aI J fN (go 10 ?_);refine cB [b2,S,b1] (aa [0,1,2,3,4,6] 7 (go 7 ?_));refine cA 5 7 J ?_ ?_;focus
    refine dO J V (cV [_,_] j_ j8) ?_;refine aW 7 J J (bV (hf:=dc aT aT ⟨(bytes [UInt8.ofNat (97+k)]),true,0⟩ J J J) ki ?_)
   rotate_left;refine (bV (hf:=dc aT aT ⟨(bytes [UInt8.ofNat (97+k)]),true,0⟩ J J J) ki ?_);refine aW 5 J J (dO J V (cV [_,_] j_ j8) ?_);all_goals
    refine aW 8 J J (dQ [] uo J J V cN Y (@length_append _ ms [⟨(bytes [UInt8.ofNat (97+k)]),true,0⟩]).symm (λhn b hb=>gZ hn hb) cm (dj (f:=aT)).symm λv4=>?_);refine cY [(9,true),(10,true),(11,true),(12,false)] 0 (go 5 ?_);refine bH (go 4 ?_);refine aD J (ll (k:=1)) (go 2 ?_);refine ⟨(k+1,v4,ms++[⟨(bytes [UInt8.ofNat (97+k)]),true,0⟩],i3),⟨FU,by show List.length (ms++[⟨(bytes [UInt8.ofNat (97+k)]),true,0⟩])=k+1;simp only [length_append,length_cons,length_nil];omega,hms.snoc (by rw [hmk];exact ⟨rfl,.inr ⟨rfl,rfl⟩⟩),hi3⟩,Hu,bD (h1:=bI) fD⟩
  refine aG J eR (go 6 ?_);by_cases h2:z3=2
  ·refine aI J fN (go 9 ?_);refine aX J (bm [S] J J V fG J (fW [_] _ _ _ l i3 _ hi3 hl V V) (bY) (bY (h:=by simp [aJ.bl])) (λ_=>bY) ?_);rintro r4 s4 ⟨z4,i4,rfl,hy4,hi4,rfl⟩;refine aD J (ll (m:=1)) (go 5 ?_);refine cB [b2,S,b1] (aa [0,1,2,3,4,6] 7 (go 7 ?_));refine cA 5 7 J ?_ ?_;focus
    refine dO J V (cV [_,_] j_ j8) ?_;refine aW 7 J J (bV (hf:=dc aT aT ⟨(bytes [UInt8.ofNat (97+k)]),false,((1+z4:Nat):Int)⟩ J J J) ki ?_)
   rotate_left;refine (bV (hf:=dc aT aT ⟨(bytes [UInt8.ofNat (97+k)]),false,((1+z4:Nat):Int)⟩ J J J) ki ?_);refine aW 5 J J (dO J V (cV [_,_] j_ j8) ?_);all_goals
    refine aW 8 J J (dQ [] uo J J V cN Y (@length_append _ ms [⟨(bytes [UInt8.ofNat (97+k)]),false,((1+z4:Nat):Int)⟩]).symm (λhn b hb=>gZ hn hb) cm (dj (f:=aT)).symm λv5=>?_);refine cY [(9,true),(10,true),(11,true),(12,false)] 0 (go 5 ?_);refine bH (go 4 ?_);refine aD J (ll (k:=1)) (go 2 ?_);refine ⟨(k+1,v5,ms++[⟨(bytes [UInt8.ofNat (97+k)]),false,((1+z4:Nat):Int)⟩],i4),⟨FU,by show List.length (ms++[⟨(bytes [UInt8.ofNat (97+k)]),false,((1+z4:Nat):Int)⟩])=k+1;simp only [length_append,length_cons,length_nil];omega,hms.snoc (by rw [hmk];exact ⟨rfl,.inl ⟨rfl,by show (0:Int) <= ((1+z4:Nat):Int);omega,by show ((1+z4:Nat):Int) <= 3;omega⟩⟩),hi4⟩,Hu,bD (h1:=bI) fD⟩
  refine aG J eR (go 7 ?_);refine cB [b2,S,b1] (aa [0,1,2,3,4,6] 7 (go 7 ?_));refine cA 5 7 J ?_ ?_;focus
   refine dO J V (cV [_,_] j_ j8) ?_;refine aW 7 J J (bV (hf:=dc aT aT ⟨(bytes [UInt8.ofNat (97+k)]),false,0⟩ J J J) ki ?_)
  rotate_left;refine (bV (hf:=dc aT aT ⟨(bytes [UInt8.ofNat (97+k)]),false,0⟩ J J J) ki ?_);refine aW 5 J J (dO J V (cV [_,_] j_ j8) ?_);all_goals
   refine aW 8 J J (dQ [] uo J J V cN Y (@length_append _ ms [⟨(bytes [UInt8.ofNat (97+k)]),false,0⟩]).symm (λhn b hb=>gZ hn hb) cm (dj (f:=aT)).symm λv4=>?_);refine cY [(9,true),(10,true),(11,true),(12,false)] 0 (go 5 ?_);refine bH (go 4 ?_);refine aD J (ll (k:=1)) (go 2 ?_);refine ⟨(k+1,v4,ms++[⟨(bytes [UInt8.ofNat (97+k)]),false,0⟩],i3),⟨FU,by show List.length (ms++[⟨(bytes [UInt8.ofNat (97+k)]),false,0⟩])=k+1;simp only [length_append,length_cons,length_nil];omega,hms.snoc (by rw [hmk];exact ⟨rfl,.inl ⟨rfl,by show (0:Int) <= 0;decide,by show (0:Int) <= 3;decide⟩⟩),hi3⟩,Hu,bD (h1:=bI) fD⟩
 refine aG J eR (go 10 ?_);have hmN:1 <= ms.length /\ ms.length <= 4:=Y;refine eD [_] 2 J J ?_;refine go 10 ?_;refine aX J (bm [S] J J V fG J (fW [] _ _ _ l ik _ hik hl V V) (bY) (bY (h:=by simp [aJ.bl])) (λ_=>bY) ?_);rintro r3 s3 ⟨z3,i3,rfl,hy3,hi3,rfl⟩;refine go 5 ?_;refine f_ 9 1 ?_;refine f_ 63 2 ?_;refine f9 (λg:Nat×aN×aN×List b_×Nat=>(⟨264,aR g.2.1++(aR g.2.2.1++[W,S,b1]),⟨⟨S,54,[.sl l.length (l.map λi=>aA i),ap g.2.2.2.2]⟩::⟨W,56,[.val (.pointer (some ⟨S,0,none⟩)),.val g.2.1,(aB aT ms),aK,aA 24,bG ar]⟩::⟨b1,27,[aK,aK,aK]⟩::bx,⟨g.2.1,63,2,g.2.2.2.1.length,g.2.2.2.1.flatMap am⟩::⟨g.2.2.1,9,1,g.2.2.2.1.length,cj (g.2.2.2.1.map b_.name)⟩::rw⟩,[(8,ae g.1),(9,ae z3),(7,av g.2.2.1),(3,aF W),(2,aF b1)]⟩:AS)) (λg=>g.1 <= z3 /\ g.2.2.2.1.length=g.1 /\ m9 ID g.2.2.2.1 /\ g.2.2.2.2 <= l.length) (λg=>z3-g.1) (0,.slice none 0 0,.slice none 0 0,[],i3) (bD (by intro x hx;simp [aR,Value.ownBlock] at hx⊢;rcases hx with h|h|h<;>simp [h])) ⟨eT _,rfl,.nil _,hi3⟩ ?_;clear hik hk hmk;rintro ⟨k,vG,vv,gs,ik⟩ ⟨hk,IN,hgs,hik⟩;dsimp only at hk IN hgs hik;show br prog _ (⟨264,aR vG++(aR vv++[W,S,b1]),⟨⟨S,54,[.sl l.length (l.map λi=>aA i),ap ik]⟩::⟨W,56,[.val (.pointer (some ⟨S,0,none⟩)),.val vG,(aB aT ms),aK,aA 24,bG ar]⟩::⟨b1,27,[aK,aK,aK]⟩::bx,⟨vG,63,2,gs.length,gs.flatMap am⟩::⟨vv,9,1,gs.length,cj (gs.map b_.name)⟩::rw⟩,[(8,ae k),(9,ae z3),(7,av vv),(3,aF W),(2,aF b1)]⟩:AS) _;refine go 5 ?_;by_cases hlt2:k<z3
 ·refine aI J fN (go 8 ?_);refine yb (λg:Nat×Nat×Nat=>(⟨264,g.1::aR vG++(aR vv++[W,S,b1]),⟨⟨g.1,63,[ah (bytes [103,UInt8.ofNat (48+k)]),aA ((g.2.1:Int)-2)]⟩::⟨S,54,[.sl l.length (l.map λi=>aA i),ap g.2.2]⟩::⟨W,56,[.val (.pointer (some ⟨S,0,none⟩)),.val vG,(aB aT ms),aK,aA 24,bG ar]⟩::⟨b1,27,[aK,aK,aK]⟩::bx,⟨vG,63,2,gs.length,gs.flatMap am⟩::⟨vv,9,1,gs.length,cj (gs.map b_.name)⟩::rw⟩,[(10,av (.pointer (some ⟨g.1,0,none⟩))),(8,ae k),(9,ae z3),(7,av vv),(3,aF W),(2,aF b1)]⟩:AS)) (λg=>g.2.1<5 /\ g.2.2 <= l.length) ?_ ?_
  ·refine cB [W,b1] (aa [0] 14 (go 2 ?_));refine ac 1 J (ll (m:=48)) ?_;refine ac 2 J (xo J J Y J J J) (aa [6,7,8,9] 8 (go 5 ?_));refine three 3 10 13 aQ J J J J J J ?_ ?_ ?_;focus
    refine (bV (r:=ca [UInt8.ofNat (48+k)]) ko ?_);refine ac 4 J (lp J J J) ?_;refine ac 5 J (pR (c:=103) (d:=UInt8.ofNat (48+k)) J J J J J J) ?_;refine cA 10 13 J ?_ ?_;focus
     refine (bm [S] J J V fG J (fW [] _ _ _ l ik _ hik hl V V) dd db ij ?_);rintro r4 s4 ⟨z4,i4,rfl,hy4,hi4,rfl⟩;refine ac 11 J (jh) (cY [(12,true),(13,false),(14,false)] 0 (go 4 λb7=>?_))
    rotate_left;refine (jm J J V Aq J λb7=>?_);refine aW 10 J J (bm [S] J J V fG J (fW [_] _ _ _ l ik _ hik hl V V) dd db ij ?_);rintro r4 s4 ⟨z4,i4,rfl,hy4,hi4,rfl⟩;refine ac 11 J (jh) (cY [(12,true),(14,false)] 0 (go 3 ?_))
   rotate_left 2;focus
    refine (bm [S] J J V fG J (fW [] _ _ _ l ik _ hik hl V V) dd db ij ?_);rintro r4 s4 ⟨z4,i4,rfl,hy4,hi4,rfl⟩;refine ac 11 J (jh) ?_;refine cA 3 13 J ?_ ?_;focus
     refine (bV (r:=ca [UInt8.ofNat (48+k)]) ko ?_);refine ac 4 J (lp J J J) ?_;refine ac 5 J (pR (c:=103) (d:=UInt8.ofNat (48+k)) J J J J J J) (cY [(12,true),(13,false),(14,false)] 0 (go 4 λb7=>?_))
    rotate_left;refine (jm J J V Aq J λb7=>?_);refine aW 3 J J (bV (r:=ca [UInt8.ofNat (48+k)]) ko ?_);refine ac 4 J (lp J J J) ?_;refine ac 5 J (pR (c:=103) (d:=UInt8.ofNat (48+k)) J J J J J J) (cY [(12,true),(14,false)] 0 (go 3 ?_))
   rotate_left 2;focus
    refine (jm J J V Aq J λb7=>?_);refine cA 3 10 J ?_ ?_;focus
     refine (bV (r:=ca [UInt8.ofNat (48+k)]) ko ?_);refine ac 4 J (lp J J J) ?_;refine ac 5 J (pR (c:=103) (d:=UInt8.ofNat (48+k)) J J J J J J) ?_;refine aW 10 J J (bm [S] J J V fG J (fW [_] _ _ _ l ik _ hik hl V V) dd db ij ?_);rintro r4 s4 ⟨z4,i4,rfl,hy4,hi4,rfl⟩;refine ac 11 J (jh) (cY [(12,true),(14,false)] 0 (go 3 ?_))
    rotate_left;refine (bm [S] J J V fG J (fW [_] _ _ _ l ik _ hik hl V V) dd db ij ?_);rintro r4 s4 ⟨z4,i4,rfl,hy4,hi4,rfl⟩;refine ac 11 J (jh) ?_;refine aW 3 J J (bV (r:=ca [UInt8.ofNat (48+k)]) ko ?_);refine ac 4 J (lp J J J) ?_;refine ac 5 J (pR (c:=103) (d:=UInt8.ofNat (48+k)) J J J J J J) (cY [(12,true),(14,false)] 0 (go 3 ?_))
   all_goals
    refine bH ?_;exact ⟨J,(b7,z4,i4),⟨by show z4<5;omega,hi4⟩,bD (λ_ h=>h)⟩
  rintro ⟨b2,zz,i2⟩ ⟨hzz,hi2⟩;dsimp only at hzz hi2;show br prog _ (⟨264,b2::aR vG++(aR vv++[W,S,b1]),⟨⟨b2,63,[ah (bytes [103,UInt8.ofNat (48+k)]),aA ((zz:Int)-2)]⟩::⟨S,54,[.sl l.length (l.map λi=>aA i),ap i2]⟩::⟨W,56,[.val (.pointer (some ⟨S,0,none⟩)),.val vG,(aB aT ms),aK,aA 24,bG ar]⟩::⟨b1,27,[aK,aK,aK]⟩::bx,⟨vG,63,2,gs.length,gs.flatMap am⟩::⟨vv,9,1,gs.length,cj (gs.map b_.name)⟩::rw⟩,[(10,aF b2),(8,ae k),(9,ae z3),(7,av vv),(3,aF W),(2,aF b1)]⟩:AS) _;refine cB [b2,S,b1] (aa [0,1,2,3,4,6,9,10,11] 10 (go 10 ?_));refine three 5 7 12 aQ J J J J J J ?_ ?_ ?_;focus
   refine dO J V (cV [_,_] oe oX) ?_;refine cA 7 12 J ?_ ?_;focus
    refine (bV (hf:=dc am am (⟨bytes [103,UInt8.ofNat (48+k)],(zz:Int)-2⟩:b_) J J J) pL ?_);refine cA 8 12 J ?_ ?_;focus
     refine (dQ [] rC J J V cN Y (@length_append _ gs [(⟨bytes [103,UInt8.ofNat (48+k)],(zz:Int)-2⟩:b_)]).symm (λhn b hb=>gZ hn hb) cm (dj (f:=am)).symm λv4=>?_);refine aW 12 J J (bV (r:=cj ([(⟨bytes [103,UInt8.ofNat (48+k)],(zz:Int)-2⟩:b_)].map b_.name)) io ?_)
    rotate_left;refine (bV (r:=cj ([(⟨bytes [103,UInt8.ofNat (48+k)],(zz:Int)-2⟩:b_)].map b_.name)) io ?_);refine aW 8 J J (dQ [] rC J J V cN Y (@length_append _ gs [(⟨bytes [103,UInt8.ofNat (48+k)],(zz:Int)-2⟩:b_)]).symm (λhn b hb=>gZ hn hb) cm (dj (f:=am)).symm λv4=>?_)
   rotate_left 2;refine (bV (r:=cj ([(⟨bytes [103,UInt8.ofNat (48+k)],(zz:Int)-2⟩:b_)].map b_.name)) io ?_);refine aW 7 J J (bV (hf:=dc am am (⟨bytes [103,UInt8.ofNat (48+k)],(zz:Int)-2⟩:b_) J J J) pL ?_);refine aW 8 J J (dQ [] rC J J V cN Y (@length_append _ gs [(⟨bytes [103,UInt8.ofNat (48+k)],(zz:Int)-2⟩:b_)]).symm (λhn b hb=>gZ hn hb) cm (dj (f:=am)).symm λv4=>?_)
  rotate_left 3;focus
   refine (bV (hf:=dc am am (⟨bytes [103,UInt8.ofNat (48+k)],(zz:Int)-2⟩:b_) J J J) pL ?_);refine cA 5 12 J ?_ ?_;focus
    refine dO J V (cV [_,_] oe oX) ?_;refine cA 8 12 J ?_ ?_;focus
     refine (dQ [] rC J J V cN Y (@length_append _ gs [(⟨bytes [103,UInt8.ofNat (48+k)],(zz:Int)-2⟩:b_)]).symm (λhn b hb=>gZ hn hb) cm (dj (f:=am)).symm λv4=>?_);refine aW 12 J J (bV (r:=cj ([(⟨bytes [103,UInt8.ofNat (48+k)],(zz:Int)-2⟩:b_)].map b_.name)) io ?_)
    rotate_left;refine (bV (r:=cj ([(⟨bytes [103,UInt8.ofNat (48+k)],(zz:Int)-2⟩:b_)].map b_.name)) io ?_);refine aW 8 J J (dQ [] rC J J V cN Y (@length_append _ gs [(⟨bytes [103,UInt8.ofNat (48+k)],(zz:Int)-2⟩:b_)]).symm (λhn b hb=>gZ hn hb) cm (dj (f:=am)).symm λv4=>?_)
   rotate_left 2;refine (bV (r:=cj ([(⟨bytes [103,UInt8.ofNat (48+k)],(zz:Int)-2⟩:b_)].map b_.name)) io ?_);refine aW 5 J J (dO J V (cV [_,_] oe oX) ?_);refine aW 8 J J (dQ [] rC J J V cN Y (@length_append _ gs [(⟨bytes [103,UInt8.ofNat (48+k)],(zz:Int)-2⟩:b_)]).symm (λhn b hb=>gZ hn hb) cm (dj (f:=am)).symm λv4=>?_)
  rotate_left 3;focus
   refine (bV (r:=cj ([(⟨bytes [103,UInt8.ofNat (48+k)],(zz:Int)-2⟩:b_)].map b_.name)) io ?_);refine cA 5 7 J ?_ ?_;focus
    refine dO J V (cV [_,_] oe oX) ?_;refine aW 7 J J (bV (hf:=dc am am (⟨bytes [103,UInt8.ofNat (48+k)],(zz:Int)-2⟩:b_) J J J) pL ?_)
   rotate_left;refine (bV (hf:=dc am am (⟨bytes [103,UInt8.ofNat (48+k)],(zz:Int)-2⟩:b_) J J J) pL ?_);refine aW 5 J J (dO J V (cV [_,_] oe oX) ?_);all_goals
    refine aW 8 J J (dQ [] rC J J V cN Y (@length_append _ gs [(⟨bytes [103,UInt8.ofNat (48+k)],(zz:Int)-2⟩:b_)]).symm (λhn b hb=>gZ hn hb) cm (dj (f:=am)).symm λv4=>?_)
  all_goals
   refine aW 13 J J (dQ [_] pC J J V cN Y (@length_append _ gs [(⟨bytes [103,UInt8.ofNat (48+k)],(zz:Int)-2⟩:b_)]).symm (λhn b hb=>cx (r:=⟨vv,9,1,gs.length,cj (gs.map b_.name)⟩) hn hb) cm (show cj (gs.map b_.name)++cj ([(⟨bytes [103,UInt8.ofNat (48+k)],(zz:Int)-2⟩:b_)].map b_.name)=cj ((gs++[(⟨bytes [103,UInt8.ofNat (48+k)],(zz:Int)-2⟩:b_)]).map b_.name) by simp [cj]) λv5=>?_);refine cY [(14,true),(15,true),(16,true),(17,false),(18,true)] 0 (go 6 ?_);refine bH (go 4 ?_);refine aD J (ll (k:=1)) (go 2 ?_);refine ⟨(k+1,v4,v5,gs++[(⟨bytes [103,UInt8.ofNat (48+k)],(zz:Int)-2⟩:b_)],i2),⟨by show k+1 <= z3;omega,by show List.length (gs++[(⟨bytes [103,UInt8.ofNat (48+k)],(zz:Int)-2⟩:b_)])=k+1;simp only [length_append,length_cons,length_nil];omega,hgs.snoc (by rw [IN];exact ⟨rfl,by show -2 <= (zz:Int)-2;omega,by show (zz:Int)-2 <= 2;omega⟩),hi2⟩,by show z3-(k+1)<z3-k;omega,bD (h1:=bI) fD⟩
 refine aG J eR (go 10 ?_);have hgN:gs.length <= 2:=Y;refine eD [_] 1 J J ?_;refine go 4 ?_;refine aX J (bm [S] J J V fG J (fW [] _ _ _ l ik _ hik hl V V) (bY) (bY (h:=by simp [aJ.bl])) (λ_=>bY) ?_);rintro r4 s4 ⟨z4,i4,rfl,hy4,hi4,rfl⟩;refine go 10 ?_;refine f_ 67 3 ?_;refine f9 (λg:Nat×aN×List (aH×List bg)×Nat=>(⟨264,(aR g.2.1++(aR vv++[W,S,b1])),⟨⟨S,54,[.sl l.length (l.map λi=>aA i),ap g.2.2.2]⟩::⟨W,56,[.val (.pointer (some ⟨S,0,none⟩)),(aB am gs),(aB aT ms),.val g.2.1,aA 24,bG ar]⟩::⟨b1,27,[aK,aK,aK]⟩::bx,⟨g.2.1,67,3,g.2.2.1.length,(g.2.2.1.map be).flatMap de⟩::⟨vv,9,1,gs.length,cj (gs.map b_.name)⟩::rw⟩,[(12,ae g.1),(11,ae z4),(7,av vv),(3,aF W),(2,aF b1)]⟩:AS)) (λg=>g.1 <= z4+1 /\ g.2.2.1.length=g.1 /\ m9 Gv g.2.2.1 /\ g.2.2.2 <= l.length) (λg=>z4+1-g.1) (0,.slice none 0 0,[],i4) (bD JA) ⟨eT _,J,.nil _,hi4⟩ ?_;clear hik hk IN;rintro ⟨q,vF,sg,ik⟩ ⟨hq,hsq,hsg,hik⟩;dsimp only at hq hsq hsg hik;show br prog _ (⟨264,(aR vF++(aR vv++[W,S,b1])),⟨⟨S,54,[.sl l.length (l.map λi=>aA i),ap ik]⟩::⟨W,56,[.val (.pointer (some ⟨S,0,none⟩)),(aB am gs),(aB aT ms),.val vF,aA 24,bG ar]⟩::⟨b1,27,[aK,aK,aK]⟩::bx,⟨vF,67,3,sg.length,(sg.map be).flatMap de⟩::⟨vv,9,1,gs.length,cj (gs.map b_.name)⟩::rw⟩,[(12,ae q),(11,ae z4),(7,av vv),(3,aF W),(2,aF b1)]⟩:AS) _;refine go 5 ?_;by_cases hlt3:q <= z4
 ·refine aI J fN (go 10 ?_);refine aD J (ll (m:=48)) ?_;refine aD J (xo J J Y J J J) ?_;refine aX J (bV (r:=ca [UInt8.ofNat (48+q)]) ko ?_);refine aD J (lp J J J) ?_;refine aD J (pR (c:=102) (d:=UInt8.ofNat (48+q)) J J J J J J) (go 9 λfb=>?_);refine aD J (fC (decide (q=0)) J J J (Rz q)) (go 2 ?_);refine yb (λNM:aH=>(⟨264,fb::(aR vF++(aR vv++[W,S,b1])),⟨⟨fb,67,[ah NM,aK,aK]⟩::⟨S,54,[.sl l.length (l.map λi=>aA i),ap ik]⟩::⟨W,56,[.val (.pointer (some ⟨S,0,none⟩)),(aB am gs),(aB aT ms),.val vF,aA 24,bG ar]⟩::⟨b1,27,[aK,aK,aK]⟩::bx,⟨vF,67,3,sg.length,(sg.map be).flatMap de⟩::⟨vv,9,1,gs.length,cj (gs.map b_.name)⟩::rw⟩,[(13,aF fb),(12,ae q),(11,ae z4),(7,av vv),(3,aF W),(2,aF b1)]⟩:AS)) (λNM=>NM=wS q) ?_ ?_
  ·refine im J (λaHu=>?_) (λaHu=>?_)
   ·have aKp:q=0:=of_decide_eq_true aHu;refine go 4 ?_;exact ⟨J,(bytes [109,97,105,110]),by simp [wS,aKp],bD (λ_ h=>h)⟩
   have aKp:¬q=0:=of_decide_eq_false aHu;refine go 1 ?_;exact ⟨J,(bytes [102,UInt8.ofNat (48+q)]),by simp [wS,aKp],bD (λ_ h=>h)⟩
  rintro nm hnm;show br prog _ (⟨264,fb::(aR vF++(aR vv++[W,S,b1])),⟨⟨fb,67,[ah nm,aK,aK]⟩::⟨S,54,[.sl l.length (l.map λi=>aA i),ap ik]⟩::⟨W,56,[.val (.pointer (some ⟨S,0,none⟩)),(aB am gs),(aB aT ms),.val vF,aA 24,bG ar]⟩::⟨b1,27,[aK,aK,aK]⟩::bx,⟨vF,67,3,sg.length,(sg.map be).flatMap de⟩::⟨vv,9,1,gs.length,cj (gs.map b_.name)⟩::rw⟩,[(13,aF fb),(12,ae q),(11,ae z4),(7,av vv),(3,aF W),(2,aF b1)]⟩:AS) _;refine go 7 ?_;refine aX J (bm [S] J J V fG J (fW [_] _ _ _ l ik _ hik hl V V) (bY) (bY (h:=by simp [aJ.bl])) (λ_=>bY) ?_);rintro r5 s5 ⟨z5,i5,rfl,hy5,hi5,rfl⟩;refine go 3 ?_;refine yb (λg:aN×List bg×Nat=>(⟨264,aR g.1++(fb::(aR vF++(aR vv++[W,S,b1]))),⟨⟨fb,67,[ah nm,.val g.1,aK]⟩::⟨S,54,[.sl l.length (l.map λi=>aA i),ap g.2.2]⟩::⟨W,56,[.val (.pointer (some ⟨S,0,none⟩)),(aB am gs),(aB aT ms),.val vF,aA 24,bG ar]⟩::⟨b1,27,[aK,aK,aK]⟩::bx,⟨g.1,69,2,g.2.1.length,g.2.1.flatMap cC⟩::⟨vF,67,3,sg.length,(sg.map be).flatMap de⟩::⟨vv,9,1,gs.length,cj (gs.map b_.name)⟩::rw⟩,[(13,aF fb),(12,ae q),(11,ae z4),(7,av vv),(3,aF W),(2,aF b1)]⟩:AS)) (λg=>wN g.2.1 /\ (q=0 -> g.2.1=[]) /\ g.2.2 <= l.length) ?_ ?_
  ·refine go 1 ?_;refine f_ 69 2 ?_;refine f9 (λg:Nat×aN×List bg×Nat=>(⟨264,aR g.2.1++(fb::(aR vF++(aR vv++[W,S,b1]))),⟨⟨fb,67,[ah nm,.val g.2.1,aK]⟩::⟨S,54,[.sl l.length (l.map λi=>aA i),ap g.2.2.2]⟩::⟨W,56,[.val (.pointer (some ⟨S,0,none⟩)),(aB am gs),(aB aT ms),.val vF,aA 24,bG ar]⟩::⟨b1,27,[aK,aK,aK]⟩::bx,⟨g.2.1,69,2,g.2.2.1.length,g.2.2.1.flatMap cC⟩::⟨vF,67,3,sg.length,(sg.map be).flatMap de⟩::⟨vv,9,1,gs.length,cj (gs.map b_.name)⟩::rw⟩,[(14,ae g.1),(13,aF fb),(12,ae q),(11,ae z4),(7,av vv),(3,aF W),(2,aF b1)]⟩:AS)) (λg=>g.1+g.2.2.1.length=z5 /\ (q=0 -> g.2.2.1=[]) /\ m9 (λk x=>x.name=bytes [112,UInt8.ofNat (48+(z5-k))]) g.2.2.1 /\ g.2.2.2 <= l.length) (λg=>g.1) (z5,.slice none 0 0,[],i5) (bD ue) ⟨J,λ_=>J,.nil _,hi5⟩ ?_;rintro ⟨m,vP,qs,iq⟩ ⟨hm,hq0,hqs,hiq⟩;dsimp only at hm hq0 hqs hiq;show br prog _ (⟨264,aR vP++(fb::(aR vF++(aR vv++[W,S,b1]))),⟨⟨fb,67,[ah nm,.val vP,aK]⟩::⟨S,54,[.sl l.length (l.map λi=>aA i),ap iq]⟩::⟨W,56,[.val (.pointer (some ⟨S,0,none⟩)),(aB am gs),(aB aT ms),.val vF,aA 24,bG ar]⟩::⟨b1,27,[aK,aK,aK]⟩::bx,⟨vP,69,2,qs.length,qs.flatMap cC⟩::⟨vF,67,3,sg.length,(sg.map be).flatMap de⟩::⟨vv,9,1,gs.length,cj (gs.map b_.name)⟩::rw⟩,[(14,ae m),(13,aF fb),(12,ae q),(11,ae z4),(7,av vv),(3,aF W),(2,aF b1)]⟩:AS) _;refine go 4 ?_;by_cases hm0:0<m
   ·refine aI J fN (go 2 ?_);by_cases hq1:0<q
    ·refine aI J fN (go 9 ?_);refine yb (λg:Nat×Bool×Nat=>(⟨264,g.1::(aR vP++(fb::(aR vF++(aR vv++[W,S,b1])))),⟨⟨g.1,69,[ah (bytes [112,UInt8.ofNat (48+m)]),bG g.2.1]⟩::⟨fb,67,[ah nm,.val vP,aK]⟩::⟨S,54,[.sl l.length (l.map λi=>aA i),ap g.2.2]⟩::⟨W,56,[.val (.pointer (some ⟨S,0,none⟩)),(aB am gs),(aB aT ms),.val vF,aA 24,bG ar]⟩::⟨b1,27,[aK,aK,aK]⟩::bx,⟨vP,69,2,qs.length,qs.flatMap cC⟩::⟨vF,67,3,sg.length,(sg.map be).flatMap de⟩::⟨vv,9,1,gs.length,cj (gs.map b_.name)⟩::rw⟩,[(15,av (.pointer (some ⟨g.1,0,none⟩))),(14,ae m),(13,aF fb),(12,ae q),(11,ae z4),(7,av vv),(3,aF W),(2,aF b1)]⟩:AS)) (λg=>g.2.2 <= l.length) ?_ ?_
     ·refine cB [fb,W,b1] (aa [0] 14 (go 2 ?_));refine ac 1 J (ll (m:=48)) ?_;refine ac 2 J (xo J J Y J J J) (aa [6,7,8,9] 8 (go 5 ?_));refine three 3 10 13 aQ J J J J J J ?_ ?_ ?_;focus
       refine (bV (r:=ca [UInt8.ofNat (48+m)]) ko ?_);refine ac 4 J (lp J J J) ?_;refine ac 5 J (pR (c:=112) (d:=UInt8.ofNat (48+m)) J J J J J J) ?_;refine cA 10 13 J ?_ ?_;focus
        refine (bm [S] J J V fG J (fW [_] _ _ _ l iq _ hiq hl V V) dd db ij ?_);rintro r6 s6 ⟨z6,i6,rfl,hy6,hi6,rfl⟩;refine ac 11 J (fC (decide (0<z6)) J J J jz) (cY [(12,true),(13,false),(14,false)] 0 (go 4 λb12=>?_))
       rotate_left;refine (jm J J V Ch J λb12=>?_);refine aW 10 J J (bm [S] J J V fG J (fW [_,_] _ _ _ l iq _ hiq hl V V) dd db ij ?_);rintro r6 s6 ⟨z6,i6,rfl,hy6,hi6,rfl⟩;refine ac 11 J (fC (decide (0<z6)) J J J jz) (cY [(12,true),(14,false)] 0 (go 3 ?_))
      rotate_left 2;focus
       refine (bm [S] J J V fG J (fW [_] _ _ _ l iq _ hiq hl V V) dd db ij ?_);rintro r6 s6 ⟨z6,i6,rfl,hy6,hi6,rfl⟩;refine ac 11 J (fC (decide (0<z6)) J J J jz) ?_;refine cA 3 13 J ?_ ?_;focus
        refine (bV (r:=ca [UInt8.ofNat (48+m)]) ko ?_);refine ac 4 J (lp J J J) ?_;refine ac 5 J (pR (c:=112) (d:=UInt8.ofNat (48+m)) J J J J J J) (cY [(12,true),(13,false),(14,false)] 0 (go 4 λb12=>?_))
       rotate_left;refine (jm J J V Ch J λb12=>?_);refine aW 3 J J (bV (r:=ca [UInt8.ofNat (48+m)]) ko ?_);refine ac 4 J (lp J J J) ?_;refine ac 5 J (pR (c:=112) (d:=UInt8.ofNat (48+m)) J J J J J J) (cY [(12,true),(14,false)] 0 (go 3 ?_))
      rotate_left 2;focus
       refine (jm J J V Ch J λb12=>?_);refine cA 3 10 J ?_ ?_;focus
        refine (bV (r:=ca [UInt8.ofNat (48+m)]) ko ?_);refine ac 4 J (lp J J J) ?_;refine ac 5 J (pR (c:=112) (d:=UInt8.ofNat (48+m)) J J J J J J) ?_;refine aW 10 J J (bm [S] J J V fG J (fW [_,_] _ _ _ l iq _ hiq hl V V) dd db ij ?_);rintro r6 s6 ⟨z6,i6,rfl,hy6,hi6,rfl⟩;refine ac 11 J (fC (decide (0<z6)) J J J jz) (cY [(12,true),(14,false)] 0 (go 3 ?_))
       rotate_left;refine (bm [S] J J V fG J (fW [_,_] _ _ _ l iq _ hiq hl V V) dd db ij ?_);rintro r6 s6 ⟨z6,i6,rfl,hy6,hi6,rfl⟩;refine ac 11 J (fC (decide (0<z6)) J J J jz) ?_;refine aW 3 J J (bV (r:=ca [UInt8.ofNat (48+m)]) ko ?_);refine ac 4 J (lp J J J) ?_;refine ac 5 J (pR (c:=112) (d:=UInt8.ofNat (48+m)) J J J J J J) (cY [(12,true),(14,false)] 0 (go 3 ?_))
      all_goals
       refine bH ?_;exact ⟨J,(b12,decide (0<z6),i6),hi6,bD (λ_ h=>h)⟩
     rintro ⟨pb,mx,i2⟩ hi2;dsimp only at hi2;show br prog _ (⟨264,pb::(aR vP++(fb::(aR vF++(aR vv++[W,S,b1])))),⟨⟨pb,69,[ah (bytes [112,UInt8.ofNat (48+m)]),bG mx]⟩::⟨fb,67,[ah nm,.val vP,aK]⟩::⟨S,54,[.sl l.length (l.map λi=>aA i),ap i2]⟩::⟨W,56,[.val (.pointer (some ⟨S,0,none⟩)),(aB am gs),(aB aT ms),.val vF,aA 24,bG ar]⟩::⟨b1,27,[aK,aK,aK]⟩::bx,⟨vP,69,2,qs.length,qs.flatMap cC⟩::⟨vF,67,3,sg.length,(sg.map be).flatMap de⟩::⟨vv,9,1,gs.length,cj (gs.map b_.name)⟩::rw⟩,[(15,aF pb),(14,ae m),(13,aF fb),(12,ae q),(11,ae z4),(7,av vv),(3,aF W),(2,aF b1)]⟩:AS) _;refine go 4 ?_;refine aX J (bV (hf:=dc cC cC ⟨bytes [112,UInt8.ofNat (48+m)],mx⟩ J J J) yg ?_);refine aX J (dQ [] Fc J J V cN Y (@length_append _ qs [⟨bytes [112,UInt8.ofNat (48+m)],mx⟩]).symm fu cm (dj (f:=cC)).symm λv6=>?_);refine go 7 ?_;refine aD J (jq ((m-1:Nat):Int)) (go 2 ?_);refine ⟨(m-1,v6,qs++[⟨bytes [112,UInt8.ofNat (48+m)],mx⟩],i2),⟨by show m-1+List.length (qs++[⟨bytes [112,UInt8.ofNat (48+m)],mx⟩])=z5;simp only [length_append,length_cons,length_nil];omega,λh=>absurd h Y,hqs.snoc (by show bytes [112,UInt8.ofNat (48+m)]=_;rw [show z5-qs.length=m by omega]),hi2⟩,by show m-1<m;omega,bD (h1:=bI) fD⟩
    refine aG J eR (go 8 ?_);exact ⟨J,(vP,qs,iq),⟨⟨by show qs.length <= 2;omega,λk h=>by rw [hq0 Y] at h;simp at h⟩,hq0,hiq⟩,bD (λ_ h=>h)⟩
   refine aG J eR (go 11 ?_);exact ⟨J,(vP,qs,iq),⟨⟨by show qs.length <= 2;omega,λk h=>by rw [hqs k h,show z5-k=qs.length-k by omega]⟩,hq0,hiq⟩,bD (λ_ h=>h)⟩
  rintro ⟨vP,qs,iq⟩ ⟨hqs,hq0,hiq⟩;dsimp only at hqs hq0 hiq;show br prog _ (⟨264,aR vP++(fb::(aR vF++(aR vv++[W,S,b1]))),⟨⟨fb,67,[ah nm,.val vP,aK]⟩::⟨S,54,[.sl l.length (l.map λi=>aA i),ap iq]⟩::⟨W,56,[.val (.pointer (some ⟨S,0,none⟩)),(aB am gs),(aB aT ms),.val vF,aA 24,bG ar]⟩::⟨b1,27,[aK,aK,aK]⟩::bx,⟨vP,69,2,qs.length,qs.flatMap cC⟩::⟨vF,67,3,sg.length,(sg.map be).flatMap de⟩::⟨vv,9,1,gs.length,cj (gs.map b_.name)⟩::rw⟩,[(13,aF fb),(12,ae q),(11,ae z4),(7,av vv),(3,aF W),(2,aF b1)]⟩:AS) _;refine Rn [] 1 J J ?_;refine cB [fb,S,b1] (aa [0,1,2,3,4,6] 7 (go 7 ?_));refine cA 5 7 J ?_ ?_;focus
   refine dO J V (cV [_,_] mo m7) ?_;refine aW 7 J J (bV (hf:=dc de de (be (nm,qs)) J J J) uK ?_)
  rotate_left;refine (bV (hf:=dc de de (be (nm,qs)) J J J) uK ?_);refine aW 5 J J (dO J V (cV [_,_] mo m7) ?_);all_goals
   refine aW 8 J J (dQ [] IW J J V cN Y (@length_append _ sg [(nm,qs)]).symm (λhn b hb=>gZ hn hb) cm (show (sg.map be).flatMap de++[be (nm,qs)].flatMap de=((sg++[(nm,qs)]).map be).flatMap de by simp) λv6=>?_);refine cY [(9,true),(10,true),(11,true),(12,false)] 0 (go 5 ?_);refine bH (go 4 ?_);refine aD J (ll (k:=1)) (go 2 ?_);refine ⟨(q+1,v6,sg++[(nm,qs)],iq),⟨by show q+1 <= z4+1;omega,by show List.length (sg++[(nm,qs)])=q+1;simp only [length_append,length_cons,length_nil];omega,hsg.snoc (by rw [hsq];exact ⟨hnm,hq0,hqs⟩),hiq⟩,by show z4+1-(q+1)<z4+1-q;omega,bD (h1:=bI) fD⟩
 refine aG J eR (go 11 ?_);have hs1:1 <= sg.length /\ sg.length <= 4:=Y;refine go 4 ?_;refine sb [] Y λgF gc hgF=>?_;subst hgF;refine f9 (λg:Nat×Nat×Nat×List bB=>(⟨264,(gF::(aR vv++[W,S,b1])),⟨⟨S,54,[.sl l.length (l.map λi=>.val (.int .i64 i)),ap g.2.2.1]⟩::⟨W,56,[.val (.pointer (some ⟨S,0,none⟩)),(.sl gs.length (gs.flatMap am)),(.sl ms.length (ms.flatMap aT)),(.val (.slice (some ⟨gF,0,none⟩) sg.length gc)),ap g.2.1,.val (.bool ar)]⟩::⟨b1,27,[.val (.slice none 0 0),.val (.slice none 0 0),.val (.slice none 0 0)]⟩::bx,⟨.slice (some ⟨gF,0,none⟩) sg.length gc,67,3,sg.length,(fK sg g.2.2.2).flatMap de⟩::⟨vv,9,1,gs.length,cj (gs.map b_.name)⟩::rw⟩,[(16,ae g.1),(7,.c (.val vv)),(3,aF W),(2,aF b1)]⟩:AS)) (λg=>g.1 <= sg.length /\ g.2.2.2.length=g.1 /\ g.2.2.2.map bB.sig=sg.take g.1 /\ I6 ms sg gs g.2.1 g.2.2.2 /\ g.2.1 <= 24 /\ g.2.2.1 <= l.length) (λg=>sg.length-g.1) (0,24,ik,[]) (bD O6) ⟨eT _,J,aL,λ_ h=>h,bX _,hik⟩ ?_;clear hik hq;rintro ⟨i4,lf,iw,ds⟩ ⟨hi4,hds,hdm,hbt,hlf,hiw⟩;dsimp only at hi4 hds hdm hbt hlf hiw;subst hds;show br prog _ (⟨264,(gF::(aR vv++[W,S,b1])),⟨⟨S,54,[.sl l.length (l.map λi=>aA i),ap iw]⟩::⟨W,56,[.val (.pointer (some ⟨S,0,none⟩)),(aB am gs),(aB aT ms),(.val (.slice (some ⟨gF,0,none⟩) sg.length gc)),ap lf,bG ar]⟩::⟨b1,27,[aK,aK,aK]⟩::bx,⟨.slice (some ⟨gF,0,none⟩) sg.length gc,67,3,sg.length,(fK sg ds).flatMap de⟩::⟨vv,9,1,gs.length,cj (gs.map b_.name)⟩::rw⟩,[(16,ae ds.length),(7,av vv),(3,aF W),(2,aF b1)]⟩:AS) _;refine go 10 ?_;by_cases ws:ds.length<sg.length
 ·have hmz:=R3 hms;have hfp:=YU hsg hdm;have hps:sg[ds.length].2.length <= 2:=(hsg _ ws).2.2.1;refine aI J fN (go 9 ?_);refine aX J (fE o0 iK λg0=>?_);refine go 1 ?_;refine aX J (QL (ds:=cj (gs.map b_.name)) (m:=gs.length) [] Tryz.t9 16 J J V J J aL o0 aQ J J J J V cN Y (show 0+gs.length=(qK gs (sg[ds.length].2.take 0)).length by simp [qK]) (λ_ b hb=>tS) (λb hb=>tS) aL (show []++cj (gs.map b_.name)=cj (qK gs (sg[ds.length].2.take 0)) by simp [qK]) λu0=>?_);refine go 10 ?_;refine f9 (λg:Nat×aN×List aH=>(⟨264,aR g.2.1++(gF::(aR vv++[W,S,b1])),⟨⟨S,54,[.sl l.length (l.map λi=>aA i),ap iw]⟩::⟨W,56,[.val (.pointer (some ⟨S,0,none⟩)),(aB am gs),(aB aT ms),(.val (.slice (some ⟨gF,0,none⟩) sg.length gc)),ap lf,bG ar]⟩::⟨b1,27,[aK,aK,aK]⟩::bx,⟨g.2.1,9,1,g.2.2.length,cj g.2.2⟩::⟨.slice (some ⟨gF,0,none⟩) sg.length gc,67,3,sg.length,(fK sg ds).flatMap de⟩::⟨vv,9,1,gs.length,cj (gs.map b_.name)⟩::rw⟩,[(18,ae g.1),(17,av g.2.1),(16,ae ds.length),(7,av vv),(3,aF W),(2,aF b1)]⟩:AS)) (λg=>g.1 <= sg[ds.length].2.length /\ g.2.2=qK gs (sg[ds.length].2.take g.1)) (λg=>sg[ds.length].2.length-g.1) (0,u0,qK gs (sg[ds.length].2.take 0)) (bD H9) ⟨eT _,J⟩ ?_;rintro ⟨j,u,us⟩ ⟨hj,hus⟩;dsimp only at hj hus;have hul:us.length <= 4:=by have h1:(sg[ds.length].2.take j).length <= 2:=Am;have h2:=Fv (λx:bg=>!x.mutex) (sg[ds.length].2.take j);rw [hus,qK,length_append,gI,gI];omega
  show br prog _ (⟨264,aR u++(gF::(aR vv++[W,S,b1])),⟨⟨S,54,[.sl l.length (l.map λi=>aA i),ap iw]⟩::⟨W,56,[.val (.pointer (some ⟨S,0,none⟩)),(aB am gs),(aB aT ms),(.val (.slice (some ⟨gF,0,none⟩) sg.length gc)),ap lf,bG ar]⟩::⟨b1,27,[aK,aK,aK]⟩::bx,⟨u,9,1,us.length,cj us⟩::⟨.slice (some ⟨gF,0,none⟩) sg.length gc,67,3,sg.length,(fK sg ds).flatMap de⟩::⟨vv,9,1,gs.length,cj (gs.map b_.name)⟩::rw⟩,[(18,ae j),(17,av u),(16,ae ds.length),(7,av vv),(3,aF W),(2,aF b1)]⟩:AS) _;refine go 10 ?_;refine aD J (ey ds.length J J J J ws fU dn) ?_;refine aD J (AY 1 (0+ds.length*3+1) J J nE J mN V J) ?_;refine aD J (m0 (g:=gF) (k:=sg.length) (cap:=gc) (E0:=67) (zz:=3) (cs:=(fK sg ds).flatMap de) tQ mN (GU ws)) (go 1 ?_);by_cases aMj:j<sg[ds.length].2.length
  ·refine aI J fN (go 15 ?_);refine aD J (ey ds.length J J J J ws fU dn) ?_;refine aD J (AY 1 (0+ds.length*3+1) J J nE J mN V J) ?_;refine aD J (m0 (g:=gF) (k:=sg.length) (cap:=gc) (E0:=67) (zz:=3) (cs:=(fK sg ds).flatMap de) tQ mN (GU ws)) (go 1 ?_);refine aD J (bf cC cC sg[ds.length].2 iU (λ_=>J) j J J J J Y V iO gj) (go 2 ?_);refine aD J (jE  J J) (go 2 ?_);refine im J (λhc17=>?_) (λhc17=>?_)
   ·have hmt:sg[ds.length].2[j].mutex=false:=by simpa using hc17
    refine go 8 ?_;refine aD J (ey ds.length J J J J ws fU dn) ?_;refine aD J (AY 1 (0+ds.length*3+1) J J nE J mN V J) ?_;refine aD J (m0 (g:=gF) (k:=sg.length) (cap:=gc) (E0:=67) (zz:=3) (cs:=(fK sg ds).flatMap de) tQ mN (GU ws)) (go 1 ?_);refine aD J (bf cC cC sg[ds.length].2 iU (λ_=>J) j J J J J Y V iO gj) (go 2 ?_);refine aX J (bV (r:=cj [sg[ds.length].2[j].name]) io ?_);refine aX J (dQ [] pC J J V cN Y (@length_append _ us [sg[ds.length].2[j].name]).symm fu cm (fL (f:=λx=>aO.val (.string x))).symm λv5=>?_);refine go 6 ?_;refine aD J (ll (k:=1)) (go 2 ?_);refine ⟨(j+1,v5,(us++[sg[ds.length].2[j].name])),⟨Jy,by show (us++[sg[ds.length].2[j].name])=_;rw [KI gs sg[ds.length].2 j aMj,hus,if_neg (by rw [hmt];decide)]⟩,J2,bD H9⟩
   have hmt:sg[ds.length].2[j].mutex=true:=by simpa using hc17
   refine go 5 ?_;refine aD J (ll (k:=1)) (go 2 ?_);refine ⟨(j+1,u,us),⟨Jy,by show us=_;rw [KI gs sg[ds.length].2 j aMj,hus,if_pos hmt,eV]⟩,J2,bD H9⟩
  refine aG J eR (go 8 ?_);refine cB [b1] (aa [0,1,2,3,5,6,7,8,9,10,12,15] 8 (go 13 ?_));refine cA 4 11 J ?_ ?_;focus
   refine dO J V (cV [_] mo m7) ?_;refine aW 11 J J (dO J V (cV [_] mo m7) ?_);refine ac 13 J (ey ds.length J J J J ws fU dn) ?_;refine aW 14 J J (dO J V (m0 (g:=gF) (k:=sg.length) (cap:=gc) (E0:=67) (zz:=3) (cs:=(fK sg ds).flatMap de) oP dn (GF ws)) ?_);refine aW 16 J J (bm [S,W] J J V call24 J (A7 _ S W l ms sg[ds.length].2 sg[ds.length].1 _ _ ar (fK sg ds) gF gc hl hmN.1 Y hmz Y sw sw hfp sg.length (xD Y) lf [] [] _ _ us iw 2 6 hiw V V Y aL) jT tf wn ?_);rintro r5 s5 ⟨b5l,i5,l5,rfl,hm5,hi5,rfl⟩;have hbm:=hm5;rw [zd sg ds hdm,hus,take_of_length_le Y] at hbm
  rotate_left;focus
   refine dO J V (cV [_] mo m7) ?_;refine ac 13 J (ey ds.length J J J J ws fU dn) ?_;refine cA 4 14 J ?_ ?_;focus
    refine dO J V (cV [_] mo m7) ?_;refine aW 14 J J (dO J V (m0 (g:=gF) (k:=sg.length) (cap:=gc) (E0:=67) (zz:=3) (cs:=(fK sg ds).flatMap de) oP dn (GF ws)) ?_);refine aW 16 J J (bm [S,W] J J V call24 J (A7 _ S W l ms sg[ds.length].2 sg[ds.length].1 _ _ ar (fK sg ds) gF gc hl hmN.1 Y hmz Y sw sw hfp sg.length (xD Y) lf [] [] _ _ us iw 2 6 hiw V V Y aL) jT tf wn ?_);rintro r5 s5 ⟨b5l,i5,l5,rfl,hm5,hi5,rfl⟩;have hbm:=hm5;rw [zd sg ds hdm,hus,take_of_length_le Y] at hbm
   rotate_left;focus
    refine dO J V (m0 (g:=gF) (k:=sg.length) (cap:=gc) (E0:=67) (zz:=3) (cs:=(fK sg ds).flatMap de) oP dn (GF ws)) ?_;refine cA 4 16 J ?_ ?_;focus
     refine dO J V (cV [_] mo m7) ?_;refine aW 16 J J (bm [S,W] J J V call24 J (A7 _ S W l ms sg[ds.length].2 sg[ds.length].1 _ _ ar (fK sg ds) gF gc hl hmN.1 Y hmz Y sw sw hfp sg.length (xD Y) lf [] [] _ _ us iw 2 6 hiw V V Y aL) jT tf wn ?_);rintro r5 s5 ⟨b5l,i5,l5,rfl,hm5,hi5,rfl⟩;have hbm:=hm5;rw [zd sg ds hdm,hus,take_of_length_le Y] at hbm
    rotate_left;refine (bm [S,W] J J V call24 J (A7 _ S W l ms sg[ds.length].2 sg[ds.length].1 _ _ ar (fK sg ds) gF gc hl hmN.1 Y hmz Y sw sw hfp sg.length (xD Y) lf [] [] _ _ us iw 2 6 hiw V V Y aL) jT tf wn ?_);rintro r5 s5 ⟨b5l,i5,l5,rfl,hm5,hi5,rfl⟩;have hbm:=hm5;rw [zd sg ds hdm,hus,take_of_length_le Y] at hbm;refine aW 4 J J (dO J V (cV [_] mo m7) ?_)
  all_goals
   refine ac 17 J (ey ds.length J J J J ws fU dn) ?_;refine ac 18 J (AY 2 (0+ds.length*3+2) J J nE J iV V J) ?_;refine aW 19 J J (lM [_] J J J J J iV J (LF ws b5l).2 (LF ws b5l).1 aL (λhn=>cx (r:=(⟨.slice (some ⟨gF,0,none⟩) sg.length gc,67,3,sg.length,(fK sg ds).flatMap de⟩:aP)) hn iB) ?_);refine bH (go 4 ?_);refine aD J (ll (k:=1)) (go 2 ?_);refine ⟨(ds.length+1,l5,i5,ds++[(⟨sg[ds.length].1,sg[ds.length].2,b5l⟩:bB)]),⟨by show ds.length+1 <= sg.length;omega,by show (ds++[(⟨sg[ds.length].1,sg[ds.length].2,b5l⟩:bB)]).length=ds.length+1;simp,by show (ds++[(⟨sg[ds.length].1,sg[ds.length].2,b5l⟩:bB)]).map bB.sig=sg.take (ds.length+1);rw [fL,hdm,gz ws];rfl,(λrest hr=>by rw [append_assoc];exact hbt _ (.cons hbm hr)),by show l5 <= 24;have:=hm5.le;omega,hi5⟩,by show sg.length-(ds.length+1)<sg.length-ds.length;omega,bD (h2:=bI) O6⟩
 refine aG J eR (go 10 ?_);have hdl:ds.length=sg.length:=Y;have hmp:=Ru hmN hms hgN hgs hs1 hsg hdl hdm ⟨_,hbt⟩;refine eD [_] 3 J J ?_;rw [Un hdl,←hdl];refine go 8 ?_;exact ⟨.inr J,_,⟨bx,rw⟩,bK J (bu [_,_] J J oK oA (cH J J)),ai eZ bI,⟨⟨gs,ms,ds⟩,J,hmp,J⟩⟩
end
section
def kp{s:aH}(h:cG s=true):s.size <= 16:=by
 unfold cG at h;split at h
 ·cases h
 simp only [di,decide_eq_true_eq] at h;exact h.1.2
def fH.nodes{names:List aH}{d:Nat}{e:aS}(h:fH names d e):e.nodes+3 <= 4*2 ^ d:=by
 induction h with
 |@name d x h=>rw [aS.nodes,d2];have:=uv (n:=d);omega
 |@num d n h0 h1=>rw [aS.nodes,d2];have:=uv (n:=d);omega
 |@un d op e ho he ih=>rw [aS.nodes,d2,d2,yG];have:=uv (n:=d);omega
 |@bin d op a b h0 h1 ha hb iha ihb=>rw [aS.nodes,d2,d2,d2,yG];have:=uv (n:=d);omega
def fH.Fk{names:List aH}{d:Nat}{e:aS}(hn:∀x,x∈names -> cG x=true)(h:fH names d e):e.Fk:=by
 induction h with
 |@name d x h=>rw [aS.Fk];exact ⟨V,iS (kp (hn x h)) V,by rw [nS];trivial⟩
 |@num d n h0 h1=>rw [aS.Fk];exact ⟨Y,V,by rw [nS];trivial⟩
 |@un d op e ho he ih=>rw [aS.Fk];exact ⟨V,V,by rw [nS,nS];exact ⟨ih,trivial⟩⟩
 |@bin d op a b h0 h1 ha hb iha ihb=>rw [aS.Fk];exact ⟨V,V,by rw [nS,nS,nS];exact ⟨iha,ihb,trivial⟩⟩
def OK{op:Int}(h0:5 <= op)(h1:op <= 17):dN op<5:=by
 unfold dN
 repeat' split
 all_goals omega
def TI{op:Int}(h:op=3∨op=4):dN op=5:=by
 rcases h with rfl|rfl<;>rfl
def fH.shape{names:List aH}{d:Nat}{e:aS}(hn:∀x,x∈names -> cG x=true)(h:fH names d e):dv e=true:=by
 induction h with
 |@name d x h=>
  rw [dv,fO,show dN 2=6 from rfl,if_pos rfl,lh,arity,show dN 2=6 from rfl,if_pos rfl,hn x h];simp
 |@num d n h0 h1=>
  rw [dv,fO,show dN 1=6 from rfl,if_pos rfl,lh,arity,show dN 1=6 from rfl,if_pos rfl];simp [h0]
 |@un d op e ho he ih=>
  have hs:=TI ho;rw [dv,fO,fO,arity,hs,if_neg V,if_neg V,if_pos rfl,ih];simp
 |@bin d op a b h0 h1 ha hb iha ihb=>
  have hs:=OK h0 h1;rw [dv,fO,fO,fO,arity,if_neg Y,if_neg Y,if_neg Y,iha,ihb];simp
def fH.aKq{names:List aH}{d:Nat}{e:aS}(h:fH names d e):iJ e <= 2*d:=by
 induction h with
 |@name d x h=>rw [iJ,jH,if_neg V];omega
 |@num d n h0 h1=>rw [iJ,jH,if_neg V];omega
 |@un d op e ho he ih=>rw [iJ,jH,jH];split<;>split<;>omega
 |@bin d op a b h0 h1 ha hb iha ihb=>rw [iJ,jH,jH,jH];split<;>split<;>split<;>omega
def fH.valid{names:List aH}{d:Nat}{e:aS}(hn:∀x,x∈names -> cG x=true)(h:fH names d e)(hd:d <= 12):fJ e=true:=by
 rw [fJ,h.shape hn,yw,decide_eq_true_eq];have:=h.aKq;omega
def fH.bt{names:List aH}{d:Nat}{e:aS}(hn:∀x,x∈names -> cG x=true)(h:fH names d e):e.bt:=by
 induction h with
 |@name d x h=>rw [aS.bt];exact ⟨y4,iS (kp (hn x h)) V,by rw [jD];trivial⟩
 |@num d n h0 h1=>rw [aS.bt];exact ⟨y4,V,by rw [jD];trivial⟩
 |@un d op e ho he ih=>rw [aS.bt];exact ⟨y4,V,by rw [jD,jD];exact ⟨ih,trivial⟩⟩
 |@bin d op a b h0 h1 ha hb iha ihb=>rw [aS.bt];exact ⟨y4,V,by rw [jD,jD,jD];exact ⟨iha,ihb,trivial⟩⟩
def EH{n:Int}(h0:-9223372036854775808 <= n)(h1:n <= 9223372036854775807):(fT n).length <= 21:=by
 have:=zt n.natAbs Y;unfold fT;split<;>simp<;>omega
def fH.len{names:List aH}{d:Nat}{e:aS}(hn:∀x,x∈names -> cG x=true)(h:fH names d e):(bv e).length+10 <= 31*2 ^ d:=by
 induction h with
 |@name d x h=>
  have h1:=kp (hn x h);have h2:x.data.toList.length=x.size:=J;rw [bv,kH,if_neg V,if_pos rfl];have:=uv (n:=d);omega
 |@num d n h0 h1=>
  have:=EH (n:=n) Y Y;rw [bv,kH,if_pos rfl];have:=uv (n:=d);omega
 |@un d op e ho he ih=>
  rw [bv,kF,kF,yG];have hl:∀x:List UInt8,(kH op 0 a_ [x]).length=x.length+1:=by
   intro x;rcases ho with rfl|rfl<;>simp [kH]
  rw [hl];have:=uv (n:=d);split
  ·simp only [length_append,length_cons,length_nil];omega
  ·omega
 |@bin d op a b h0 h1 ha hb iha ihb=>
  rw [bv,kF,kF,kF,yG];have hs:=OK h0 h1;have ho:=Lq op;have hl:∀x y:List UInt8,(kH op 0 a_ [x,y]).length=x.length+1+(oF op).length+1+y.length:=by
   intro x y;rw [kH,if_neg Y,if_neg Y,if_neg Y,if_neg Y,if_pos hs];simp;omega
  rw [hl];split<;>split<;>(try simp only [length_append,length_cons,length_nil])<;>omega
end
section
def aS.ip:aS.zero.bt:=by unfold aS.zero;rw [aS.bt];exact ⟨y4,V,by rw [jD];trivial⟩
def cL.ip:cL.zero.bt:=⟨V,Fe⟩
def aS.qr:aS.zero.nodes=1:=by unfold aS.zero;rw [aS.nodes,d2]
def cL.sh:cL.zero.wt=1:=by unfold cL.wt cL.zero;rw [d2]
def q9(l:List ByteArray):Prop:=∀x,x∈l -> cG x=true
def C0:kz .zero=true:=by simp [kz,aS.zero,aS.op,aS.num,aS.name,aS.args]
def Fg:lu .zero=true:=by simp [lu,cL.zero]
section
variable {ms:List cn}{fs:List iR}{ps:List bg}
theorem ma.ok{vars:List aH}{r:cL}(hm:∀m,m∈ms -> cG m.name=true)(hp:∀x,x∈ps -> cG x.name=true)(hv:q9 vars)(h:ma ms ps vars r):
  okRefB r=true /\ (r.bt /\ r.wt <= 7) /\ (fi r).length <= 70:=by
 have size:∀x:aH,cG x=true -> x.data.toList.length <= 16:=λx h=>kp h;cases h with
 |@arr m e h1 h2 he=>
  have hl:=he.len hv;have:=size _ (hm m h1);refine ⟨by show (cG m.name && fJ e)=true;rw [hm m h1,he.valid hv Y];rfl,⟨⟨iS (kp (hm m h1)) V,by show jD [e];rw [jD,jD];exact ⟨he.bt hv,trivial⟩⟩,by have:=he.nodes;unfold cL.wt;show 1+d2 [e] <= 7;rw [d2,d2];omega⟩,?_⟩
  ·simp only [fi,length_append,length_cons,length_nil];omega
 |@scalar m h1 h2=>
  have:=size _ (hm m h1);exact ⟨by show (cG m.name && true)=true;rw [hm m h1];rfl,⟨⟨iS (kp (hm m h1)) V,Fe⟩,N_⟩,by simp only [fi];omega⟩
 |@param x h1 h2=>
  have:=size _ (hp x h1);exact ⟨by show (cG x.name && true)=true;rw [hp x h1];rfl,⟨⟨iS (kp (hp x h1)) V,Fe⟩,N_⟩,by simp only [fi];omega⟩
theorem Ha{α:Type}(f:α -> List UInt8)(x:α)(l:List α):(dL f (x::l)).length <= (f x).length+2+(dL f l).length:=by
 cases l with
 |nil=>simp [dL]
 |cons y r=>simp [dL];omega
theorem mr.ok{vars:List aH}{l:List bg}{al:List cI}(hm:∀m,m∈ms -> cG m.name=true)(hp:∀x,x∈ps -> cG x.name=true)(hv:q9 vars)(h:mr ms ps vars l al):
  al.all fX=true /\ ((∀a,a∈al -> a.bt) /\ dz al <= 15*l.length) /\ al.length=l.length /\ (dL eu al).length <= 122*l.length:=by
 induction h with
 |nil=>exact ⟨rfl,⟨(λa h=>rh),by rw [dz];simp⟩,rfl,xk⟩
 |@mutex x l al r hx hr h ih=>
  obtain ⟨i1,i2,i3,i4⟩:=ih;obtain ⟨h1,h2,h3⟩:=hr.ok hm hp hv;refine ⟨by rw [zB,i1,fX,if_pos rfl,h1,C0];rfl,⟨?_,?_⟩,by simp [i3],?_⟩
  ·intro a ha;rcases mem_cons.1 ha with rfl|ha
   ·exact ⟨h2.1,aS.ip⟩
   exact i2.1 a ha
  ·have:=i2.2;have:=h2.2;rw [dz];unfold cI.wt;rw [aS.qr,length_cons];show 1+r.wt+1+dz al <= _;omega
  ·have:=Ha eu ⟨true,r,.zero⟩ al;have h4:(eu ⟨true,r,.zero⟩).length=6+(fi r).length:=by simp [eu];omega
   rw [length_cons];omega
 |@expr x l al e hx he h ih=>
  obtain ⟨i1,i2,i3,i4⟩:=ih;have hl:=he.len hv;refine ⟨by rw [zB,i1,fX,if_neg aL,Fg,he.valid hv Y];rfl,⟨?_,?_⟩,by simp [i3],?_⟩
  ·intro a ha;rcases mem_cons.1 ha with rfl|ha
   ·exact ⟨cL.ip,he.bt hv⟩
   exact i2.1 a ha
  ·have:=i2.2;have:=he.nodes;rw [dz];unfold cI.wt;rw [cL.sh,length_cons];show 1+1+e.nodes+dz al <= _;omega
  have:=Ha eu ⟨false,.zero,e⟩ al;have h4:(eu ⟨false,.zero,e⟩).length=(bv e).length:=by simp [eu]
  rw [length_cons];omega
theorem JU:∀left,left<24 -> cG (kQ left)=true:=by
 intro left h;have:(List.range 24).all (λk=>cG (kQ k))=true:=aQ;exact e0.1 this left (oS.2 h)
end
def O4(D:Nat)(hD:D<24):∀(a b:List aE),dC D (a++b)=(dC D a && dC D b)
 |[],b=>by rw [cg,dC,decide_eq_true hD,yw]
 |s::r,b=>by rw [eA,dC,dC,O4 D hD r b,Bool.and_assoc]
def LY:∀(a b:List aE),eO (a++b)↔eO a /\ eO b
 |[],b=>by rw [cg,eO];simp
 |s::r,b=>by rw [eA,eO,eO,LY r b,and_assoc]
def Mm:∀(a b:List aE),au (a++b)=au a+au b
 |[],b=>by rw [cg,au];omega
 |s::r,b=>by rw [eA,au,au,Mm r b];omega
def pj:eO []:=by rw [eO];trivial
structure ou (D:Nat) (tabs:List UInt8) (n:Nat) (s:aE):Prop where
 ok:fw D s=true
 bt:s.bt
 wt:s.wt <= 60*n
 len:(d1 tabs s).length <= 700*n
structure pn (D:Nat) (tabs:List UInt8) (n:Nat) (l:List aE):Prop where
 ok:dC D l=true
 bt:eO l
 wt:au l <= 60*n
 len:(bT tabs l).length <= 700*n
def pn.cons{D n m k:Nat}{tabs:List UInt8}{s:aE}{l:List aE}(h:ou D tabs n s)(hl:pn D tabs m l)(hk:n+m <= k):pn D tabs k (s::l):=
 ⟨by rw [dC,h.ok,hl.ok];rfl,by rw [eO];exact ⟨h.bt,hl.bt⟩,by rw [au];have:=h.wt;have:=hl.wt;omega,by rw [bT,length_append];have:=h.len;have:=hl.len;omega⟩
def pn.cons'{D n m k:Nat}{tabs:List UInt8}{s:aE}{l:List aE}(hl:pn D tabs m l)(h:ou D tabs n s)(hk:n+m <= k):pn D tabs k (s::l):=pn.cons h hl hk
def pn.nil{D n:Nat}{tabs:List UInt8}(hD:D<24):pn D tabs n []:=
 ⟨by rw [dC];exact decide_eq_true hD,by rw [eO];trivial,by rw [au];omega,by rw [bT];simp⟩
section
variable {ms:List cn}{fs:List iR}{ps:List bg}
theorem ou.of{D n:Nat}{tabs:List UInt8}{k:Int}{name:aH}{e:aS}{r:cL}{al:List cI}{t el:List aE}
  (h0:1 <= k /\ k <= 9) (h1:(if 1 <= k /\ k <= 4 then cG name else decide (name=a_))=true) (h2:(if k=1∨k=2∨k=7∨k=8 then fJ e else kz e)=true)
  (h3:(if k=5∨k=6 then okRefB r else lu r)=true) (h4:(decide (k=3∨k=4)||decide (al.length=0))=true) (h5:al.all fX=true)
  (h6:(if k=7∨k=8 then dC (D+1) t else decide (t.length=0))=true) (h7:(decide (el.length=0)||(decide (k=7) && dC (D+1) el))=true)
  (hf:(aE.mk k name e r al t el).bt) (hc:(aE.mk k name e r al t el).wt <= 60*n) (hl:(d1 tabs (.mk k name e r al t el)).length <= 700*n):ou D tabs n (.mk k name e r al t el):=
 ⟨by rw [fw,decide_eq_true h0,h1,h2,h3,h4,h5,h6,h7];rfl,hf,hc,hl⟩
theorem Eh{x:aH}(h:cG x=true):x.data.toList.length <= 16:=kp h
theorem B8{D:Nat}{tabs:List UInt8}{vars:List aH}{k:Int}{r:cL}(hk:k=5∨k=6)(ht:tabs.length <= 4)(hm:∀m,m∈ms -> cG m.name=true)(hp:∀x,x∈ps -> cG x.name=true)(hv:q9 vars)(h:ma ms ps vars r):
  ou D tabs 1 (.mk k a_ .zero r [] [] []) /\ (d1 tabs (.mk k a_ .zero r [] [] [])).length <= 90:=by
 obtain ⟨h1,h2,h3⟩:=h.ok hm hp hv;have hl:(d1 tabs (.mk k a_ .zero r [] [] [])).length <= 90:=by
  rw [d1];rcases hk with rfl|rfl<;>simp<;>omega
 refine ⟨ou.of Y (by rw [if_neg Y];exact decide_eq_true rfl) (by rw [if_neg Y];exact C0) (by rw [if_pos hk];exact h1) aL J (by rw [if_neg Y];rfl) aL ?_ ?_ Y,hl⟩
 ·rw [aE.bt];exact ⟨V,aS.ip,h2.1,vz,pj,pj⟩
 rw [gM];show 1+aS.zero.nodes+r.wt+dz []+au []+au [] <= _;rw [aS.qr,dz,au];have:=h2.2;omega
theorem fB.ok{vars:List aH}{deep left left':Nat}{l:List aE}(hm:∀m,m∈ms -> cG m.name=true)(hp:∀x,x∈ps -> cG x.name=true)
  (hg:∀g,g∈fs -> cG g.1=true /\ g.2.length <= 2) (h:fB ms fs ps vars deep left l left'):
  q9 vars -> left <= 24 -> ∀(D:Nat)(tabs:List UInt8),D+deep<24 -> tabs.length+deep <= 4 -> pn D tabs (left-left') l:=by
 induction h with
 |nil=>intro _ _ D tabs hD _;exact .nil Y
 |lock hr h ih=>
  intro hv hl D tabs hD ht;have:=h.le;exact (ih hv Y D tabs hD ht).cons' (B8 (.inl J) Y hm hp hv hr).1 Y
 |unlock hr h ih=>
  intro hv hl D tabs hD ht;have:=h.le;exact (ih hv Y D tabs hD ht).cons' (B8 (.inr J) Y hm hp hv hr).1 Y
 |@var vars deep left left' e rest he h ih=>
  intro hv hl D tabs hD ht;have:=h.le;have hn:=JU left Y;have hnl:=Eh hn;have hns:=kp hn;have hel:=he.len hv;refine (ih (λx hx=>?_) Y D tabs hD ht).cons' (n:=1) (ou.of Y (by rw [if_pos V];exact hn) CG zj aL J Gn aL ?_ ?_ ?_) Y
  ·rcases mem_append.1 hx with hx|hx
   ·exact hv x hx
   simp only [jK] at hx;subst hx;exact hn
  ·rw [aE.bt];exact ⟨iS hns V,he.bt hv,cL.ip,vz,pj,pj⟩
  ·rw [gM];show 1+e.nodes+cL.zero.wt+dz []+au []+au [] <= _;rw [cL.sh,dz,au];have:=he.nodes;omega
  ·rw [d1];simp;omega
 |@assign vars deep left left' x e rest hx he h ih=>
  intro hv hl D tabs hD ht;have:=h.le;have hn:=hv x hx;have hnl:=Eh hn;have hns:=kp hn;have hel:=he.len hv;refine (ih hv Y D tabs hD ht).cons' (n:=1) (ou.of Y (by rw [if_pos V];exact hn) CG zj aL J Gn aL ?_ ?_ ?_) Y
  ·rw [aE.bt];exact ⟨iS hns V,he.bt hv,cL.ip,vz,pj,pj⟩
  ·rw [gM];show 1+e.nodes+cL.zero.wt+dz []+au []+au [] <= _;rw [cL.sh,dz,au];have:=he.nodes;omega
  ·rw [d1];simp;omega
 |@call vars deep left left' k g al rest hk hgm ha h ih=>
  intro hv hl D tabs hD ht;have:=h.le;obtain ⟨hn,hg2⟩:=hg g hgm;have hnl:=Eh hn;have hns:=kp hn;obtain ⟨a1,a2,a3,a4⟩:=ha.ok hm hp hv;refine (ih hv Y D tabs hD ht).cons' (n:=1) (ou.of Y (by rw [if_pos Y];exact hn) (by rw [if_neg Y];exact C0) (by rw [if_neg Y];exact Fg) (by rw [decide_eq_true hk];rfl) a1 (by rw [if_neg Y];rfl) aL ?_ ?_ ?_) Y
  ·rw [aE.bt];exact ⟨iS hns V,aS.ip,cL.ip,a2.1,pj,pj⟩
  ·rw [gM];show 1+aS.zero.nodes+cL.zero.wt+dz al+au []+au [] <= _;rw [aS.qr,cL.sh,au];have:=a2.2;omega
  ·have hat:(iI al).length <= 250:=by simp only [iI,length_append,length_cons,length_nil];omega
   rw [d1];rcases hk with rfl|rfl<;>simp<;>omega
 |@cond vars deep left l1 l2 left' e thn els rest he h1 h2 h3 i1 i2 i3=>
  intro hv hl D tabs hD ht;have:=h1.le;have:=h2.le;have:=h3.le;have hel:=he.len hv;have j1:=i1 hv Y (D+1) (tabs++[9]) Y dh;have j2:=i2 hv Y (D+1) (tabs++[9]) Y dh;refine (i3 hv Y D tabs hD ht).cons' (n:=1+(left-l1)+(l1-l2)) (ou.of Y IP CG zj aL J (by rw [if_pos V];exact j1.ok) (by rw [j2.ok];simp) ?_ ?_ ?_) Y
  ·rw [aE.bt];exact ⟨V,he.bt hv,cL.ip,vz,j1.bt,j2.bt⟩
  ·rw [gM];show 1+e.nodes+cL.zero.wt+dz []+au thn+au els <= _;rw [cL.sh,dz];have:=he.nodes;have:=j1.wt;have:=j2.wt;omega
  ·have:=j1.len;have:=j2.len;rw [d1,if_neg V,if_neg V,if_neg V,if_neg V,if_neg V,if_neg V,if_pos V,if_neg V];simp only [length_append,length_cons,length_nil];split<;>(try simp only [length_append,length_cons,length_nil])<;>omega
 |@loop vars deep left l1 left' e thn rest he h1 h3 i1 i3=>
  intro hv hl D tabs hD ht;have:=h1.le;have:=h3.le;have hel:=he.len hv;have j1:=i1 hv Y (D+1) (tabs++[9]) Y dh;refine (i3 hv Y D tabs hD ht).cons' (n:=1+(left-l1)) (ou.of Y IP CG zj aL J (by rw [if_pos V];exact j1.ok) aL ?_ ?_ ?_) Y
  ·rw [aE.bt];exact ⟨V,he.bt hv,cL.ip,vz,j1.bt,pj⟩
  ·rw [gM];show 1+e.nodes+cL.zero.wt+dz []+au thn+au [] <= _;rw [cL.sh,dz,au];have:=he.nodes;have:=j1.wt;omega
  ·have:=j1.len;rw [d1];simp;omega
 |@ret vars deep left left' rest h ih=>
  intro hv hl D tabs hD ht;have:=h.le;refine (ih hv Y D tabs hD ht).cons' (n:=1) (ou.of Y IP (by rw [if_neg V];exact C0) zj aL J Gn aL ?_ ?_ ?_) Y
  ·rw [aE.bt];exact ⟨V,aS.ip,cL.ip,vz,pj,pj⟩
  ·rw [gM];show 1+aS.zero.nodes+cL.zero.wt+dz []+au []+au [] <= _;rw [aS.qr,cL.sh,dz,au];omega
  ·rw [d1];simp;omega
 |@pair vars deep left l1 left' r mid rest hr h1 h3 i1 i3=>
  intro hv hl D tabs hD ht;have:=h1.le;have:=h3.le;have j1:=i1 hv Y D tabs Y Y;have j3:=i3 hv Y D tabs hD ht;obtain ⟨s5,t5⟩:=B8 (D:=D) (tabs:=tabs) (.inl rfl) Y hm hp hv hr;obtain ⟨s6,t6⟩:=B8 (D:=D) (tabs:=tabs) (.inr rfl) Y hm hp hv hr;refine ⟨?_,?_,?_,?_⟩
  ·rw [dC,O4 D Y,dC,s5.ok,s6.ok,j1.ok,j3.ok];rfl
  ·rw [eO,LY,eO];exact ⟨s5.bt,j1.bt,s6.bt,j3.bt⟩
  ·have w5:∀k:Int,(aE.mk k a_ .zero r [] [] []).wt <= 20:=λk=>by rw [gM];show 1+aS.zero.nodes+r.wt+dz []+au []+au [] <= _;rw [aS.qr,dz,au];have:=(hr.ok hm hp hv).2.1.2;omega
   rw [au,Mm,au];have:=j1.wt;have:=j3.wt;have:=w5 5;have:=w5 6;omega
  rw [bT,Oh,bT];have:=j1.len;have:=j3.len;simp only [length_append];omega
end
def SO:∀i,i<4 -> cG (bytes [UInt8.ofNat (97+i)])=true:=by
 intro i h;have:(List.range 4).all (λk=>cG (bytes [UInt8.ofNat (97+k)]))=true:=aQ;exact e0.1 this i (oS.2 h)
def WA:∀i,i<4 -> cG (bytes [103,UInt8.ofNat (48+i)])=true:=by
 intro i h;have:(List.range 4).all (λk=>cG (bytes [103,UInt8.ofNat (48+k)]))=true:=aQ;exact e0.1 this i (oS.2 h)
def TQ:∀i,i<4 -> cG (bytes [112,UInt8.ofNat (48+i)])=true:=by
 intro i h;have:(List.range 4).all (λk=>cG (bytes [112,UInt8.ofNat (48+k)]))=true:=aQ;exact e0.1 this i (oS.2 h)
def UM:∀i,i<4 -> cG (bytes [102,UInt8.ofNat (48+i)])=true:=by
 intro i h;have:(List.range 4).all (λk=>cG (bytes [102,UInt8.ofNat (48+k)]))=true:=aQ;exact e0.1 this i (oS.2 h)
def Uc:cG (bytes [109,97,105,110])=true:=aQ
def wN.names{l:List bg}(h:wN l):∀x,x∈l -> cG x.name=true:=by
 intro x hx;obtain ⟨k,hk,rfl⟩:=mp hx;rw [h.2 k hk];have:=h.1;exact TQ _ Y
def Gw.name{i:Nat}{f:bB}(h:Gw i f)(hi:i<4):cG f.name=true:=by
 rcases xL i with h0|h0
 ·rw [(h.1 h0).1];exact Uc
 rw [h.2.1 h0];exact UM i hi
def py.all{ms:List cn}{fs:List iR}{gs:List b_}(hm:∀m,m∈ms -> cG m.name=true)(hg:∀g,g∈fs -> cG g.1=true /\ g.2.length <= 2)(hgl:∀g,g∈gs -> cG g.name=true)
  {left:Nat} {l:List bB} (h:py ms fs gs left l):left <= 24 -> (∀f,f∈l -> ∀x,x∈f.params -> cG x.name=true) -> ∀f,f∈l -> pn 0 [9] 24 f.body:=by
 induction h with
 |nil=>intro _ _ f hf;simp at hf
 |@cons left left' f l hb hl ih=>
  intro hle hps g hgm;have h1:=hb.le;have hv:q9 (yE gs f.params):=by
   intro x hx;simp only [yE,mem_append,lP,List.mem_filter] at hx;rcases hx with ⟨g,hg,rfl⟩|⟨y,⟨hy,_⟩,rfl⟩
   ·exact hgl g hg
   exact hps f aL y hy
  rcases mem_cons.1 hgm with rfl|hgm
  ·have:=hb.ok hm (hps g aL) hg hv hle 0 [9] Y aL;exact ⟨this.ok,this.bt,by have:=this.wt;omega,by have:=this.len;omega⟩
  exact ih Y (λf hf=>hps f (by simp [hf])) g hgm
def Ae{α:Type}(f:α -> List UInt8)(c:Nat):∀l:List α,(∀x,x∈l -> (f x).length <= c) -> ((l.map f).flatten).length <= c*l.length
 |[],_=>aL
 |x::r,h=>by
  have h1:=Ae f c r E_;have h2:=h x aL;simp only [dE,jZ,length_append,length_cons,Nat.mul_add,rZ];omega
def TP{x:bg}(h:cG x.name=true):(eY x).length <= 22:=by
 have:=kp h;rw [eY];split<;>simp<;>omega
def PW{α:Type}(f:α -> List UInt8)(c:Nat):∀l:List α,(∀x,x∈l -> (f x).length <= c) -> (dL f l).length <= (c+2)*l.length
 |[],_=>xk
 |x::r,h=>by
  have h1:=PW f c r E_;have h2:=h x aL;have h3:=Ha f x r;simp only [length_cons,Nat.mul_add,rZ];omega
structure UV (p:aY):Prop where
 form:j0 p=true
 bt:p.bt
 wt:p.wt <= 9000
 len:(iG p).length <= 75000
def BI.facts{p:aY}(h:BI p):UV p:=by
 obtain ⟨gs,ms,fs⟩:=p;obtain ⟨⟨hm1,hm2,hm⟩,⟨hg1,hg⟩,⟨hf1,hf2,hf⟩,hb⟩:=h;dsimp only at hm1 hm2 hm hg1 hg hf1 hf2 hf hb;have nm:∀m,m∈ms -> cG m.name=true:=by
  intro m hmm;obtain ⟨k,hk,rfl⟩:=mp hmm;rw [(hm k hk).1];exact SO k Y
 have ng:∀g,g∈gs -> cG g.name=true:=by
  intro g hgm;obtain ⟨k,hk,rfl⟩:=mp hgm;rw [(hg k hk).1];exact WA k Y
 have nf:∀f,f∈fs -> cG f.name=true /\ wN f.params:=by
  intro f hfm;obtain ⟨k,hk,rfl⟩:=mp hfm;exact ⟨(hf k hk).name Y,(hf k hk).2.2⟩
 have bodies:=hb.all nm (by
  intro g hgm;obtain ⟨f,hfm,rfl⟩:=lP.1 hgm;exact ⟨(nf f hfm).1,(nf f hfm).2.1⟩) ng (bX _) (λf hfm=>(nf f hfm).2.names)
 have lg:∀g,g∈gs -> (cS g).length <= 60 /\ g.init≠-9223372036854775808 /\ fit g.init:=by
  intro g hgm;have h1:=kp (ng g hgm);obtain ⟨k,hk,rfl⟩:=mp hgm;obtain ⟨_,h2,h3⟩:=hg k hk;have h4:=EH (n:=gs[k].init) Y Y;refine ⟨?_,Y,by constructor<;>omega⟩;rw [cS];split<;>simp<;>omega
 have lm:∀m,m∈ms -> (cf m).length <= 60 /\ iv m=true /\ fit m.size:=by
  intro m hmm;have h1:=kp (nm m hmm);have h0:=nm m hmm;obtain ⟨k,hk,rfl⟩:=mp hmm;have h2:0 <= ms[k].size /\ ms[k].size <= 3 /\ (ms[k].ex=true -> ms[k].size=0):=by
   rcases (hm k hk).2 with ⟨a,b,c⟩|⟨a,b⟩
   ·exact ⟨b,c,λh=>by rw [a] at h;cases h⟩
   exact ⟨Y,Y,λ_=>b⟩
  have h4:=EH (n:=ms[k].size) Y Y;refine ⟨?_,?_,by constructor<;>omega⟩
  ·rw [cf];split<;>split<;>simp<;>omega
  rw [iv,h0,decide_eq_true Y];cases hr:ms[k].ex with
  |false=>rfl
  |true=>rw [decide_eq_false (by have:=h2.2.2 hr;omega)];rfl
 have lf:∀f,f∈fs -> (funcText f).length <= 17000 /\ ga f=true:=by
  intro f hfm;obtain ⟨h0,h1⟩:=nf f hfm;have h2:=kp h0;have h3:=bodies f hfm;have h4:=h3.len;have h5:=PW eY 22 f.params (λx hx=>TP (h1.names x hx));have h6:=h1.1;refine ⟨?_,?_⟩
  ·rw [funcText];simp only [length_append,length_cons,length_nil];have:f.name.data.toList.length=f.name.size:=rfl;omega
  rw [ga,h0,decide_eq_true Y,h3.ok,e0.2 (λx hx=>h1.names x hx)];rfl
 have len:(iG ⟨gs,ms,fs⟩).length <= 75000:=by
  have h1:=Ae cS 60 gs (λg h=>(lg g h).1);have h2:=Ae cf 60 ms (λg h=>(lm g h).1);have h3:=Ae funcText 17000 fs (λg h=>(lf g h).1);rw [iG];simp only [length_append];omega
 refine ⟨?_,⟨λg h=>⟨(lg g h).2.2,iS (kp (ng g h)) V⟩,λm h=>⟨(lm m h).2.2,iS (kp (nm m h)) V⟩,λf h=>⟨iS (kp (nf f h).1) V,λx hx=>iS (kp ((nf f h).2.names x hx)) V,(bodies f h).bt⟩⟩,?_,len⟩
 ·unfold j0;rw [decide_eq_true pQ,e0.2 (λg h=>by rw [lK,ng g h,decide_eq_true (lg g h).2.1];rfl),e0.2 (λm h=>(lm m h).2.1),e0.2 (λf h=>(lf f h).2)];rfl
 unfold aY.wt;have h1:(fs.map bB.wt).sum <= 2000*fs.length:=by
  have:∀l:List bB,(∀f,f∈l -> f.wt <= 2000) -> (l.map bB.wt).sum <= 2000*l.length:=by
   intro l;induction l with
   |nil=>intro _;simp
   |cons f l ih=>intro hx;have:=ih (λg hg=>hx g (by simp [hg]));have:=hx f aL;simp only [dE,p_,length_cons];omega
  exact this fs (λf hfm=>by unfold bB.wt;have:=(bodies f hfm).wt;have:=(nf f hfm).2.1;omega)
 show gs.length+ms.length+(fs.map bB.wt).sum <= _;omega
end
section
def uR:ByteArray:=⟨#[122,122,122]⟩
abbrev lr:ByteArray -> Prop:=λs=>s≠uR
mutual
def wl(Q:ByteArray -> Prop):aS -> Prop
 |.mk op _ name args=>(op=2 -> Q name) /\ Hf Q args
def Hf(Q:ByteArray -> Prop):List aS -> Prop
 |[]=>True
 |e::l=>wl Q e /\ Hf Q l
end
def Pz(Q:ByteArray -> Prop)(r:cL):Prop:=Q r.name /\ Hf Q r.index
def pm(Q:ByteArray -> Prop)(a:cI):Prop:=Pz Q a.ref /\ wl Q a.expr
mutual
def jL(Q:ByteArray -> Prop):aE -> Prop
 |.mk _ n e r a t f=>Q n /\ wl Q e /\ Pz Q r /\ (∀x,x∈a -> pm Q x) /\ lD Q t /\ lD Q f
def lD(Q:ByteArray -> Prop):List aE -> Prop
 |[]=>True
 |s::l=>jL Q s /\ lD Q l
end
section
variable {Q:ByteArray -> Prop}
theorem EZ:∀{a b:List aE},lD Q a -> lD Q b -> lD Q (a++b)
 |[],b,_,h=>h
 |s::a,b,ha,h=>by rw [lD] at ha;rw [eA,lD];exact ⟨ha.1,EZ ha.2 h⟩
theorem FL:∀{l:List aE},lD Q l -> ∀{k:Nat} (h:k<l.length),jL Q l[k]
 |[],_,_,h=>absurd h (Fo _)
 |s::l,hl,0,_=>by rw [lD] at hl;exact hl.1
 |s::l,hl,k+1,h=>by rw [lD] at hl;exact FL hl.2 (Nat.lt_of_succ_lt_succ h)
theorem UQ{l:List cI}(h:∀a,a∈l -> pm Q a):∀a,a∈l.drop 1 -> pm Q a:=λa ha=>h a (List.mem_of_mem_drop ha)
theorem WK{l:List cI}{b:cI}(h:∀a,a∈l -> pm Q a)(hb:pm Q b):∀a,a∈l++[b] -> pm Q a:=λa ha=>by
 rcases mem_append.1 ha with ha|ha
 ·exact h a ha
 rw [jK.1 ha];exact hb
theorem GE{l:List cI}{j:Nat}{b:cI}(h:∀a,a∈l -> pm Q a)(hb:pm Q b):∀a,a∈l.set j b -> pm Q a:=λa ha=>by
 rcases Is ha with ha|ha
 ·exact h a ha
 rw [ha];exact hb
end
end
section
open Go.RowKit
def CB:List ByteArray:=[⟨#[97]⟩,⟨#[98]⟩,⟨#[103,48]⟩,⟨#[103,49]⟩,⟨#[109,97,105,110]⟩,⟨#[102,49]⟩,⟨#[102,50]⟩,⟨#[112,49]⟩,⟨#[112,50]⟩,⟨#[118,97]⟩,⟨#[118,120]⟩,⟨#[110,111,119,104,101,114,101]⟩,⟨#[]⟩,⟨#[105,102]⟩,⟨#[120,49]⟩]
def V9:∀x,x∈CB -> x.size <= 10 /\ x≠uR:=V
def z8{α:Type}(enc:α -> List aO)(z:Nat)(hz:∀x,(enc x).length=z):∀(l:List α)(j:Nat)(h:j<l.length)(a:α),splice (l.flatMap enc) (j*z) (enc a)=(l.set j a).flatMap enc
 |x::l,0,_,a=>by
  unfold splice;rw [rO,mJ,cg,Di,ec,ec,cp,hz a,tX (hz x)]
 |x::l,j+1,h,a=>by
  have ih:=z8 enc z hz l j i_ a;unfold splice at ih⊢;rw [yH,ec,ec,←ih,show (j+1)*z=z+j*z by rw [sR,Nat.one_mul,Cj],BW,hz x,take_of_length_le (by rw [hz x];omega),show z+j*z-z=j*z by omega,ra,yB,hz x,uF (by rw [hz x];omega),show z+(j*z+(enc a).length)-z=j*z+(enc a).length by omega];simp only [cg,append_assoc]
def Om{α:Type}(enc:α -> List aO)(z:Nat)(hz:∀x,(enc x).length=z)(l:List α)(j:Nat)(h:j<l.length):j*z+z <= (l.flatMap enc).length:=by
 rw [dD enc z hz l];have:(j+1)*z <= l.length*z:=Cl _ h;rw [sR] at this;omega
def Sc{α:Type}(enc:α -> List aO)(z:Nat)(hz:∀x,(enc x).length=z)(l:List α)(h:0<l.length):(l.flatMap enc).drop (1*z)=(l.drop 1).flatMap enc:=by
 cases l with
 |nil=>simp at h
 |cons x l=>rw [ec,Nat.one_mul,tX (hz x)];rfl
def Si:∀(l:List cI),dz (l.drop 1) <= dz l
 |[]=>aL
 |x::l=>by rw [List.drop_succ_cons,tc,dz];omega
def Kl:∀(l:List cI)(a:cI),dz (l++[a])=dz l+a.wt
 |[],a=>by rw [cg,dz,dz,dz];omega
 |x::l,a=>by rw [eA,dz,dz,Kl l a];omega
def xx:∀(l:List cI)(j:Nat)(a:cI),dz (l.set j a) <= dz l+a.wt
 |[],_,_=>aL
 |x::l,0,a=>by rw [Di,dz,dz];omega
 |x::l,j+1,a=>by have:=xx l j a;rw [yH,dz,dz];omega
def VY{l:List cI}(h:∀a,a∈l -> a.bt):∀a,a∈l.drop 1 -> a.bt:=λa ha=>h a (List.mem_of_mem_drop ha)
def WS{l:List cI}{b:cI}(h:∀a,a∈l -> a.bt)(hb:b.bt):∀a,a∈l++[b] -> a.bt:=λa ha=>by
 rcases mem_append.1 ha with ha|ha
 ·exact h a ha
 rw [jK.1 ha];exact hb
def Hw{l:List cI}{j:Nat}{b:cI}(h:∀a,a∈l -> a.bt)(hb:b.bt):∀a,a∈l.set j b -> a.bt:=λa ha=>by
 rcases Is ha with ha|ha
 ·exact h a ha
 rw [ha];exact hb
def nW(y:ByteArray):aS:=⟨2,0,y,[]⟩
def lz(y:ByteArray):cI:=⟨false,⟨a_,[]⟩,⟨2,0,y,[]⟩⟩
def gp(b:Bool)(y:ByteArray):cI:=⟨b,⟨y,[]⟩,⟨0,0,a_,[]⟩⟩
def Ai{y:aH}(h:y.size <= 10):(nW y).bt:=by
 unfold nW;rw [aS.bt];exact ⟨sa,Y,trivial⟩
def L3{y:aH}(h:y.size <= 10):(lz y).bt:=⟨⟨by show a_.size <= _;decide,trivial⟩,Ai h⟩
def J1{b:Bool}{y:aH}(h:y.size <= 10):(gp b y).bt:=⟨⟨by show y.size <= _;omega,trivial⟩,by unfold gp;rw [aS.bt];exact ⟨sa,V,trivial⟩⟩
def DC{y:aH}(h:y≠uR):wl lr (nW y):=by unfold nW;rw [wl];exact ⟨λ_=>h,trivial⟩
def LG{y:aH}(h:y≠uR):pm lr (lz y):=⟨⟨by show a_≠uR;decide,trivial⟩,DC h⟩
def Pa{b:Bool}{y:aH}(h:y≠uR):pm lr (gp b y):=⟨⟨h,trivial⟩,by unfold gp;rw [wl];exact ⟨λ_=>V,trivial⟩⟩
def OJ(y:aH):(lz y).wt=3:=rfl
def D3(b:Bool)(y:aH):(gp b y).wt=3:=rfl
def B6{P:Program}{U:List Nat}{o:Oper}{st:AS}{t yt:bA}{x y:bb}{m:Int}(ho:o.op=.binOp .shr t x y yt)(hx:aw st x=some (an m))(hy:aw st y=some (av (.int .u64 4))):co P U o st (an (m.fdiv 16)):=
 iF rfl λa w hs w'=>by
  simp only [execOp,ho,hs.val hx,hs.val hy];simp [go_sem,eqGuard,binOp,Op.shift,show min (Int.toNat 4) IntKind.i64.bits=4 from rfl]
def k9(n0:Int)(s:aJ):aU prog 34 [an n0] [] s λt s'=>(∃y:aH,t=cK y /\ y.size <= 10 /\ y≠uR) /\ s'=s:=by
 obtain ⟨bx,rw⟩:=s;refine bR 8 func34 ?_;refine go 7 ?_;refine aX J (tD Tryz.t9 [ah ⟨#[]⟩,ah ⟨#[]⟩,ah ⟨#[]⟩,ah ⟨#[]⟩,ah ⟨#[]⟩,ah ⟨#[]⟩,ah ⟨#[]⟩,ah ⟨#[]⟩,ah ⟨#[]⟩,ah ⟨#[]⟩,ah ⟨#[]⟩,ah ⟨#[]⟩,ah ⟨#[]⟩,ah ⟨#[]⟩,ah ⟨#[]⟩] J J V (.cons J (.cons J (.cons J (.cons J (.cons J (.cons J (.cons J (.cons J (.cons J (.cons J (.cons J (.cons J (.cons J (.cons J (.cons J .nil))))))))))))))) o0 aQ J V V aQ aQ (r:=CB.map λx=>ah x) aQ ?_);refine go 1 ?_;obtain ⟨j1,hj1,aMk⟩:=mG (n0) (15) Y;refine cc J lx J (mL (n0) (15) j1 Y Y hj1 _) ?_;rintro _ _ ⟨rfl,rfl⟩;have aMl:j1<CB.length:=by show _<15;omega
 refine aD J (mj (λx=>ah x) CB j1 J J J J aMl kP iK) (go 5 ?_);exact az (s':=⟨bx,rw⟩) J d4 ⟨⟨_,J,V9 _ (getElem_mem aMl)⟩,J⟩
def U9(k:Int)(nm:aH)(eo en:Int)(em:aH)(ea:List aS)(rn:aH)(ri:List aS)(ar:List cI)(th el:List aE)(how x:Int)(hs:aE.bt (.mk k nm ⟨eo,en,em,ea⟩ ⟨rn,ri⟩ ar th el))(hw:dz ar <= 9000000)(bx:List aV)(rw:List aP):aU prog 71 [.agg [aA k,ah nm,aA eo,aA en,ah em,aB bc ea,ah rn,aB bc ri,aB cd ar,aB encS th,aB encS el],an how,an x] [] ⟨bx,rw⟩ λt s'=>(∃q:aE,t=.agg (ci q) /\ q.bt /\ (q.thn=th /\ q.els=el∨q.thn=[] /\ q.els=[]) /\ 1+q.expr.nodes+q.ref.wt+dz q.args <= 21+(1+(1+d2 ea)+(1+d2 ri)+dz ar) /\ (jL lr (.mk k nm ⟨eo,en,em,ea⟩ ⟨rn,ri⟩ ar th el) -> jL lr q)) /\ s'=⟨bx,rw⟩:=by
 obtain ⟨hsn,hse,AI,hsa,hst,DQ⟩:=nR hs;replace hsn:nm.size <= 4611686018427387904:=hsn;replace hsa:∀a,a∈ar -> a.bt:=hsa;have hal:=p9 ar;refine bR 109 func71 ?_;refine go 9 λb1 b2=>?_;refine cc J kl J (k9 x _) ?_;rintro _ _ ⟨⟨y1,rfl,hy1,zy1⟩,rfl⟩;refine go 1 ?_;refine ct 12 J (bL.agg (.r (.r (.r (.n .nil)))):bL _ (.agg (bo (nW y1)))) (go 6 λb3=>?_);refine aX J (fE xV jy λg4=>?_);refine go 2 ?_;refine aX J (eU [] Tryz.t135 104 J J V J J xV aQ J J J J V (dD cd 7 (λ_=>J) ar) cN Y (cp ar.length) (λ_ b hb=>tS) (λb hb=>tS) (cg _) λw5=>?_);refine go 7 ?_;obtain ⟨j2,hj2,aPf⟩:=mG (how) (10) Y;refine cc J lx J (mL (how) (10) j2 Y Y hj2 _) ?_;rintro _ _ ⟨rfl,rfl⟩;refine go 6 ?_;by_cases h3:(j2:Int)=0
 ·refine aI J (bU h3) (go 10 ?_);refine cc J kl J (k9 x _) ?_;rintro _ _ ⟨⟨y6,rfl,hy6,zy6⟩,rfl⟩;refine go 8 ?_;by_cases h7:k=5
  ·refine aI J (bU h7) (go 10 ?_);refine cc J kl J (k9 x _) ?_;rintro _ _ ⟨⟨y9,rfl,hy9,zy9⟩,rfl⟩;refine go 10 ?_;refine iX 8 J ?_;refine go 8 ?_;refine ct 108 J (bL.agg (.r (.r (.r (.r (.r (.r (.r (.r (.r (.r (.r .nil))))))))))):bL _ (.agg (ci (.mk k a_ ⟨eo,en,em,ea⟩ ⟨y9,ri⟩ ar th el)))) (go 4 ?_);exact ⟨.inr J,_,⟨bx,rw⟩,bK J (bu [_] J J gX d7 (cH J J)),ai eZ (.refl _),⟨(.mk k a_ ⟨eo,en,em,ea⟩ ⟨y9,ri⟩ ar th el),J,(by rw [aE.bt];exact ⟨V,hse,⟨(by have:=hy9;show y9.size <= _;omega),AI.2⟩,hsa,hst,DQ⟩),(.inl ⟨J,J⟩),oI,(λhg=>by rw [jL] at hg⊢;obtain ⟨g1,g2,g3,g4,g5,g6⟩:=hg;exact ⟨V,g2,⟨zy9,g3.2⟩,g4,g5,g6⟩)⟩,J⟩
  refine aG J (bO h7) (go 3 ?_);by_cases h8:k=6
  ·refine aI J (bU h8) (go 6 ?_);refine cc J kl J (k9 x _) ?_;rintro _ _ ⟨⟨CT,rfl,aIw,aIx⟩,rfl⟩;refine go 10 ?_;refine iX 8 J ?_;refine go 8 ?_;refine ct 108 J (bL.agg (.r (.r (.r (.r (.r (.r (.r (.r (.r (.r (.r .nil))))))))))):bL _ (.agg (ci (.mk k a_ ⟨eo,en,em,ea⟩ ⟨CT,ri⟩ ar th el)))) (go 4 ?_);exact ⟨.inr J,_,⟨bx,rw⟩,bK J (bu [_] J J gX d7 (cH J J)),ai eZ (.refl _),⟨(.mk k a_ ⟨eo,en,em,ea⟩ ⟨CT,ri⟩ ar th el),J,NJ,(.inl ⟨J,J⟩),oI,NX⟩,J⟩
  refine aG J (bO h8) (go 9 ?_);refine iX 8 J ?_;refine go 8 ?_;refine ct 108 J (bL.agg (.r (.r (.r (.r (.r (.r (.r (.r (.r (.r (.r .nil))))))))))):bL _ (.agg (ci (.mk k y6 ⟨eo,en,em,ea⟩ ⟨rn,ri⟩ ar th el)))) (go 4 ?_);exact ⟨.inr J,_,⟨bx,rw⟩,bK J (bu [_] J J gX d7 (cH J J)),ai eZ (.refl _),⟨(.mk k y6 ⟨eo,en,em,ea⟩ ⟨rn,ri⟩ ar th el),J,(by rw [aE.bt];exact ⟨(by have:=hy6;omega),hse,⟨AI.1,AI.2⟩,hsa,hst,DQ⟩),(.inl ⟨J,J⟩),oI,(λhg=>by rw [jL] at hg⊢;obtain ⟨g1,g2,g3,g4,g5,g6⟩:=hg;exact ⟨zy6,g2,⟨g3.1,g3.2⟩,g4,g5,g6⟩)⟩,J⟩
 refine aG J (bO h3) (go 5 ?_);by_cases h5:(j2:Int)=1
 ·refine aI J (bU h5) (go 7 ?_);refine cc J kl J (k9 x _) ?_;rintro _ _ ⟨⟨y7,rfl,hy7,zy7⟩,rfl⟩;refine go 8 ?_;by_cases h8:k=5
  ·refine aI J (bU h8) (go 10 ?_);refine cc J kl J (k9 x _) ?_;rintro _ _ ⟨⟨CT,rfl,aIw,aIx⟩,rfl⟩;refine go 10 ?_;refine iX 8 J ?_;refine go 8 ?_;refine ct 108 J (bL.agg (.r (.r (.r (.r (.r (.r (.r (.r (.r (.r (.r .nil))))))))))):bL _ (.agg (ci (.mk k a_ ⟨eo,en,em,ea⟩ ⟨CT,ri⟩ ar th el)))) (go 4 ?_);exact ⟨.inr J,_,⟨bx,rw⟩,bK J (bu [_] J J gX d7 (cH J J)),ai eZ (.refl _),⟨(.mk k a_ ⟨eo,en,em,ea⟩ ⟨CT,ri⟩ ar th el),J,NJ,(.inl ⟨J,J⟩),oI,NX⟩,J⟩
  refine aG J (bO h8) (go 3 ?_);by_cases h9:k=6
  ·refine aI J (bU h9) (go 6 ?_);refine cc J kl J (k9 x _) ?_;rintro _ _ ⟨⟨y11,rfl,aPh,aPi⟩,rfl⟩;refine go 10 ?_;refine iX 8 J ?_;refine go 8 ?_;refine ct 108 J (bL.agg (.r (.r (.r (.r (.r (.r (.r (.r (.r (.r (.r .nil))))))))))):bL _ (.agg (ci (.mk k a_ ⟨eo,en,em,ea⟩ ⟨y11,ri⟩ ar th el)))) (go 4 ?_);exact ⟨.inr J,_,⟨bx,rw⟩,bK J (bu [_] J J gX d7 (cH J J)),ai eZ (.refl _),⟨(.mk k a_ ⟨eo,en,em,ea⟩ ⟨y11,ri⟩ ar th el),J,(by rw [aE.bt];exact ⟨V,hse,⟨(by have:=aPh;show y11.size <= _;omega),AI.2⟩,hsa,hst,DQ⟩),(.inl ⟨J,J⟩),oI,(λhg=>by rw [jL] at hg⊢;obtain ⟨g1,g2,g3,g4,g5,g6⟩:=hg;exact ⟨V,g2,⟨aPi,g3.2⟩,g4,g5,g6⟩)⟩,J⟩
  refine aG J (bO h9) (go 9 ?_);refine iX 8 J ?_;refine go 8 ?_;refine ct 108 J (bL.agg (.r (.r (.r (.r (.r (.r (.r (.r (.r (.r (.r .nil))))))))))):bL _ (.agg (ci (.mk k y7 ⟨eo,en,em,ea⟩ ⟨rn,ri⟩ ar th el)))) (go 4 ?_);exact ⟨.inr J,_,⟨bx,rw⟩,bK J (bu [_] J J gX d7 (cH J J)),ai eZ (.refl _),⟨(.mk k y7 ⟨eo,en,em,ea⟩ ⟨rn,ri⟩ ar th el),J,(by rw [aE.bt];exact ⟨(by have:=hy7;omega),hse,⟨AI.1,AI.2⟩,hsa,hst,DQ⟩),(.inl ⟨J,J⟩),oI,(λhg=>by rw [jL] at hg⊢;obtain ⟨g1,g2,g3,g4,g5,g6⟩:=hg;exact ⟨zy7,g2,⟨g3.1,g3.2⟩,g4,g5,g6⟩)⟩,J⟩
 refine aG J (bO h5) (go 6 ?_);by_cases h7:(j2:Int)=2
 ·refine aI J (bU h7) (go 13 ?_);refine iX 8 J ?_;refine go 8 ?_;refine ct 108 J (bL.agg (.r (.r (.r (.r (.r (.r (.r (.n (.r (.r (.r .nil))))))))))):bL _ (.agg (ci (.mk k nm ⟨eo,en,em,ea⟩ ⟨rn,[]⟩ ar th el)))) (go 4 ?_);exact ⟨.inr J,_,⟨bx,rw⟩,bK J (bu [_] J J gX d7 (cH J J)),ai eZ (.refl _),⟨(.mk k nm ⟨eo,en,em,ea⟩ ⟨rn,[]⟩ ar th el),J,(by rw [aE.bt];exact ⟨hsn,hse,⟨AI.1,trivial⟩,hsa,hst,DQ⟩),(.inl ⟨J,J⟩),oI,(λhg=>by rw [jL] at hg⊢;obtain ⟨g1,g2,g3,g4,g5,g6⟩:=hg;exact ⟨g1,g2,⟨g3.1,trivial⟩,g4,g5,g6⟩)⟩,J⟩
 refine aG J (bO h7) (go 6 ?_);by_cases h9:(j2:Int)=3
 ·refine aI J (bU h9) (go 6 ?_);refine aX J (bV (r:=[(nW y1)].flatMap bc) o7 ?_);refine go 8 ?_;refine iX 8 J ?_;refine go 8 ?_;refine ct 108 J (bL.agg (.r (.r (.r (.r (.r (.r (.r (.r (.r (.r (.r .nil))))))))))):bL _ (.agg (ci (.mk k nm ⟨eo,en,em,ea⟩ ⟨rn,[(nW y1)]⟩ ar th el)))) (go 4 ?_);exact ⟨.inr J,_,⟨bx,rw⟩,bK J (bu [_] J J gX d7 (cH J J)),ai eZ (.refl _),⟨(.mk k nm ⟨eo,en,em,ea⟩ ⟨rn,[(nW y1)]⟩ ar th el),J,(by rw [aE.bt];exact ⟨hsn,hse,⟨AI.1,⟨Ai hy1,trivial⟩⟩,hsa,hst,DQ⟩),(.inl ⟨J,J⟩),oI,(λhg=>by rw [jL] at hg⊢;obtain ⟨g1,g2,g3,g4,g5,g6⟩:=hg;exact ⟨g1,g2,⟨g3.1,⟨DC zy1,trivial⟩⟩,g4,g5,g6⟩)⟩,J⟩
 refine aG J (bO h9) (go 6 ?_);by_cases h11:(j2:Int)=4
 ·refine aI J (bU h11) (go 7 ?_);refine aD J (lT [] J J J lH) ?_;by_cases Bk:(0:Int)<(ar.length:Int)
  ·refine aI J (e1 Bk) (go 4 ?_);refine iX 8 J ?_;refine go 1 ?_;refine aD J (Xd (l:=1) (m:=(ar.drop 1).length) (r:=(ar.drop 1).flatMap cd) J J J J Y (dD cd 7 (λ_=>J) ar) aQ aQ jy kL.symm (Sc cd 7 (λ_=>J) ar Y)) (go 6 ?_)
   skip
   refine go 8 ?_;refine ct 108 J (bL.agg (.r (.r (.r (.r (.r (.r (.r (.r (.r (.r (.r .nil))))))))))):bL _ (.agg (ci (.mk k nm ⟨eo,en,em,ea⟩ ⟨rn,ri⟩ (ar.drop 1) th el)))) (go 4 ?_);exact ⟨.inr J,_,⟨bx,rw⟩,bK J (bu [_] J J gX d7 (cH J J)),ai eZ (.refl _),⟨(.mk k nm ⟨eo,en,em,ea⟩ ⟨rn,ri⟩ (ar.drop 1) th el),J,(by rw [aE.bt];exact ⟨hsn,hse,⟨AI.1,AI.2⟩,(VY hsa),hst,DQ⟩),(.inl ⟨J,J⟩),(by have:=Si ar;simp only [aE.expr,aE.ref,aE.args,cL.wt,aS.nodes,d2,nW];omega),(λhg=>by rw [jL] at hg⊢;obtain ⟨g1,g2,g3,g4,g5,g6⟩:=hg;exact ⟨g1,g2,⟨g3.1,g3.2⟩,(UQ g4),g5,g6⟩)⟩,J⟩
  refine aG J (fA Bk) (go 8 ?_);refine iX 8 J ?_;refine go 8 ?_;refine ct 108 J (bL.agg (.r (.r (.r (.r (.r (.r (.r (.r (.r (.r (.r .nil))))))))))):bL _ (.agg (ci (.mk k nm ⟨eo,en,em,ea⟩ ⟨rn,ri⟩ ar th el)))) (go 4 ?_);exact ⟨.inr J,_,⟨bx,rw⟩,bK J (bu [_] J J gX d7 (cH J J)),ai eZ (.refl _),⟨(.mk k nm ⟨eo,en,em,ea⟩ ⟨rn,ri⟩ ar th el),J,Fx,(.inl ⟨J,J⟩),oI,D5⟩,J⟩
 refine aG J (bO h11) (go 6 ?_);by_cases Bk:(j2:Int)=5
 ·refine aI J (bU Bk) (go 8 ?_);refine ct 64 J (bL.agg (.r (.r (.n (.r (.r (.r (.r .nil))))))):bL _ (.agg (cd (lz y1)))) ?_;refine aX J (bV (r:=[(lz y1)].flatMap cd) ye ?_);refine aX J (dQ [] EE J J V cN Y (@length_append _ ar [(lz y1)]).symm fu cm (dj (f:=cd)).symm λw6=>?_);refine go 6 ?_;refine iX 8 J ?_;refine go 8 ?_;refine ct 108 J (bL.agg (.r (.r (.r (.r (.r (.r (.r (.r (.r (.r (.r .nil))))))))))):bL _ (.agg (ci (.mk k nm ⟨eo,en,em,ea⟩ ⟨rn,ri⟩ (ar++[(lz y1)]) th el)))) (go 4 ?_);exact ⟨.inr J,_,⟨bx,rw⟩,bK J (bu [_] J J gX d7 (cH J J)),ai eZ (.refl _),⟨(.mk k nm ⟨eo,en,em,ea⟩ ⟨rn,ri⟩ (ar++[(lz y1)]) th el),J,(by rw [aE.bt];exact ⟨hsn,hse,⟨AI.1,AI.2⟩,(WS hsa (L3 hy1)),hst,DQ⟩),(.inl ⟨J,J⟩),(by have:=Kl ar (lz y1);have:=OJ y1;simp only [aE.expr,aE.ref,aE.args,cL.wt,aS.nodes,d2,nW];omega),(λhg=>by rw [jL] at hg⊢;obtain ⟨g1,g2,g3,g4,g5,g6⟩:=hg;exact ⟨g1,g2,⟨g3.1,g3.2⟩,(WK g4 (LG zy1)),g5,g6⟩)⟩,J⟩
 refine aG J (bO Bk) (go 6 ?_);by_cases rd:(j2:Int)=6
 ·refine aI J (bU rd) (go 7 ?_);refine aD J (lT [] J J J lH) (go 6 ?_);by_cases rx:(0:Int)<(ar.length:Int)
  ·refine aI J (e1 rx) (go 5 ?_);refine zC [] Y λgr cr hgr=>?_;subst hgr;refine go 2 ?_;refine aD J (B6 J J J) (go 1 ?_);obtain ⟨Bx,aPj,hlj19⟩:=mG ((x.fdiv 16)) ((ar.length:Int)) Y;refine cc J lx J (mL ((x.fdiv 16)) ((ar.length:Int)) Bx Y Y aPj _) ?_;rintro _ _ ⟨rfl,rfl⟩;refine go 1 ?_;refine aD J (xr J J J) ?_;by_cases h20:(wm x 8)=8
   ·refine aI J (bU h20) (go 1 ?_);refine cc J kl J (k9 x _) ?_;rintro _ _ ⟨⟨y21,rfl,aHw,aHx⟩,rfl⟩;refine go 2 ?_;refine ct 84 J (bL.agg (.r (.r (.n (.r (.r (.r (.n .nil))))))):bL _ (.agg (cd (gp true y21)))) ?_;refine aD J (ey (z:=7) Bx J J J J tI lH jy) ?_;refine aX J (lM (r:=(ar.set Bx (gp true y21)).flatMap cd) [] J J J J J jy J Mg (by rw [cp];exact z8 cd 7 (λ_=>rfl) ar Bx tI (gp true y21)) iB vE ?_);refine go 5 ?_;refine aD J (xr J J J) ?_;refine aG J (bO Y) (go 8 ?_);refine iX 8 J ?_;refine ct 8 J (t:=.c (.sl (ar.set Bx (gp true y21)).length ((ar.set Bx (gp true y21)).flatMap cd))) H_ (go 8 ?_);refine ct 108 J (bL.agg (.r (.r (.r (.r (.r (.r (.r (.r (.r (.r (.r .nil))))))))))):bL _ (.agg (ci (.mk k nm ⟨eo,en,em,ea⟩ ⟨rn,ri⟩ (ar.set Bx (gp true y21)) th el)))) (go 4 ?_);exact ⟨.inr J,_,⟨bx,rw⟩,bK J (bu [_] J J gX d7 (cH J J)),ai eZ (.refl _),⟨(.mk k nm ⟨eo,en,em,ea⟩ ⟨rn,ri⟩ (ar.set Bx (gp true y21)) th el),J,N0,(.inl ⟨J,J⟩),(by have:=xx ar Bx (gp true y21);have:=D3 true y21;simp only [aE.expr,aE.ref,aE.args,cL.wt,aS.nodes,d2,nW];omega),Ko⟩,J⟩
   refine aG J (bO h20) (go 1 ?_);refine cc J kl J (k9 x _) ?_;rintro _ _ ⟨⟨y21,rfl,aHw,aHx⟩,rfl⟩;refine go 2 ?_;refine ct 84 J (bL.agg (.r (.r (.n (.r (.r (.r (.n .nil))))))):bL _ (.agg (cd (gp false y21)))) ?_;refine aD J (ey (z:=7) Bx J J J J tI lH jy) ?_;refine aX J (lM (r:=(ar.set Bx (gp false y21)).flatMap cd) [] J J J J J jy J Mg (by rw [cp];exact z8 cd 7 (λ_=>rfl) ar Bx tI (gp false y21)) iB vE ?_);refine go 5 ?_;refine aD J (xr J J J) ?_;by_cases h22:(wm x 8)=0
   ·refine aI J (bU h22) (go 3 ?_);refine cB [b3,b2,b1] (aa [0,1] 7 (go 3 ?_));refine ac 2 J (B6 J J J) (aa [3,5,6] 3 (go 4 ?_));obtain ⟨j24,aPk,hlj24⟩:=mG ((x.fdiv 16)) ((ar.length:Int)) Y;refine aW 4 J J (da J J V lx J (mL ((x.fdiv 16)) ((ar.length:Int)) j24 Y Y aPk _) ?_);rintro _ _ ⟨rfl,rfl⟩;refine YB 95 J (bL.agg (.r (.r (.n (.r (.r (.r (.r .nil))))))):bL _ (.agg (cd (lz y1)))) ?_;refine ac 7 J (ey (z:=7) j24 J J J J tI lH jy) ?_;refine aW 8 J J (lM (r:=((ar.set Bx (gp false y21)).set j24 (lz y1)).flatMap cd) [] J J J J J jy J (by rw [cp];exact Om cd 7 (λ_=>rfl) (ar.set Bx (gp false y21)) j24 tI) (by rw [cp];exact z8 cd 7 (λ_=>rfl) (ar.set Bx (gp false y21)) j24 tI (lz y1)) iB (λhn=>gZ hn iB) ?_);refine bH (go 4 ?_);refine iX 8 J ?_;refine ct 8 J (t:=.c (.sl ((ar.set Bx (gp false y21)).set j24 (lz y1)).length (((ar.set Bx (gp false y21)).set j24 (lz y1)).flatMap cd))) H_ (go 8 ?_);refine ct 108 J (bL.agg (.r (.r (.r (.r (.r (.r (.r (.r (.r (.r (.r .nil))))))))))):bL _ (.agg (ci (.mk k nm ⟨eo,en,em,ea⟩ ⟨rn,ri⟩ ((ar.set Bx (gp false y21)).set j24 (lz y1)) th el)))) (go 4 ?_);exact ⟨.inr J,_,⟨bx,rw⟩,bK J (bu [_] J J gX d7 (cH J J)),ai eZ (.refl _),⟨(.mk k nm ⟨eo,en,em,ea⟩ ⟨rn,ri⟩ ((ar.set Bx (gp false y21)).set j24 (lz y1)) th el),J,(by rw [aE.bt];exact ⟨hsn,hse,⟨AI.1,AI.2⟩,(Hw (Hw hsa (J1 aHw)) (L3 hy1)),hst,DQ⟩),(.inl ⟨J,J⟩),(by have:=xx ar Bx (gp false y21);have:=D3 false y21;have:=xx (ar.set Bx (gp false y21)) j24 (lz y1);have:=OJ y1;simp only [aE.expr,aE.ref,aE.args,cL.wt,aS.nodes,d2,nW];omega),(λhg=>by rw [jL] at hg⊢;obtain ⟨g1,g2,g3,g4,g5,g6⟩:=hg;exact ⟨g1,g2,⟨g3.1,g3.2⟩,(GE (GE g4 (Pa aHx)) (LG zy1)),g5,g6⟩)⟩,J⟩
   refine aG J (bO h22) (go 8 ?_);refine iX 8 J ?_;refine ct 8 J (t:=.c (.sl (ar.set Bx (gp false y21)).length ((ar.set Bx (gp false y21)).flatMap cd))) H_ (go 8 ?_);refine ct 108 J (bL.agg (.r (.r (.r (.r (.r (.r (.r (.r (.r (.r (.r .nil))))))))))):bL _ (.agg (ci (.mk k nm ⟨eo,en,em,ea⟩ ⟨rn,ri⟩ (ar.set Bx (gp false y21)) th el)))) (go 4 ?_);exact ⟨.inr J,_,⟨bx,rw⟩,bK J (bu [_] J J gX d7 (cH J J)),ai eZ (.refl _),⟨(.mk k nm ⟨eo,en,em,ea⟩ ⟨rn,ri⟩ (ar.set Bx (gp false y21)) th el),J,N0,(.inl ⟨J,J⟩),(by have:=xx ar Bx (gp false y21);have:=D3 false y21;simp only [aE.expr,aE.ref,aE.args,cL.wt,aS.nodes,d2,nW];omega),Ko⟩,J⟩
  refine aG J (fA rx) (go 8 ?_);refine iX 8 J ?_;refine go 8 ?_;refine ct 108 J (bL.agg (.r (.r (.r (.r (.r (.r (.r (.r (.r (.r (.r .nil))))))))))):bL _ (.agg (ci (.mk k nm ⟨eo,en,em,ea⟩ ⟨rn,ri⟩ ar th el)))) (go 4 ?_);exact ⟨.inr J,_,⟨bx,rw⟩,bK J (bu [_] J J gX d7 (cH J J)),ai eZ (.refl _),⟨(.mk k nm ⟨eo,en,em,ea⟩ ⟨rn,ri⟩ ar th el),J,Fx,(.inl ⟨J,J⟩),oI,D5⟩,J⟩
 refine aG J (bO rd) (go 6 ?_);by_cases rx:(j2:Int)=7
 ·refine aI J (bU rx) (go 13 ?_);refine iX 8 J ?_;refine go 8 ?_;refine ct 108 J (bL.agg (.r (.r (.r (.r (.r (.r (.r (.r (.r (.r (.r .nil))))))))))):bL _ (.agg (ci (.mk k nm ⟨2,0,y1,[]⟩ ⟨rn,ri⟩ ar th el)))) (go 4 ?_);exact ⟨.inr J,_,⟨bx,rw⟩,bK J (bu [_] J J gX d7 (cH J J)),ai eZ (.refl _),⟨(.mk k nm ⟨2,0,y1,[]⟩ ⟨rn,ri⟩ ar th el),J,(by rw [aE.bt];exact ⟨hsn,(Ai hy1),⟨AI.1,AI.2⟩,hsa,hst,DQ⟩),(.inl ⟨J,J⟩),oI,(λhg=>by rw [jL] at hg⊢;obtain ⟨g1,g2,g3,g4,g5,g6⟩:=hg;exact ⟨g1,(DC zy1),⟨g3.1,g3.2⟩,g4,g5,g6⟩)⟩,J⟩
 refine aG J (bO rx) (go 6 ?_);by_cases h19:(j2:Int)=8
 ·refine aI J (bU h19) (go 6 ?_);obtain ⟨j21,hj21,hlj21⟩:=mG (x) (11) Y;refine cc J lx J (mL (x) (11) j21 Y Y hj21 _) ?_;rintro _ _ ⟨rfl,rfl⟩;refine go 7 ?_;refine iX 8 J ?_;refine go 8 ?_;refine ct 108 J (bL.agg (.r (.r (.r (.r (.r (.r (.r (.r (.r (.r (.r .nil))))))))))):bL _ (.agg (ci (.mk (j21:Int) nm ⟨eo,en,em,ea⟩ ⟨rn,ri⟩ ar th el)))) (go 4 ?_);exact ⟨.inr J,_,⟨bx,rw⟩,bK J (bu [_] J J gX d7 (cH J J)),ai eZ (.refl _),⟨(.mk (j21:Int) nm ⟨eo,en,em,ea⟩ ⟨rn,ri⟩ ar th el),J,Fx,(.inl ⟨J,J⟩),oI,D5⟩,J⟩
 refine aG J (bO h19) (go 4 ?_);refine cB [b3,b2] (aa [0] 5 (go 2 ?_));refine ac 1 J (B6 J J J) (aa [3] 3 (go 2 ?_));refine aW 2 J J (da J J V kl J (k9 (x.fdiv 16) _) ?_);rintro _ _ ⟨⟨y21,rfl,aHw,aHx⟩,rfl⟩;refine cY [(4,true),(5,false)] 0 (go 3 ?_);refine bH (go 4 ?_);refine iX 8 J ?_;refine go 8 ?_;refine ct 108 J (bL.agg (.r (.r (.r (.r (.r (.r (.r (.n (.r (.n (.n .nil))))))))))):bL _ (.agg (ci (.mk 1 y21 ⟨2,0,y1,[]⟩ ⟨a_,[]⟩ ar [] [])))) (go 4 ?_);exact ⟨.inr J,_,⟨bx,rw⟩,bK J (bu [_] J J gX d7 (cH J J)),ai eZ (.refl _),⟨(.mk 1 y21 ⟨2,0,y1,[]⟩ ⟨a_,[]⟩ ar [] []),J,(by rw [aE.bt];exact ⟨(by have:=aHw;omega),(Ai hy1),⟨V,trivial⟩,hsa,trivial,trivial⟩),(.inr ⟨J,J⟩),oI,(λhg=>by rw [jL] at hg⊢;obtain ⟨g1,g2,g3,g4,g5,g6⟩:=hg;exact ⟨aHx,(DC zy1),⟨V,trivial⟩,g4,trivial,trivial⟩)⟩,J⟩
end
end Go.Proofs.YtjgeihmhppadaaaGreatDoor
