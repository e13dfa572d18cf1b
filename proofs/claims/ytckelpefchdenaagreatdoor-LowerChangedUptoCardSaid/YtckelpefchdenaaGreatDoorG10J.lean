import Derived.Test.YtckelpefchdenaaGreatDoorG9J
set_option linter.all false
set_option synthInstance.maxHeartbeats 1000000
set_option synthInstance.maxSize 1000000
set_option maxHeartbeats 8000000
set_option maxRecDepth 100000
namespace Go.Proofs.YtckelpefchdenaaGreatDoor
open Go.Proofs.Tryz
open List (length_append length_cons length_nil mem_append mem_cons not_mem_nil append_assoc getElem_mem take_of_length_le)
section
open Go.RowKit
def fD.aKg{ms:List cn}{fs:List iV}{ps:List bg}{vars:List aI}{deep left left':Nat}{l:List aD}(h:fD ms fs ps vars deep left l left'):l.length+2*left' <= 2*left:=by
 induction h<;>(try simp only [length_cons,length_append,length_nil])<;>omega
def lY(ms:List cn)(fs:List iV)(ps:List bg)(GS:List ByteArray)(deep IN:Nat)(vs:List ByteArray)(left:Nat)(al:List aD):Prop:=
 ∀rest l',fD ms fs ps vs deep left rest l' -> fD ms fs ps GS deep IN (al++rest) l'
def lY.step{ms:List cn}{fs:List iV}{ps:List bg}{GS vs vs':List aI}{deep IN left left':Nat}{al:List aD}(h:lY ms fs ps GS deep IN vs left al)(x:List aD)
  (hx:∀rest l',fD ms fs ps vs' deep left' rest l' -> fD ms fs ps vs deep left (x++rest) l'):lY ms fs ps GS deep IN vs' left' (al++x):=λrest l' hr=>by
 rw [append_assoc];exact h _ _ (hx _ _ hr)
def lY.fin{ms:List cn}{fs:List iV}{ps:List bg}{GS vs:List aI}{deep IN left:Nat}{al:List aD}(h:lY ms fs ps GS deep IN vs left al):fD ms fs ps GS deep IN al left:=by
 have:=h [] left .nil
 rwa [eY] at this
def dj(f:ByteArray×List bg×aO):List aO:=[ac f.1,aG cE f.2.1,f.2.2]
def flat_get{α:Type}(enc:α -> List aO)(z:Nat)(hz:∀x,(enc x).length=z):∀(fs:List α)(j:Nat)(h:j<fs.length),((fs.flatMap enc).drop (j*z)).take z=enc fs[j] /\ j*z+z <= (fs.flatMap enc).length
 |f::fs,0,_=>by
  rw [eZ,rO,tH,sN (hz f)];exact ⟨J,by rw [length_append,hz];omega⟩
 |f::fs,j+1,h=>by
  obtain ⟨h1,h2⟩:=flat_get enc z hz fs j iX;rw [eZ,show (j+1)*z=z+j*z by rw [wx,D6],←C3,tj (hz f)];exact ⟨h1,by rw [length_append,hz];omega⟩
def wF(fs:List (aI×List bg×aO))(j:Nat)(h:j<fs.length):fi true 3 (fs.flatMap dj) (0+j*3)=some (.agg [ac (fs[j].1),aG cE fs[j].2.1,fs[j].2.2]):=by
 obtain ⟨h1,h2⟩:=flat_get dj 3 (λ_=>rfl) fs j h;unfold fi;rw [if_pos rfl,cq,if_pos h2,h1];rfl
def zP{P:Program}{c y:Code}{st:AS}{Q Q0:Exit -> AS -> Prop}{ι:Type}(NF:ι -> AS)(I:ι -> Prop)(h1:bi P c st (λe s=>e=.normal /\ ∃i,I i /\ Sub s (NF i)))(h2:∀i,I i -> bi P y (NF i) Q):bi P c st (lH (λs=>bi P y s Q) Q0):=
 sK h1 λe s ⟨he,i,hi,hs⟩=>by subst he;exact HQ (rY hs (h2 i hi))
section
variable {P:Program}{U:List Nat}{o:Oper}{st:AS}{t:AT}
def mo{E E0:ax}{x:bb}{g off z zz k cap:Nat}{cs:List aO}{ag:Bool}(hA:∀w,(isAgg E).run P w=.ok ag w)(hS:∀w,(sizeOf E).run P w=.ok z w)(hp:fi ag z cs off=some t)(ho:o.op=.load E x:=by exact rfl)(hx:aw st x=some (ap (.pointer (some ⟨g,off,none⟩))):=by exact rfl)(hrow:(⟨.slice (some ⟨g,0,none⟩) k cap,E0,zz,k,cs⟩:aQ)∈st.s.rows:=by simp)(hU:st.s.bl.Nodup -> g∉U:=by exact λ_ h=>gQ):cp P U o st t:=by
 obtain ⟨n,T,⟨bx,rows⟩,ts⟩:=st;obtain ⟨A,B,hAB⟩:=List.append_of_mem hrow;exact kb (ho:=ho) (hx:=hx) (hrow:=hAB) (hU:=hU) A hA hS hp
def lz{E yt:ax}{x y:bb}{m k r:Nat}(ho:o.op=.binOp .add E x y yt:=by exact rfl)(hx:aw st x=some (ab m):=by exact rfl)(hy:aw st y=some (ab k):=by exact rfl)(hr:m+k=r:=by exact rfl)(h2:r <= 1000000:=by omega):cp P U o st (ab r):=by
 subst hr;have h:=ua (P:=P) (U:=U) ho hx hy Y Y
 rwa [show (m:Int)+(k:Int)=((m+k:Nat):Int) by omega] at h
def TI{E yt:ax}{x y:bb}{m k:Nat}(r:Nat)(ho:o.op=.binOp .quo E x y yt)(hx:aw st x=some (ab m))(hy:aw st y=some (ab k))(hk:k≠0)(hm:m <= 1000000)(hr:m/k=r):cp P U o st (ab r):=by
 subst hr;refine E7 ho hx hy Y ?_;have h1:m/k <= m:=Nat.div_le_self _ _;show some (IntKind.i64.wrap ((m:Int).tdiv (k:Int)))=_;rw [show ((m:Int).tdiv (k:Int))=((m/k:Nat):Int) from (Int.ofNat_tdiv m k).symm];generalize m/k=q at h1;rw [IntWalk.i64_in _ Y]
def Cj{E yt:ax}{x y:bb}{m:Nat}{b r:aI}(ho:o.op=.binOp .add E x y yt)(hx:aw st x=some (cK ⟨#[118]⟩))(hy:aw st y=some (cK b))(hb:b=bytes [UInt8.ofNat (97+m%26),UInt8.ofNat (97+m/26%26)])(hr:kW m=r):cp P U o st (cK r):=by
 subst hr;subst hb;have h:=I4 (P:=P) (U:=U) ho hx hy (by show 1+2 <= _;decide);exact h
end
def Nn(l:List aD):(l.flatMap encS).length=l.length*11:=by
 induction l with
 |nil=>rfl
 |cons x l ih=>rw [eZ,length_append,kS,ih,length_cons,wx,D6]
def T8(B:List aV)(S W:Nat)(l:List Int)(ms:List cn)(ps:List bg)(fn:aI)(G FB:aO)(ar:Bool)(fs:List (aI×List bg×aO))(gF gc:Nat)(hl:l.length <= 1000000)(hm1:1 <= ms.length)(hm2:ms.length <= 1000)(hmz:∀m,m∈ms -> m.size <= 1000)(hp2:ps.length <= 1000)(hf1:1 <= fs.length)(hf2:fs.length <= 1000)(hfp:∀f,f∈fs -> f.2.1.length <= 1000)(L:Nat)(ih:∀(m:Nat),m<L -> ∀(A:List aV) (RA rw:List aQ) (vv:aN) (vars:List aI) (i deep most:Nat) (hi:i <= l.length) (hd:deep <= 100) (Nd:most <= 1000) (hvl:vars.length+m <= 1000) (hF:(⟨.slice (some ⟨gF,0,none⟩) fs.length gc,49,3,fs.length,fs.flatMap dj⟩:aQ)∈rw),aT prog 16 [aE W,.agg [ac fn,aG cE ps,FB],ap vv,ab deep,ab most] [S,W] (eS A (⟨W,61,[.val (.pointer (some ⟨S,0,none⟩)),G,(aG bB ms),(.val (.slice (some ⟨gF,0,none⟩) fs.length gc)),am m,bD ar]⟩::B) (eg RA vv vars rw) S l i) (λr s=>∃(al:List aD) (i left':Nat),r=.c (aG encS al) /\ fD ms (fs.map λf=>(f.1,f.2.1)) ps vars deep m al left' /\ i <= l.length /\ s=eS A (⟨W,61,[.val (.pointer (some ⟨S,0,none⟩)),G,(aG bB ms),(.val (.slice (some ⟨gF,0,none⟩) fs.length gc)),aA (left':Int),bD ar]⟩::B) (eg RA vv vars rw) S l i))(A:List aV)(RA rw:List aQ)(vv:aN)(vars:List aI)(i0 deep most:Nat)(hi0:i0 <= l.length)(hd:deep <= 100)(Nd:most <= 1000)(hvl:vars.length+L <= 1000)(hF:(⟨.slice (some ⟨gF,0,none⟩) fs.length gc,49,3,fs.length,fs.flatMap dj⟩:aQ)∈rw):aT prog 16 [aE W,.agg [ac fn,aG cE ps,FB],ap vv,ab deep,ab most] [S,W] (eS A (⟨W,61,[.val (.pointer (some ⟨S,0,none⟩)),G,(aG bB ms),(.val (.slice (some ⟨gF,0,none⟩) fs.length gc)),am L,bD ar]⟩::B) (eg RA vv vars rw) S l i0) (λr s=>∃(al:List aD) (i left':Nat),r=.c (aG encS al) /\ fD ms (fs.map λf=>(f.1,f.2.1)) ps vars deep L al left' /\ i <= l.length /\ s=eS A (⟨W,61,[.val (.pointer (some ⟨S,0,none⟩)),G,(aG bB ms),(.val (.slice (some ⟨gF,0,none⟩) fs.length gc)),aA (left':Int),bD ar]⟩::B) (eg RA vv vars rw) S l i):=by
 refine bM 249 func16 ?_;refine go 13 λb1=>?_;refine aW J (fH oY iG λg0=>?_);refine go 1 ?_;refine aW J (Pl (ds:=cj vars) [] Tryz.t9 16 J J V J J aM oY aL J J J J V cO Y (cq vars.length) Dv BD aM (ck _) λu0=>?_);refine go 11 ?_;refine aC J (lz (k:=1)) ?_;refine aW J (bo [S] J J V fN J (fa (_::A) _ _ _ l i0 _ hi0 hl Y Y) (ba) (ba (h:=by simp [aH.bl])) (λ_=>ba) ?_);rintro r1 s1 ⟨z1,i1,rfl,hy1,hi1,rfl⟩;refine go 4 ?_;refine gA 105 11 ?_;refine fv (λg:Nat×Nat×Nat×aN×List aI×aN×List aD=>(⟨249,aR g.2.2.2.2.2.1++(aR g.2.2.2.1++[b1,S,W]),⟨⟨b1,49,[.val (.string fn),.sl ps.length (ps.flatMap cE),FB]⟩::(A++⟨S,59,[.sl l.length (l.map λi=>.val (.int .i64 i)),am g.2.2.1]⟩::⟨W,61,[.val (.pointer (some ⟨S,0,none⟩)),G,(.sl ms.length (ms.flatMap bB)),(.val (.slice (some ⟨gF,0,none⟩) fs.length gc)),am g.2.1,.val (.bool ar)]⟩::B),⟨g.2.2.2.2.2.1,105,11,g.2.2.2.2.2.2.length,g.2.2.2.2.2.2.flatMap encS⟩::⟨g.2.2.2.1,9,1,g.2.2.2.2.1.length,cj g.2.2.2.2.1⟩::RA++⟨vv,9,1,vars.length,cj vars⟩::rw⟩,[(12,ab g.1),(11,.c (.val g.2.2.2.2.2.1)),(2,.c (.val g.2.2.2.1)),(0,aE W),(3,ab deep),(6,aE b1)]⟩:AS)) (λg=>g.1 <= most /\ g.2.1 <= L /\ g.2.2.1 <= l.length /\ g.2.2.2.2.1.length+g.2.1 <= 1000 /\ g.2.2.2.2.2.2.length+2*g.2.1 <= 2*L /\ lY ms (fs.map λf=>(f.1,f.2.1)) ps vars deep L g.2.2.2.2.1 g.2.1 g.2.2.2.2.2.2) (λg=>g.1) (z1,L,i1,u0,vars,.slice none 0 0,[]) (az Q7) ⟨Y,bY _,hi1,hvl,Nat.le_of_eq (cq _),λ_ _ h=>h⟩ ?_;rintro ⟨n,lf,ik,u,us,vo,al⟩ ⟨hn,hlf,hik,hul,hal,hto⟩;dsimp only at hn hlf hik hul hal hto;show bi prog _ (⟨249,aR vo++(aR u++[b1,S,W]),⟨⟨b1,49,[ac fn,aG cE ps,FB]⟩::(A++⟨S,59,[.sl l.length (l.map λi=>aA i),am ik]⟩::⟨W,61,[.val (.pointer (some ⟨S,0,none⟩)),G,(aG bB ms),(.val (.slice (some ⟨gF,0,none⟩) fs.length gc)),am lf,bD ar]⟩::B),⟨vo,105,11,al.length,al.flatMap encS⟩::⟨u,9,1,us.length,cj us⟩::RA++⟨vv,9,1,vars.length,cj vars⟩::rw⟩,[(12,ab n),(11,ap vo),(2,ap u),(0,aE W),(3,ab deep),(6,aE b1)]⟩:AS) _;refine go 4 ?_;by_cases hn0:0<n;focus
  obtain ⟨n,rfl⟩:∃q,n=q+1:=⟨n-1,Y⟩;refine aJ J fP (go 5 ?_);by_cases hl0:0<lf
  ·obtain ⟨m,rfl⟩:∃q,lf=q+1:=⟨lf-1,Y⟩;refine aJ J fP (go 14 ?_);refine aC J (jz (m:Int)) (go 19 λb2=>?_);refine aW J (bo [S] J J V fN J (fa (_::_::A) _ _ _ l ik _ hik hl V V) (ba) (ba (h:=by simp [aH.bl])) (λ_=>ba) ?_);rintro r2 s2 ⟨z2,i2,rfl,hy2,hi2,rfl⟩;refine go 3 ?_;refine zP (λg:Nat×List aO×aD×Nat×Nat×aN×List aI×aN×List aD=>(⟨249,g.1::(aR g.2.2.2.2.2.2.2.1++(aR g.2.2.2.2.2.1++[b1,S,W])),⟨⟨g.1,105,g.2.1⟩::⟨b1,49,[ac fn,aG cE ps,FB]⟩::(A++⟨S,59,[.sl l.length (l.map λi=>aA i),am g.2.2.2.2.1]⟩::⟨W,61,[.val (.pointer (some ⟨S,0,none⟩)),G,(aG bB ms),(.val (.slice (some ⟨gF,0,none⟩) fs.length gc)),am g.2.2.2.1,bD ar]⟩::B),⟨g.2.2.2.2.2.2.2.1,105,11,g.2.2.2.2.2.2.2.2.length,g.2.2.2.2.2.2.2.2.flatMap encS⟩::⟨g.2.2.2.2.2.1,9,1,g.2.2.2.2.2.2.1.length,cj g.2.2.2.2.2.2.1⟩::RA++⟨vv,9,1,vars.length,cj vars⟩::rw⟩,[(13,ap (.pointer (some ⟨g.1,0,none⟩))),(12,ab (n+1)),(11,ap g.2.2.2.2.2.2.2.1),(2,ap g.2.2.2.2.2.1),(0,aE W),(3,ab deep),(6,aE b1)]⟩:AS)) (λg=>g.2.1.length=11 /\ mV g.2.1 (cm g.2.2.1) /\ g.2.2.2.1 <= L /\ g.2.2.2.2.1 <= l.length /\ g.2.2.2.2.2.2.1.length+g.2.2.2.1 <= 1000 /\ (g.2.2.2.2.2.2.2.2++[g.2.2.1]).length+2*g.2.2.2.1 <= 2*L /\ lY ms (fs.map λf=>(f.1,f.2.1)) ps vars deep L g.2.2.2.2.2.2.1 g.2.2.2.1 (g.2.2.2.2.2.2.2.2++[g.2.2.1])) ?_ ?_
   ·refine go 4 ?_;by_cases hk4:z2<4
    ·refine aJ J fP (go 8 ?_);refine aW J (bo [S] J J V call30 J (tW (_::_::A) _ [_] _ _ S W l i2 ms ps us fn G _ FB _ ar hi2 hl hm1 hm2 hmz hp2 Y) (ba) (ba (h:=by simp [aH.bl])) (λ_=>ba) ?_);rintro r3 s3 ⟨f3,i3,rfl,hm3,hi3,rfl⟩;unfold encR;refine go 4 ?_;refine ⟨J,(b2,_,(.mk 5 ay .zero f3 [] [] []),m,i3,u,us,vo,al),⟨J,(.r (.r (.r (.r (.r (.n (.r (.r (.n (.n (.n .nil))))))))))),vH,hi3,xM,(by show List.length (al++[(.mk 5 ay .zero f3 [] [] [])])+2*m <= 2*L;(try simp only [length_append,length_cons,length_nil]);omega),lY.step hto [(.mk 5 ay .zero f3 [] [] [])] (λ_ _ h=>.lock hm3 h)⟩,az fG⟩
    refine aF J eU (go 7 ?_);by_cases hk7:z2<7
    ·refine aJ J fP (go 8 ?_);refine aW J (bo [S] J J V call30 J (tW (_::_::A) _ [_] _ _ S W l i2 ms ps us fn G _ FB _ ar hi2 hl hm1 hm2 hmz hp2 Y) (ba) (ba (h:=by simp [aH.bl])) (λ_=>ba) ?_);rintro r3 s3 ⟨f3,i3,rfl,hm3,hi3,rfl⟩;unfold encR;refine go 6 ?_;refine ⟨J,(b2,_,(.mk 6 ay .zero f3 [] [] []),m,i3,u,us,vo,al),⟨J,(.r (.r (.r (.r (.r (.n (.r (.r (.n (.n (.n .nil))))))))))),vH,hi3,xM,(by show List.length (al++[(.mk 6 ay .zero f3 [] [] [])])+2*m <= 2*L;(try simp only [length_append,length_cons,length_nil]);omega),lY.step hto [(.mk 6 ay .zero f3 [] [] [])] (λ_ _ h=>.unlock hm3 h)⟩,az fG⟩
    refine aF J eU (go 7 ?_);by_cases hk7e:z2=7
    ·refine aJ J fP (go 5 ?_);refine bu [b1,W] (aU [0,1,3,4,5,6] 21 (go 7 ?_));refine aZ 7 J (O1 (k:=26) (m%26) J J J V J) ?_;refine aZ 8 J (lz (m:=97)) ?_;refine aZ 9 J (wh J J Y J J J) (aU [10,11,12,13] 14 (go 5 ?_));refine aZ 14 J (TI (k:=26) (m/26) J J J V Y J) ?_;refine aZ 15 J (O1 (k:=26) (m/26%26) J J J V J) ?_;refine aZ 16 J (lz (m:=97)) ?_;refine aZ 17 J (wh J J Y J J J) (aU [21] 9 (go 2 ?_));refine cC 2 18 J ?_ ?_;focus
      refine (bo [S] J J V call31 J (uT (_::_::A) _ [_] _ _ S W l i2 us G (aG bB ms) _ _ ar hi2 hl Y) de dc i_ ?_);rintro r3 s3 ⟨x3,i3,rfl,hm3,hi3,rfl⟩;unfold bf;refine cC 18 22 J ?_ ?_;focus
       refine (bU (r:=cb [UInt8.ofNat (97+m%26),UInt8.ofNat (97+m/26%26)]) (hps:=(.cons J (.cons J .nil))) EQ ?_);refine aZ 19 J (li J J J) ?_;refine aZ 20 J (Cj (m:=m) J J J J J) (cY [(22,false),(23,true),(24,false),(25,true),(26,false)] 0 (go 6 ?_))
      rotate_left;focus
       refine go 1 ?_;refine aU [23] 6 (go 2 ?_);refine cC 18 24 J ?_ ?_;focus
        refine (bU (r:=cb [UInt8.ofNat (97+m%26),UInt8.ofNat (97+m/26%26)]) (hps:=(.cons J (.cons J .nil))) EQ ?_);refine aZ 19 J (li J J J) ?_;refine aZ 20 J (Cj (m:=m) J J J J J) (cY [(24,false),(25,true),(26,false)] 0 (go 4 ?_))
       rotate_left;refine go 1 ?_;refine aY 18 J J (bU (r:=cb [UInt8.ofNat (97+m%26),UInt8.ofNat (97+m/26%26)]) (hps:=(.cons J (.cons J .nil))) EQ ?_);refine aZ 19 J (li J J J) ?_;refine aZ 20 J (Cj (m:=m) J J J J J) (cY [(25,true),(26,false)] 0 (go 3 ?_))
     rotate_left 3;refine (bU (r:=cb [UInt8.ofNat (97+m%26),UInt8.ofNat (97+m/26%26)]) (hps:=(.cons J (.cons J .nil))) EQ ?_);refine aZ 19 J (li J J J) ?_;refine aZ 20 J (Cj (m:=m) J J J J J) ?_;refine aY 2 J J (bo [S] J J V call31 J (uT (_::_::A) _ [_] _ _ S W l i2 us G (aG bB ms) _ _ ar hi2 hl Y) de dc i_ ?_);rintro r3 s3 ⟨x3,i3,rfl,hm3,hi3,rfl⟩;unfold bf;refine cY [(22,false),(23,true),(24,false),(25,true),(26,false)] 0 (go 6 ?_);all_goals
      refine bC (go 5 ?_);refine aW J (bU (r:=cj [kW m]) iy ?_);refine aW J (dS [_] pE J J V cO Y (@length_append _ us [kW m]).symm fy co (e1 (f:=λx=>aO.val (.string x))).symm λv4=>?_);refine go 3 ?_;refine ⟨J,(b2,_,(.mk 1 (kW m) x3 .zero [] [] []),m,i3,v4,(us++[kW m]),vo,al),⟨J,(.r (.r (.r (.r (.r (.r (.r (.n (.n (.n (.n .nil))))))))))),vH,hi3,(by show List.length (us++[kW m])+m <= 1000;(try simp only [length_append,length_cons,length_nil]);omega),(by show List.length (al++[(.mk 1 (kW m) x3 .zero [] [] [])])+2*m <= 2*L;(try simp only [length_append,length_cons,length_nil]);omega),lY.step hto [(.mk 1 (kW m) x3 .zero [] [] [])] (λ_ _ h=>.var hm3 h)⟩,az fG⟩
    refine aF J eU (go 7 ?_);by_cases hk8:z2=8;focus
     refine aJ J fP (go 2 ?_);refine aC J (lT [_] J J J kj) ?_;by_cases hus:0<us.length
     ·refine aJ J fP (go 5 ?_);refine sX [_] hus λgu cu hgu=>?_;subst hgu;refine bu [b1,W] (aU [0,1,2,3,4,5,6,10,11,13] 9 (go 11 ?_));refine aY 7 J J (bo [S] J J V fN J (fa (_::_::A) _ _ _ l i2 _ hi2 hl Y Y) de dc i_ ?_);rintro r3 s3 ⟨z3,i3,rfl,hy3,hi3,rfl⟩;refine aZ 8 J (ez z3 J J J J Y kj iG) ?_;refine cC 9 12 J ?_ ?_;focus
       refine dR J V (mo (g:=gu) (k:=us.length) (cap:=cu) (E0:=9) (zz:=1) (cs:=cj us) rl iG (zj us z3 Y)) ?_;refine aY 12 J J (bo [S] J J V call31 J (uT (_::_::A) _ [_] _ _ S W l i3 us G (aG bB ms) _ _ ar hi3 hl Y) de dc i_ ?_);rintro r4 s4 ⟨x4,i4,rfl,DM,hi4,rfl⟩;unfold bf;refine cY [(14,false),(15,true),(16,false),(17,true),(18,false)] 0 (go 6 ?_)
      rotate_left;focus
       refine (bo [S] J J V call31 J (uT (_::_::A) _ [_] _ _ S W l i3 us G (aG bB ms) _ _ ar hi3 hl Y) de dc i_ ?_);rintro r4 s4 ⟨x4,i4,rfl,DM,hi4,rfl⟩;unfold bf;refine cC 9 14 J ?_ ?_;focus
        refine dR J V (mo (g:=gu) (k:=us.length) (cap:=cu) (E0:=9) (zz:=1) (cs:=cj us) rl iG (zj us z3 Y)) ?_;refine cY [(14,false),(15,true),(16,false),(17,true),(18,false)] 0 (go 6 ?_)
       rotate_left;refine go 1 ?_;refine aY 9 J J (dR J V (mo (g:=gu) (k:=us.length) (cap:=cu) (E0:=9) (zz:=1) (cs:=cj us) rl iG (zj us z3 Y)) ?_);refine cY [(15,true),(16,false),(17,true),(18,false)] 0 (go 5 ?_)
      all_goals
       refine bC (go 1 ?_);refine ⟨J,(b2,_,(.mk 2 us[z3] x4 .zero [] [] []),m,i4,(.slice (some ⟨gu,0,none⟩) us.length cu),us,vo,al),⟨J,(.r (.r (.r (.r (.r (.r (.r (.n (.n (.n (.n .nil))))))))))),vH,hi4,xM,(by show List.length (al++[(.mk 2 us[z3] x4 .zero [] [] [])])+2*m <= 2*L;(try simp only [length_append,length_cons,length_nil]);omega),lY.step hto [(.mk 2 us[z3] x4 .zero [] [] [])] (λ_ _ h=>.assign (getElem_mem Y) DM h)⟩,az fG⟩
     refine aF J eU (go 8 ?_);refine aF J eU (go 2 ?_);refine aF J eU (go 8 ?_);refine aF J eU (go 11 ?_);refine aF J eU (go 11 ?_);refine aF J eU (go 17 ?_);refine aW J (bo [S] J J V call30 J (tW (_::_::A) _ [_] _ _ S W l i2 ms ps us fn G _ FB _ ar hi2 hl hm1 hm2 hmz hp2 Y) (ba) (ba (h:=by simp [aH.bl])) (λ_=>ba) ?_)
    rotate_left;focus
     refine aF J eU (go 12 ?_);by_cases hk9:z2=9
     ·refine aJ J fP (go 18 ?_);refine aF J (Pq Y) (go 6 ?_);refine bu [b2,b1,W] (aU [0,1,2,3,4,5,6,7,8,9,10,11,12,13,14] 5 (go 16 ?_));refine cC 15 18 J ?_ ?_;focus
       refine (bo [S] J J V fN J (fa (_::_::A) _ _ _ l i2 _ hi2 hl Y Y) de dc i_ ?_);rintro r3 s3 ⟨z3,i3,rfl,hy3,hi3,rfl⟩;refine aZ 16 J (ez z3 J J J J Y fu du) ?_;refine cC 17 18 J ?_ ?_;focus
        refine dR J V (mo (g:=gF) (k:=fs.length) (cap:=gc) (E0:=49) (zz:=3) (cs:=fs.flatMap dj) (hrow:=by simp [hF]) oP du (wF fs z3 Y)) ?_;refine cY [(18,false),(19,false)] 0 (go 3 λb6=>?_)
       rotate_left;refine (iz J J V sv J λb6=>?_);refine aY 17 J J (dR J V (mo (g:=gF) (k:=fs.length) (cap:=gc) (E0:=49) (zz:=3) (cs:=fs.flatMap dj) (hrow:=by simp [hF]) oP du (wF fs z3 Y)) ?_);refine cY [(19,false)] 0 (go 2 ?_)
      rotate_left 2;refine (iz J J V sv J λb6=>?_);refine aY 15 J J (bo [S] J J V fN J (fa (_::_::_::A) _ _ _ l i2 _ hi2 hl Y Y) de dc i_ ?_);rintro r3 s3 ⟨z3,i3,rfl,hy3,hi3,rfl⟩;refine aZ 16 J (ez z3 J J J J Y fu du) ?_;refine aY 17 J J (dR J V (mo (g:=gF) (k:=fs.length) (cap:=gc) (E0:=49) (zz:=3) (cs:=fs.flatMap dj) (hrow:=by simp [hF]) oP du (wF fs z3 Y)) ?_);refine cY [(19,false)] 0 (go 2 ?_);all_goals
       refine bC (go 1 ?_);refine bu [b6,b1,W] (aU [0,1,2,3,4,5,7] 4 (go 8 ?_));refine aY 6 J J (bo [S] J J V call32 J (PC (_::_::_::A) _ [_] _ _ S W l i3 ms ps us fn G _ FB _ ar fs[z3].1 fs[z3].2.1 fs[z3].2.2 hi3 hl hm1 hm2 hmz hp2 Y (hfp _ (getElem_mem Y))) de dc i_ ?_);rintro r4 s4 ⟨a4,i4,rfl,DM,hi4,rfl⟩;refine cY [(8,false),(9,true),(10,false)] 0 (go 4 ?_);refine bC (go 1 ?_);refine ⟨J,(b2,_,(.mk 3 fs[z3].1 .zero .zero a4 [] []),m,i4,u,us,vo,al),⟨J,(.r (.r (.r (.r (.r (.n (.r (.n (.r (.n (.n .nil))))))))))),vH,hi4,xM,(by show List.length (al++[(.mk 3 fs[z3].1 .zero .zero a4 [] [])])+2*m <= 2*L;(try simp only [length_append,length_cons,length_nil]);omega),lY.step hto [(.mk 3 fs[z3].1 .zero .zero a4 [] [])] (λ_ _ h=>.call (g:=(fs[z3].1,fs[z3].2.1)) (.inl J) (k_.2 ⟨_,getElem_mem Y,J⟩) DM h)⟩,az (h1:=bG) fG⟩
     refine aF J eU (go 2 ?_);by_cases hk10:z2=10
     ·refine aJ J fP (go 15 ?_);refine aJ J (J' Y) (go 9 ?_);refine bu [b2,b1,W] (aU [0,1,2,3,4,5,6,7,8,9,10,11,12,13,14] 5 (go 16 ?_));refine cC 15 18 J ?_ ?_;focus
       refine (bo [S] J J V fN J (fa (_::_::A) _ _ _ l i2 _ hi2 hl Y Y) de dc i_ ?_);rintro r3 s3 ⟨z3,i3,rfl,hy3,hi3,rfl⟩;refine aZ 16 J (ez z3 J J J J Y fu du) ?_;refine cC 17 18 J ?_ ?_;focus
        refine dR J V (mo (g:=gF) (k:=fs.length) (cap:=gc) (E0:=49) (zz:=3) (cs:=fs.flatMap dj) (hrow:=by simp [hF]) oP du (wF fs z3 Y)) ?_;refine cY [(18,false),(19,false)] 0 (go 3 λb9=>?_)
       rotate_left;refine (iz J J V sv J λb9=>?_);refine aY 17 J J (dR J V (mo (g:=gF) (k:=fs.length) (cap:=gc) (E0:=49) (zz:=3) (cs:=fs.flatMap dj) (hrow:=by simp [hF]) oP du (wF fs z3 Y)) ?_);refine cY [(19,false)] 0 (go 2 ?_)
      rotate_left 2;refine (iz J J V sv J λb9=>?_);refine aY 15 J J (bo [S] J J V fN J (fa (_::_::_::A) _ _ _ l i2 _ hi2 hl Y Y) de dc i_ ?_);rintro r3 s3 ⟨z3,i3,rfl,hy3,hi3,rfl⟩;refine aZ 16 J (ez z3 J J J J Y fu du) ?_;refine aY 17 J J (dR J V (mo (g:=gF) (k:=fs.length) (cap:=gc) (E0:=49) (zz:=3) (cs:=fs.flatMap dj) (hrow:=by simp [hF]) oP du (wF fs z3 Y)) ?_);refine cY [(19,false)] 0 (go 2 ?_);all_goals
       refine bC (go 1 ?_);refine bu [b9,b1,W] (aU [0,1,2,3,4,5,7] 4 (go 8 ?_));refine aY 6 J J (bo [S] J J V call32 J (PC (_::_::_::A) _ [_] _ _ S W l i3 ms ps us fn G _ FB _ ar fs[z3].1 fs[z3].2.1 fs[z3].2.2 hi3 hl hm1 hm2 hmz hp2 Y (hfp _ (getElem_mem Y))) de dc i_ ?_);rintro r4 s4 ⟨a4,i4,rfl,DM,hi4,rfl⟩;refine cY [(8,false),(9,true),(10,false)] 0 (go 4 ?_);refine bC (go 1 ?_);refine ⟨J,(b2,_,(.mk 4 fs[z3].1 .zero .zero a4 [] []),m,i4,u,us,vo,al),⟨J,(.r (.r (.r (.r (.r (.n (.r (.n (.r (.n (.n .nil))))))))))),vH,hi4,xM,(by show List.length (al++[(.mk 4 fs[z3].1 .zero .zero a4 [] [])])+2*m <= 2*L;(try simp only [length_append,length_cons,length_nil]);omega),lY.step hto [(.mk 4 fs[z3].1 .zero .zero a4 [] [])] (λ_ _ h=>.call (g:=(fs[z3].1,fs[z3].2.1)) (.inr J) (k_.2 ⟨_,getElem_mem Y,J⟩) DM h)⟩,az (h1:=bG) fG⟩
     refine aF J eU (go 8 ?_);by_cases aIl:z2=11;focus
      refine aJ J fP (go 2 ?_);by_cases hd0:0<deep
      ·refine aJ J fP (go 6 ?_);refine bu [b1] (aU [0,1,3,4,5,6] 9 (go 7 ?_));refine aZ 7 J (jz ((deep-1:Nat):Int)) (aU [9] 7 (go 2 ?_));refine aY 2 J J (bo [S] J J V call31 J (uT (_::_::A) _ [_] _ _ S W l i2 us G (aG bB ms) _ _ ar hi2 hl Y) de dc i_ ?_);rintro r3 s3 ⟨x3,i3,rfl,hm3,hi3,rfl⟩;unfold bf;refine aY 8 J J (bo [S,W] J J V call16 J (ih m Y (_::_::A) [_] _ _ us i3 (deep-1) 3 hi3 Y Y Y (by simp [hF])) jR so xC ?_);rintro r4 s4 ⟨b4l,i4,l4,rfl,DM,hi4,rfl⟩;have hle4:=DM.le;have hln4:=DM.aKg;refine cY [(10,false),(11,true),(12,false),(13,true),(14,false)] 0 (go 6 ?_);refine bC (go 7 ?_);refine aW J (bo [S] J J V fN J (fa (_::_::A) _ _ _ l i4 _ hi4 hl V V) (ba) (ba (h:=by simp [aH.bl])) (λ_=>ba) ?_);rintro r5 s5 ⟨z5,i5,rfl,hy5,hi5,rfl⟩;by_cases hel:z5=1
       ·refine aJ J fP (go 8 ?_);refine aC J (jz ((deep-1:Nat):Int)) ?_;refine aW J (bo [S,W] J J V call16 J (ih l4 Y (_::_::A) [_] _ _ us i5 (deep-1) 3 hi5 Y Y Y (by simp [hF])) jR so mI ?_);rintro r6 s6 ⟨b6l,i6,l6,rfl,hm6,hi6,rfl⟩;have hle6:=hm6.le;have hln6:=hm6.aKg;refine go 4 ?_;refine ⟨J,(b2,_,(.mk 7 ay x3 .zero [] b4l b6l),l6,i6,u,us,vo,al),⟨J,(.r (.r (.r (.r (.r (.r (.r (.n (.n (.r (.r .nil))))))))))),(by show l6 <= L;omega),hi6,(by show List.length us+l6 <= 1000;(try simp only [length_append,length_cons,length_nil]);omega),(by show List.length (al++[(.mk 7 ay x3 .zero [] b4l b6l)])+2*l6 <= 2*L;(try simp only [length_append,length_cons,length_nil]);omega),lY.step hto [(.mk 7 ay x3 .zero [] b4l b6l)] (λ_ _ h=>by obtain ⟨d,rfl⟩:∃d,deep=d+1:=⟨deep-1,Y⟩;exact .cond hm3 DM hm6 h)⟩,az fG⟩
       refine aF J eU (go 5 ?_);refine ⟨J,(b2,_,(.mk 7 ay x3 .zero [] b4l []),l4,i5,u,us,vo,al),⟨J,(.r (.r (.r (.r (.r (.r (.r (.n (.n (.r (.n .nil))))))))))),(by show l4 <= L;omega),hi5,L2,(by show List.length (al++[(.mk 7 ay x3 .zero [] b4l [])])+2*l4 <= 2*L;(try simp only [length_append,length_cons,length_nil]);omega),lY.step hto [(.mk 7 ay x3 .zero [] b4l [])] (λ_ _ h=>by obtain ⟨d,rfl⟩:∃d,deep=d+1:=⟨deep-1,Y⟩;exact .cond hm3 DM .nil h)⟩,az fG⟩
      refine aF J eU (go 8 ?_);refine aF J eU (go 11 ?_);refine aF J eU (go 17 ?_);refine aW J (bo [S] J J V call30 J (tW (_::_::A) _ [_] _ _ S W l i2 ms ps us fn G _ FB _ ar hi2 hl hm1 hm2 hmz hp2 Y) (ba) (ba (h:=by simp [aH.bl])) (λ_=>ba) ?_)
     rotate_left;focus
      refine aF J eU (go 11 ?_);by_cases aKi:z2=12;focus
       refine aJ J fP (go 2 ?_);by_cases hd1:0<deep
       ·refine aJ J fP (go 5 ?_);refine bu [b1] (aU [0,1,3,4,5,6] 9 (go 7 ?_));refine aZ 7 J (jz ((deep-1:Nat):Int)) (aU [9] 7 (go 2 ?_));refine aY 2 J J (bo [S] J J V call31 J (uT (_::_::A) _ [_] _ _ S W l i2 us G (aG bB ms) _ _ ar hi2 hl Y) de dc i_ ?_);rintro r3 s3 ⟨x3,i3,rfl,hm3,hi3,rfl⟩;unfold bf;refine aY 8 J J (bo [S,W] J J V call16 J (ih m Y (_::_::A) [_] _ _ us i3 (deep-1) 3 hi3 Y Y Y (by simp [hF])) jR so xC ?_);rintro r4 s4 ⟨b4l,i4,l4,rfl,DM,hi4,rfl⟩;have hle4:=DM.le;have hln4:=DM.aKg;refine cY [(10,false),(11,true),(12,false),(13,true),(14,false)] 0 (go 6 ?_);refine bC (go 1 ?_);refine ⟨J,(b2,_,(.mk 8 ay x3 .zero [] b4l []),l4,i4,u,us,vo,al),⟨J,(.r (.r (.r (.r (.r (.r (.r (.n (.n (.r (.n .nil))))))))))),(by show l4 <= L;omega),hi4,L2,(by show List.length (al++[(.mk 8 ay x3 .zero [] b4l [])])+2*l4 <= 2*L;(try simp only [length_append,length_cons,length_nil]);omega),lY.step hto [(.mk 8 ay x3 .zero [] b4l [])] (λ_ _ h=>by obtain ⟨d,rfl⟩:∃d,deep=d+1:=⟨deep-1,Y⟩;exact .loop hm3 DM h)⟩,az fG⟩
       refine aF J eU (go 8 ?_);refine aF J eU (go 17 ?_);refine aW J (bo [S] J J V call30 J (tW (_::_::A) _ [_] _ _ S W l i2 ms ps us fn G _ FB _ ar hi2 hl hm1 hm2 hmz hp2 Y) (ba) (ba (h:=by simp [aH.bl])) (λ_=>ba) ?_)
      rotate_left;focus
       refine aF J eU (go 11 ?_);by_cases aOb:z2=13;focus
        refine aJ J fP (go 5 ?_);refine aW J (bo [S] J J V fN J (fa (_::_::A) _ _ _ l i2 _ hi2 hl V V) (ba) (ba (h:=by simp [aH.bl])) (λ_=>ba) ?_);rintro r11 s29 ⟨z3,i7,rfl,hy3,hi7,rfl⟩;by_cases hrt:z3=1
        ·refine aJ J fP (go 10 ?_);refine ⟨J,(b2,_,(.mk 9 ay .zero .zero [] [] []),m,i7,u,us,vo,al),⟨J,(.r (.r (.r (.r (.r (.n (.r (.n (.n (.n (.n .nil))))))))))),vH,hi7,xM,(by show List.length (al++[(.mk 9 ay .zero .zero [] [] [])])+2*m <= 2*L;(try simp only [length_append,length_cons,length_nil]);omega),lY.step hto [(.mk 9 ay .zero .zero [] [] [])] (λ_ _ h=>.ret h)⟩,az fG⟩
        refine aF J eU (go 10 ?_);refine aW J (bo [S] J J V call30 J (tW (_::_::A) _ [_] _ _ S W l i7 ms ps us fn G _ FB _ ar hi7 hl hm1 hm2 hmz hp2 Y) (ba) (ba (h:=by simp [aH.bl])) (λ_=>ba) ?_)
       rotate_left;refine aF J eU (go 17 ?_);refine aW J (bo [S] J J V call30 J (tW (_::_::A) _ [_] _ _ S W l i2 ms ps us fn G _ FB _ ar hi2 hl hm1 hm2 hmz hp2 Y) (ba) (ba (h:=by simp [aH.bl])) (λ_=>ba) ?_)
    all_goals
     rintro r3 s3 ⟨f3,i3,rfl,hm3,hi3,rfl⟩;unfold encR;refine go 17 λb13=>?_;refine cx 60 J (bI.agg (.r (.r (.r (.r (.r (.n (.r (.r (.n (.n (.n .nil)))))))))))) ?_;refine aW J (bU (hf:=dd encS cm (.mk 5 ay .zero f3 [] [] []) (mQ _) J J) CM ?_);refine aW J (eW [] Tryz.t105 192 J J V J J pi aL J J J J V J IW Hs (@length_append _ al [(.mk 5 ay .zero f3 [] [] [])]).symm fy co (dh (f:=encS)).symm λv4=>?_);refine go 9 ?_;refine aW J (bo [S,W] J J V call16 J (ih m Y (_::_::_::A) [_] _ _ us i3 0 2 hi3 Y Y Y (by simp [hF])) jR so mI ?_);rintro r5 s5 ⟨b5l,i5,l5,rfl,hm5,hi5,rfl⟩;have hle5:=hm5.le;have hln5:=hm5.aKg;refine aW J (eW [] Tryz.t105 192 J J V J J pi aL J J J J V (Nn _) IW Hs (@length_append _ (al++[(.mk 5 ay .zero f3 [] [] [])]) b5l).symm fy co (dh (f:=encS)).symm λv6=>?_);refine go 8 ?_;refine ⟨J,(b2,_,(.mk 6 ay .zero f3 [] [] []),l5,i5,u,us,v6,(al++[(.mk 5 ay .zero f3 [] [] [])]++b5l)),⟨J,(.r (.r (.r (.r (.r (.n (.r (.r (.n (.n (.n .nil))))))))))),(by show l5 <= L;omega),hi5,(by show List.length us+l5 <= 1000;(try simp only [length_append,length_cons,length_nil]);omega),(by show List.length ((al++[(.mk 5 ay .zero f3 [] [] [])]++b5l)++[(.mk 6 ay .zero f3 [] [] [])])+2*l5 <= 2*L;(try simp only [length_append,length_cons,length_nil]);omega),(by have h:=lY.step hto ((.mk 5 ay .zero f3 [] [] [])::(b5l++[(.mk 6 ay .zero f3 [] [] [])])) (λ_ _ h=>by rw [eE,append_assoc];exact .pair hm3 hm5 h);simpa using h)⟩,az (h1:=bG) fG⟩
   rintro ⟨tb,cs,sm,m2,i9,u2,us2,vo2,al2⟩ ⟨hcl,hwk,aRo,hi9,aRp,aL8,aOd⟩;dsimp only at hcl hwk aRo hi9 aRp aL8 aOd;have hal3:al2.length+1+2*m2 <= 2*L:=by simp only [length_append,length_cons,length_nil] at aL8;omega
   show bi prog _ (⟨249,tb::(aR vo2++(aR u2++[b1,S,W])),⟨⟨tb,105,cs⟩::⟨b1,49,[ac fn,aG cE ps,FB]⟩::(A++⟨S,59,[.sl l.length (l.map λi=>aA i),am i9]⟩::⟨W,61,[.val (.pointer (some ⟨S,0,none⟩)),G,(aG bB ms),(.val (.slice (some ⟨gF,0,none⟩) fs.length gc)),am m2,bD ar]⟩::B),⟨vo2,105,11,al2.length,al2.flatMap encS⟩::⟨u2,9,1,us2.length,cj us2⟩::RA++⟨vv,9,1,vars.length,cj vars⟩::rw⟩,[(13,aE tb),(12,ab (n+1)),(11,ap vo2),(2,ap u2),(0,aE W),(3,ab deep),(6,aE b1)]⟩:AS) _;refine go 2 ?_;refine aC J (id (cW (hp:=cG hcl J) [] ge eB)) ?_;refine cx 245 J (bI.agg hwk) ?_;refine aW J (bU (hf:=dd encS cm sm (mQ _) J J) CM ?_);refine aW J (eW [] Tryz.t105 192 J J V J J pi aL J J J J V (Nn [sm]) IW Hs (@length_append _ al2 [sm]).symm fy co (dh (f:=encS)).symm λv3=>?_);refine go 6 ?_;refine aC J (jz (n:Int)) (go 2 ?_);refine ⟨(n,m2,i9,u2,us2,v3,(al2++[sm])),⟨by show n <= most;omega,by show m2 <= L;omega,hi9,by show List.length us2+m2 <= 1000;omega,aL8,aOd⟩,H8 n,az (h1:=bG) fG⟩
  refine aF J eU (go 11 ?_)
 rotate_left;refine aF J eU (go 17 ?_);all_goals
  refine io 11 J ?_;refine go 5 ?_;exact ⟨.inr J,_,eS A (⟨W,61,[.val (.pointer (some ⟨S,0,none⟩)),G,(aG bB ms),(.val (.slice (some ⟨gF,0,none⟩) fs.length gc)),am lf,bD ar]⟩::B) (eg RA vv vars rw) S l ik,bJ J (bO J),ah bG bG,⟨al,ik,lf,J,hto.fin,hik,J⟩⟩
def Um(B:List aV)(S W:Nat)(l:List Int)(ms:List cn)(ps:List bg)(fn:aI)(G FB:aO)(ar:Bool)(fs:List (aI×List bg×aO))(gF gc:Nat)(hl:l.length <= 1000000)(hm1:1 <= ms.length)(hm2:ms.length <= 1000)(hmz:∀m,m∈ms -> m.size <= 1000)(hp2:ps.length <= 1000)(hf1:1 <= fs.length)(hf2:fs.length <= 1000)(hfp:∀f,f∈fs -> f.2.1.length <= 1000):∀(L:Nat) (A:List aV) (RA rw:List aQ) (vv:aN) (vars:List aI) (i0 deep most:Nat) (hi0:i0 <= l.length) (hd:deep <= 100) (Nd:most <= 1000) (hvl:vars.length+L <= 1000) (hF:(⟨.slice (some ⟨gF,0,none⟩) fs.length gc,49,3,fs.length,fs.flatMap dj⟩:aQ)∈rw),aT prog 16 [aE W,.agg [ac fn,aG cE ps,FB],ap vv,ab deep,ab most] [S,W] (eS A (⟨W,61,[.val (.pointer (some ⟨S,0,none⟩)),G,(aG bB ms),(.val (.slice (some ⟨gF,0,none⟩) fs.length gc)),am L,bD ar]⟩::B) (eg RA vv vars rw) S l i0) (λr s=>∃(al:List aD) (i left':Nat),r=.c (aG encS al) /\ fD ms (fs.map λf=>(f.1,f.2.1)) ps vars deep L al left' /\ i <= l.length /\ s=eS A (⟨W,61,[.val (.pointer (some ⟨S,0,none⟩)),G,(aG bB ms),(.val (.slice (some ⟨gF,0,none⟩) fs.length gc)),aA (left':Int),bD ar]⟩::B) (eg RA vv vars rw) S l i):=by
 intro L;induction L using Nat.strongRecOn with
 |ind L ih=>exact λA RA rw vv vars i0 deep most hi0 hd Nd hvl hF=>T8 B S W l ms ps fn G FB ar fs gF gc hl hm1 hm2 hmz hp2 hf1 hf2 hfp L ih A RA rw vv vars i0 deep most hi0 hd Nd hvl hF
def EP(B:List aV)(S W:Nat)(l:List Int)(ms:List cn)(ps:List bg)(fn:aI)(G FB:aO)(ar:Bool)(fs:List (aI×List bg×aO))(gF gc:Nat)(hl:l.length <= 1000000)(hm1:1 <= ms.length)(hm2:ms.length <= 1000)(hmz:∀m,m∈ms -> m.size <= 1000)(hp2:ps.length <= 1000)(hf1:1 <= fs.length)(hf2:fs.length <= 1000)(hfp:∀f,f∈fs -> f.2.1.length <= 1000)(k:Nat)(hk:fs.length=k)(L:Nat)(A:List aV)(RA rw:List aQ)(vv:aN)(vars:List aI)(i0 deep most:Nat)(hi0:i0 <= l.length)(hd:deep <= 100)(Nd:most <= 1000)(hvl:vars.length+L <= 1000)(hF:(⟨.slice (some ⟨gF,0,none⟩) k gc,49,3,k,fs.flatMap dj⟩:aQ)∈rw):aT prog 16 [aE W,.agg [ac fn,aG cE ps,FB],ap vv,ab deep,ab most] [S,W] (eS A (⟨W,61,[.val (.pointer (some ⟨S,0,none⟩)),G,(aG bB ms),(.val (.slice (some ⟨gF,0,none⟩) k gc)),am L,bD ar]⟩::B) (eg RA vv vars rw) S l i0) (λr s=>∃(al:List aD) (i left':Nat),r=.c (aG encS al) /\ fD ms (fs.map λf=>(f.1,f.2.1)) ps vars deep L al left' /\ i <= l.length /\ s=eS A (⟨W,61,[.val (.pointer (some ⟨S,0,none⟩)),G,(aG bB ms),(.val (.slice (some ⟨gF,0,none⟩) k gc)),aA (left':Int),bD ar]⟩::B) (eg RA vv vars rw) S l i):=by
 subst hk;exact Um B S W l ms ps fn G FB ar fs gF gc hl hm1 hm2 hmz hp2 hf1 hf2 hfp L A RA rw vv vars i0 deep most hi0 hd Nd hvl hF
end
section
open Go.RowKit
def nB{α:Type}(p:Nat -> α -> Prop)(l:List α):Prop:=∀k (h:k<l.length),p k l[k]
def nB.nil{α:Type}(p:Nat -> α -> Prop):nB p []:=λk h=>absurd h (HU _)
def nB.snoc{α:Type}{p:Nat -> α -> Prop}{l:List α}{x:α}(h:nB p l)(hx:p l.length x):nB p (l++[x]):=λk hk=>by
 by_cases hl:k<l.length
 ·rw [sG hl];exact h k hl
 have:k=l.length:=by simp at hk;omega
 subst this;rw [rX (bY _)];simpa using hx
def yG(q:Nat):ByteArray:=if q=0 then bytes [109,97,105,110] else bytes [102,UInt8.ofNat (48+q)]
abbrev bp(s:ByteArray×List bg):ByteArray×List bg×aO:=(s.1,s.2,aK)
def HH(i:Nat)(s:ByteArray×List bg):Prop:=s.1=yG i /\ (i=0 -> s.2=[]) /\ xN s.2
def Ux{P:Program}{c:Code}{n:Nat}{T:List Nat}{ts:List (Nat×AT)}{Q:Exit -> AS -> Prop}{rw:List aQ}{b:Nat}{E:ax}{cs cs':List aO}{v:aN}{E2:ax}{z k:Nat}{ds:List aO}(A:List aV){B:List aV}(i:Nat)(hi:cs[i]?=some (.val v))(hr:cs.set i (.sl k ds)=cs')(h:bi P c ⟨n,T,⟨A++⟨b,E,cs'⟩::B,rw⟩,ts⟩ Q)(hz:0<z:=by decide):bi P c ⟨n,T,⟨A++⟨b,E,cs⟩::B,⟨v,E2,z,k,ds⟩::rw⟩,ts⟩ Q:=by
 subst hr;exact rY (rS (st:=⟨n,T,⟨A++⟨b,E,cs⟩::B,⟨v,E2,z,k,ds⟩::rw⟩,ts⟩) (FP (r:=⟨v,E2,z,k,ds⟩) A i hi hz)) h
def U5(fs:List (aI×List bg×aO))(j:Nat)(h:j<fs.length):fi false 1 (fs.flatMap dj) (0+j*3+1)=some (.c (aG cE fs[j].2.1)):=by
 obtain ⟨h1,h2⟩:=flat_get dj 3 (λ_=>rfl) fs j h;unfold fi;rw [if_neg V,cq];have h3:((fs.flatMap dj).drop (j*3))[1]?=(dj fs[j])[1]?:=by rw [←h1,pD];rfl
 rw [rK] at h3;rw [h3];rfl
def V'(fs:List (aI×List bg×aO))(j:Nat)(h:j<fs.length)(c:aO):splice (fs.flatMap dj) (0+j*3+2) [c]=(fs.set j (fs[j].1,fs[j].2.1,c)).flatMap dj /\ 0+j*3+2+1 <= (fs.flatMap dj).length:=by
 induction fs generalizing j with
 |nil=>simp at h
 |cons f fs ih=>
  cases j with
  |zero=>exact ⟨rfl,by rw [eZ,length_append];show 0+0*3+2+1 <= 3+_;omega⟩
  |succ j=>
   obtain ⟨h1,h2⟩:=ih j iX;refine ⟨?_,by rw [eZ,length_append];show 0+(j+1)*3+2+1 <= 3+_;omega⟩;rw [show 0+(j+1)*3+2=3+(0+j*3+2) by omega];have e:splice (dj f++fs.flatMap dj) (3+(0+j*3+2)) [c]=dj f++splice (fs.flatMap dj) (0+j*3+2) [c]:=by
    generalize 0+j*3+2=q;generalize fs.flatMap dj=t;unfold splice dj;simp [D6 3 q,jb]
    try (rw [show q+3+1=(q+1)+3 by omega];rfl)
   rw [eZ,e,h1];rfl
abbrev IK(f:a_):ByteArray×List bg×aO:=(f.name,f.params,aG encS f.body)
def YB(ds:List a_):(ds.map IK).flatMap dj=ds.flatMap bT:=by
 induction ds with
 |nil=>rfl
 |cons f ds ih=>rw [ca,eZ,eZ,ih];rfl
def fJ(sg:List iV)(ds:List a_):List (ByteArray×List bg×aO):=ds.map IK++(sg.drop ds.length).map bp
def yH{sg:List iV}{ds:List a_}(h:ds.length <= sg.length):(fJ sg ds).length=sg.length:=by
 unfold fJ;rw [length_append,gS,gS,kA];omega
def Ho{sg:List iV}{ds:List a_}(h:ds.length<sg.length)(h2:ds.length<(fJ sg ds).length):(fJ sg ds)[ds.length]=bp sg[ds.length]:=by
 have e:(fJ sg ds)[ds.length]?=some (bp sg[ds.length]):=by
  unfold fJ;rw [oV aM];simp [kl h]
 rw [kl h2] at e;exact mU e
def Yn{sg:List iV}{ds:List a_}(h:ds.length<sg.length)(b:List aD):(fJ sg ds).set ds.length (sg[ds.length].1,sg[ds.length].2,aG encS b)=fJ sg (ds++[⟨sg[ds.length].1,sg[ds.length].2,b⟩]):=by
 unfold fJ;rw [List.set_append_right _ _ aM,gS,Nat.sub_self,ii h,ca,BB];simp
def Ev{sg:List iV}{ds:List a_}(h:ds.length<sg.length):fi true 3 ((fJ sg ds).flatMap dj) (0+ds.length*3)=some (.agg [ac (sg[ds.length].1),.sl sg[ds.length].2.length (sg[ds.length].2.flatMap cE),aK]):=by
 have h2:ds.length<(fJ sg ds).length:=ID;rw [wF (fJ sg ds) ds.length h2,Ho h h2]
def Ix{sg:List iV}{ds:List a_}(h:ds.length<sg.length):fi false 1 ((fJ sg ds).flatMap dj) (0+ds.length*3+1)=some (.c (.sl sg[ds.length].2.length (sg[ds.length].2.flatMap cE))):=by
 have h2:ds.length<(fJ sg ds).length:=ID;rw [U5 (fJ sg ds) ds.length h2,Ho h h2]
def Qf{sg:List iV}{ds:List a_}(h:ds.length<sg.length)(b:List aD):splice ((fJ sg ds).flatMap dj) (0+ds.length*3+2) [aG encS b]=(fJ sg (ds++[⟨sg[ds.length].1,sg[ds.length].2,b⟩])).flatMap dj /\ 0+ds.length*3+2+1 <= ((fJ sg ds).flatMap dj).length:=by
 have h2:ds.length<(fJ sg ds).length:=ID;obtain ⟨ae,e2⟩:=V' (fJ sg ds) ds.length h2 (.sl b.length (b.flatMap encS));refine ⟨?_,e2⟩;rw [ae,Ho h h2,←Yn h b]
def zM(sg:List iV)(ds:List a_)(h:ds.map a_.sig=sg.take ds.length):((fJ sg ds).map λf=>(f.1,f.2.1))=sg:=by
 have ae:((ds.map IK).map λf=>(f.1,f.2.1))=ds.map a_.sig:=Ef;have e2:(((sg.drop ds.length).map bp).map λf=>(f.1,f.2.1))=sg.drop ds.length:=by rw [o8];exact List.map_id _
 unfold fJ;rw [e1,ae,e2,h,ov]
def rD(gs:List bw)(ps:List bg):List ByteArray:=gs.map bw.name++(ps.filter λx=>!x.mutex).map bg.name
def Jr(gs:List bw)(ps:List bg)(j:Nat)(h:j<ps.length):rD gs (ps.take (j+1))=rD gs (ps.take j)++(if ps[j].mutex=true then [] else [ps[j].name]):=by
 unfold rD;rw [gX h,Eb,e1,append_assoc];cases hm:ps[j].mutex<;>simp [hm]
def RR{ms:List cn}(h:nB Ce ms):∀m,m∈ms -> m.size <= 1000:=λm hm=>by
 obtain ⟨k,hk,rfl⟩:=mT hm;rcases (h k hk).2 with h1|h1<;>omega
def XV{sg:List iV}{ds:List a_}(h:nB HH sg)(hd:ds.map a_.sig=sg.take ds.length):∀f,f∈fJ sg ds -> f.2.1.length <= 1000:=λf hf=>by
 have h1:(f.1,f.2.1)∈sg:=by rw [←zM sg ds hd];exact k_.2 ⟨f,hf,rfl⟩
 obtain ⟨k,hk,e⟩:=mT h1;have h2:=(h k hk).2.2.1;rw [e] at h2;exact iN h2 V
def Lh(ms:List cn)(sg:List iV)(gs:List bw)(lf:Nat)(ds:List a_):Prop:=∀rest,qC ms sg gs lf rest -> qC ms sg gs 24 (ds++rest)
def B1{P:Program}{U:List Nat}{o:Oper}{st:AS}(off q:Nat){t ft:ax}{x:bb}{fs:Array Field}{f z b p:Nat}(ho:o.op=.fieldAddr t x f)(hx:aw st x=some (ap (.pointer (some ⟨b,p,none⟩))))(hu:∀w,(underlying t).run P w=.ok (.struct fs) w)(hf:uK fs f=some (off,ft))(hS:∀w,(sizeOf ft).run P w=.ok z w)(hz:z≠0)(hq:p+off=q):cp P U o st (ap (.pointer (some ⟨b,q,none⟩))):=jX (ho:=ho) (hx:=hx) (hf:=hf) (hz:=hz) (hq:=hq) off q hu hS
def S0{sg:List iV}{ds:List a_}(h:ds.length=sg.length):(fJ sg ds).flatMap dj=ds.flatMap bT:=by
 unfold fJ;rw [h,sY (bY _),d7,eY,YB]
def Sg{ms:List cn}{gs:List bw}{sg:List iV}{ds:List a_}(hmN:1 <= ms.length /\ ms.length <= 4)(hms:nB Ce ms)(hgN:gs.length <= 2)(hgs:nB Gc gs)(hs1:1 <= sg.length /\ sg.length <= 4)(hsg:nB HH sg)(hd:ds.length=sg.length)(hdm:ds.map a_.sig=sg.take ds.length)(hbt:∃lf,Lh ms sg gs lf ds):BW ⟨gs,ms,ds⟩:=by
 have hds:ds.map a_.sig=sg:=by rw [hdm,hd,hP]
 obtain ⟨lf,hbt⟩:=hbt;refine ⟨⟨hmN.1,hmN.2,hms⟩,⟨hgN,hgs⟩,⟨by show 1 <= ds.length;omega,by show ds.length <= 4;omega,λk hk=>?_⟩,?_⟩
 ·have hk2:k<sg.length:=by rw [←hd];exact hk
  have e:sg[k]=ds[k].sig:=by simp only [←hds];simp
  obtain ⟨h1,h2,h3⟩:=hsg k hk2;rw [e] at h1 h2 h3;refine ⟨λh0=>⟨by rw [show ds[k].name=_ from h1,yG,if_pos h0],h2 h0⟩,λh0=>by rw [show ds[k].name=_ from h1,yG,if_neg Y],h3⟩
 have:=hbt [] .nil;rw [eY] at this;show qC ms (ds.map a_.sig) gs 24 ds;rw [hds];exact this
def T_(q:Nat):ef .eql (q:Int) 0=some (decide (q=0)):=by
 cases q with
 |zero=>rfl
 |succ n=>show some (((n+1:Nat):Int) == 0)=_;rw [show (((n+1:Nat):Int) == 0)=false from beq_eq_false_iff_ne.2 Y];rfl
def Yu(l0:List Int)(hl0:l0.length <= 9223372036854775807)(s:aH):aT prog 5 [.c (.sl l0.length (l0.map λi=>aA i))] [] s (λr s'=>∃p,r=.agg (di p) /\ BW p /\ s'=s):=by
 obtain ⟨bx,rw⟩:=s;refine bM 264 func5 ?_;refine go 8 λb1=>?_;refine aW J (bo [] J J V call14 J (YF l0 400 _) dX dX (λ_=>dX) ?_);rintro rc sc ⟨rfl,rfl⟩;obtain ⟨l,hlc⟩:∃x,x=l0.take 400:=⟨_,rfl⟩;rw [←hlc];have hl:l.length <= 1000000:=by rw [hlc,kU];omega
 clear hlc;have hi0:0 <= l.length:=eL _;refine go 9 λS W=>?_;refine Wu ?_;refine go 5 ?_;refine aW J (bo [S] J J V fN J (fa [] _ _ _ l 0 _ hi0 hl V V) (ba) (ba (h:=by simp [aH.bl])) (λ_=>ba) ?_);rintro r1 s1 ⟨z1,i1,rfl,hy1,hi1,rfl⟩;obtain ⟨ar,har⟩:∃b,ef .eql (z1:Int) 1=some b:=⟨_,rfl⟩;refine aC J (ei ar J J J har) (go 12 ?_);refine aW J (bo [S] J J V fN J (fa [] _ _ _ l i1 _ hi1 hl V V) (ba) (ba (h:=by simp [aH.bl])) (λ_=>ba) ?_);rintro r2 s2 ⟨z2,i2,rfl,hy2,hi2,rfl⟩;refine aC J (lz (m:=1)) (go 5 ?_);refine gA 45 3 ?_;refine fv (λg:Nat×aN×List cn×Nat=>(⟨264,aR g.2.1++[W,S,b1],⟨⟨S,59,[.sl l.length (l.map λi=>aA i),am g.2.2.2]⟩::⟨W,61,[.val (.pointer (some ⟨S,0,none⟩)),aK,.val g.2.1,aK,aA 24,bD ar]⟩::⟨b1,27,[aK,aK,aK]⟩::bx,⟨g.2.1,45,3,g.2.2.1.length,g.2.2.1.flatMap bB⟩::rw⟩,[(4,ab g.1),(5,ab (1+z2)),(3,aE W),(2,aE b1)]⟩:AS)) (λg=>g.1 <= (1+z2) /\ g.2.2.1.length=g.1 /\ nB Ce g.2.2.1 /\ g.2.2.2 <= l.length) (λg=>(1+z2)-g.1) (0,.slice none 0 0,[],i2) (az vJ) ⟨eL _,J,.nil _,hi2⟩ ?_;rintro ⟨k,vM,ms,ik⟩ ⟨hk,hmk,hms,hik⟩;dsimp only at hk hmk hms hik;show bi prog _ (⟨264,aR vM++[W,S,b1],⟨⟨S,59,[.sl l.length (l.map λi=>aA i),am ik]⟩::⟨W,61,[.val (.pointer (some ⟨S,0,none⟩)),aK,.val vM,aK,aA 24,bD ar]⟩::⟨b1,27,[aK,aK,aK]⟩::bx,⟨vM,45,3,ms.length,ms.flatMap bB⟩::rw⟩,[(4,ab k),(5,ab (1+z2)),(3,aE W),(2,aE b1)]⟩:AS) _;refine go 5 ?_;by_cases hlt:k<(1+z2)
 ·refine aJ J fP (go 10 ?_);refine aC J (lz (m:=97)) ?_;refine aC J (wh J J Y J J J) ?_;refine aW J (bU (r:=cb [UInt8.ofNat (97+k)]) ku ?_);refine aC J (li J J J) (go 12 λb2=>?_);refine aW J (bo [S] J J V fN J (fa [_] _ _ _ l ik _ hik hl V V) (ba) (ba (h:=by simp [aH.bl])) (λ_=>ba) ?_);rintro r3 s3 ⟨z3,i3,rfl,hy3,hi3,rfl⟩;refine go 5 ?_;by_cases h1:z3=1
  ·refine aJ J fP (go 10 ?_);refine bu [b2,S,b1] (aU [0,1,2,3,4,6] 7 (go 7 ?_));refine cC 5 7 J ?_ ?_;focus
    refine dR J V (cW [_,_] kC kL) ?_;refine aY 7 J J (bU (hf:=dd bB bB ⟨(bytes [UInt8.ofNat (97+k)]),true,0⟩ J J J) kT ?_)
   rotate_left;refine (bU (hf:=dd bB bB ⟨(bytes [UInt8.ofNat (97+k)]),true,0⟩ J J J) kT ?_);refine aY 5 J J (dR J V (cW [_,_] kC kL) ?_);all_goals
    refine aY 8 J J (dS [] uP J J V cO Y (@length_append _ ms [⟨(bytes [UInt8.ofNat (97+k)]),true,0⟩]).symm (λhn b hb=>gi hn hb) co (dh (f:=bB)).symm λv4=>?_);refine cY [(9,true),(10,true),(11,true),(12,false)] 0 (go 5 ?_);refine bC (go 4 ?_);refine aC J (lz (k:=1)) (go 2 ?_);refine ⟨(k+1,v4,ms++[⟨(bytes [UInt8.ofNat (97+k)]),true,0⟩],i3),⟨Fy,by show List.length (ms++[⟨(bytes [UInt8.ofNat (97+k)]),true,0⟩])=k+1;simp only [length_append,length_cons,length_nil];omega,hms.snoc (by rw [hmk];exact ⟨rfl,.inr ⟨rfl,rfl⟩⟩),hi3⟩,JG,az (h1:=bG) fG⟩
  refine aF J eU (go 6 ?_);by_cases h2:z3=2
  ·refine aJ J fP (go 9 ?_);refine aW J (bo [S] J J V fN J (fa [_] _ _ _ l i3 _ hi3 hl V V) (ba) (ba (h:=by simp [aH.bl])) (λ_=>ba) ?_);rintro r4 s4 ⟨z4,i4,rfl,hy4,hi4,rfl⟩;refine aC J (lz (m:=1)) (go 5 ?_);refine bu [b2,S,b1] (aU [0,1,2,3,4,6] 7 (go 7 ?_));refine cC 5 7 J ?_ ?_;focus
    refine dR J V (cW [_,_] kC kL) ?_;refine aY 7 J J (bU (hf:=dd bB bB ⟨(bytes [UInt8.ofNat (97+k)]),false,((1+z4:Nat):Int)⟩ J J J) kT ?_)
   rotate_left;refine (bU (hf:=dd bB bB ⟨(bytes [UInt8.ofNat (97+k)]),false,((1+z4:Nat):Int)⟩ J J J) kT ?_);refine aY 5 J J (dR J V (cW [_,_] kC kL) ?_);all_goals
    refine aY 8 J J (dS [] uP J J V cO Y (@length_append _ ms [⟨(bytes [UInt8.ofNat (97+k)]),false,((1+z4:Nat):Int)⟩]).symm (λhn b hb=>gi hn hb) co (dh (f:=bB)).symm λv5=>?_);refine cY [(9,true),(10,true),(11,true),(12,false)] 0 (go 5 ?_);refine bC (go 4 ?_);refine aC J (lz (k:=1)) (go 2 ?_);refine ⟨(k+1,v5,ms++[⟨(bytes [UInt8.ofNat (97+k)]),false,((1+z4:Nat):Int)⟩],i4),⟨Fy,by show List.length (ms++[⟨(bytes [UInt8.ofNat (97+k)]),false,((1+z4:Nat):Int)⟩])=k+1;simp only [length_append,length_cons,length_nil];omega,hms.snoc (by rw [hmk];exact ⟨rfl,.inl ⟨rfl,by show (0:Int) <= ((1+z4:Nat):Int);omega,by show ((1+z4:Nat):Int) <= 3;omega⟩⟩),hi4⟩,JG,az (h1:=bG) fG⟩
  refine aF J eU (go 7 ?_);refine bu [b2,S,b1] (aU [0,1,2,3,4,6] 7 (go 7 ?_));refine cC 5 7 J ?_ ?_;focus
   refine dR J V (cW [_,_] kC kL) ?_;refine aY 7 J J (bU (hf:=dd bB bB ⟨(bytes [UInt8.ofNat (97+k)]),false,0⟩ J J J) kT ?_)
  rotate_left;refine (bU (hf:=dd bB bB ⟨(bytes [UInt8.ofNat (97+k)]),false,0⟩ J J J) kT ?_);refine aY 5 J J (dR J V (cW [_,_] kC kL) ?_);all_goals
   refine aY 8 J J (dS [] uP J J V cO Y (@length_append _ ms [⟨(bytes [UInt8.ofNat (97+k)]),false,0⟩]).symm (λhn b hb=>gi hn hb) co (dh (f:=bB)).symm λv4=>?_);refine cY [(9,true),(10,true),(11,true),(12,false)] 0 (go 5 ?_);refine bC (go 4 ?_);refine aC J (lz (k:=1)) (go 2 ?_);refine ⟨(k+1,v4,ms++[⟨(bytes [UInt8.ofNat (97+k)]),false,0⟩],i3),⟨Fy,by show List.length (ms++[⟨(bytes [UInt8.ofNat (97+k)]),false,0⟩])=k+1;simp only [length_append,length_cons,length_nil];omega,hms.snoc (by rw [hmk];exact ⟨rfl,.inl ⟨rfl,by show (0:Int) <= 0;decide,by show (0:Int) <= 3;decide⟩⟩),hi3⟩,JG,az (h1:=bG) fG⟩
 refine aF J eU (go 10 ?_);have hmN:1 <= ms.length /\ ms.length <= 4:=Y;refine eO [_] 2 J J ?_;refine go 10 ?_;refine aW J (bo [S] J J V fN J (fa [] _ _ _ l ik _ hik hl V V) (ba) (ba (h:=by simp [aH.bl])) (λ_=>ba) ?_);rintro r3 s3 ⟨z3,i3,rfl,hy3,hi3,rfl⟩;refine go 5 ?_;refine gA 9 1 ?_;refine gA 43 2 ?_;refine fv (λg:Nat×aN×aN×List bw×Nat=>(⟨264,aR g.2.1++(aR g.2.2.1++[W,S,b1]),⟨⟨S,59,[.sl l.length (l.map λi=>aA i),am g.2.2.2.2]⟩::⟨W,61,[.val (.pointer (some ⟨S,0,none⟩)),.val g.2.1,(aG bB ms),aK,aA 24,bD ar]⟩::⟨b1,27,[aK,aK,aK]⟩::bx,⟨g.2.1,43,2,g.2.2.2.1.length,g.2.2.2.1.flatMap cR⟩::⟨g.2.2.1,9,1,g.2.2.2.1.length,cj (g.2.2.2.1.map bw.name)⟩::rw⟩,[(8,ab g.1),(9,ab z3),(7,ap g.2.2.1),(3,aE W),(2,aE b1)]⟩:AS)) (λg=>g.1 <= z3 /\ g.2.2.2.1.length=g.1 /\ nB Gc g.2.2.2.1 /\ g.2.2.2.2 <= l.length) (λg=>z3-g.1) (0,.slice none 0 0,.slice none 0 0,[],i3) (az (by intro x hx;simp [aR,Value.ownBlock] at hx⊢;rcases hx with h|h|h<;>simp [h])) ⟨eL _,rfl,.nil _,hi3⟩ ?_;clear hik hk hmk;rintro ⟨k,vG,vv,gs,ik⟩ ⟨hk,If,hgs,hik⟩;dsimp only at hk If hgs hik;show bi prog _ (⟨264,aR vG++(aR vv++[W,S,b1]),⟨⟨S,59,[.sl l.length (l.map λi=>aA i),am ik]⟩::⟨W,61,[.val (.pointer (some ⟨S,0,none⟩)),.val vG,(aG bB ms),aK,aA 24,bD ar]⟩::⟨b1,27,[aK,aK,aK]⟩::bx,⟨vG,43,2,gs.length,gs.flatMap cR⟩::⟨vv,9,1,gs.length,cj (gs.map bw.name)⟩::rw⟩,[(8,ab k),(9,ab z3),(7,ap vv),(3,aE W),(2,aE b1)]⟩:AS) _;refine go 5 ?_;by_cases hlt2:k<z3
 ·refine aJ J fP (go 8 ?_);refine zP (λg:Nat×Nat×Nat=>(⟨264,g.1::aR vG++(aR vv++[W,S,b1]),⟨⟨g.1,43,[ac (bytes [103,UInt8.ofNat (48+k)]),aA ((g.2.1:Int)-2)]⟩::⟨S,59,[.sl l.length (l.map λi=>aA i),am g.2.2]⟩::⟨W,61,[.val (.pointer (some ⟨S,0,none⟩)),.val vG,(aG bB ms),aK,aA 24,bD ar]⟩::⟨b1,27,[aK,aK,aK]⟩::bx,⟨vG,43,2,gs.length,gs.flatMap cR⟩::⟨vv,9,1,gs.length,cj (gs.map bw.name)⟩::rw⟩,[(10,ap (.pointer (some ⟨g.1,0,none⟩))),(8,ab k),(9,ab z3),(7,ap vv),(3,aE W),(2,aE b1)]⟩:AS)) (λg=>g.2.1<5 /\ g.2.2 <= l.length) ?_ ?_
  ·refine bu [W,b1] (aU [0] 14 (go 2 ?_));refine aZ 1 J (lz (m:=48)) ?_;refine aZ 2 J (wh J J Y J J J) (aU [6,7,8,9] 8 (go 5 ?_));refine three 3 10 13 aL J J J J J J ?_ ?_ ?_;focus
    refine (bU (r:=cb [UInt8.ofNat (48+k)]) ku ?_);refine aZ 4 J (li J J J) ?_;refine aZ 5 J (pg (c:=103) (d:=UInt8.ofNat (48+k)) J J J J J J) ?_;refine cC 10 13 J ?_ ?_;focus
     refine (bo [S] J J V fN J (fa [] _ _ _ l ik _ hik hl V V) de dc i_ ?_);rintro r4 s4 ⟨z4,i4,rfl,hy4,hi4,rfl⟩;refine aZ 11 J (kM) (cY [(12,true),(13,false),(14,false)] 0 (go 4 λb7=>?_))
    rotate_left;refine (iz J J V Ba J λb7=>?_);refine aY 10 J J (bo [S] J J V fN J (fa [_] _ _ _ l ik _ hik hl V V) de dc i_ ?_);rintro r4 s4 ⟨z4,i4,rfl,hy4,hi4,rfl⟩;refine aZ 11 J (kM) (cY [(12,true),(14,false)] 0 (go 3 ?_))
   rotate_left 2;focus
    refine (bo [S] J J V fN J (fa [] _ _ _ l ik _ hik hl V V) de dc i_ ?_);rintro r4 s4 ⟨z4,i4,rfl,hy4,hi4,rfl⟩;refine aZ 11 J (kM) ?_;refine cC 3 13 J ?_ ?_;focus
     refine (bU (r:=cb [UInt8.ofNat (48+k)]) ku ?_);refine aZ 4 J (li J J J) ?_;refine aZ 5 J (pg (c:=103) (d:=UInt8.ofNat (48+k)) J J J J J J) (cY [(12,true),(13,false),(14,false)] 0 (go 4 λb7=>?_))
    rotate_left;refine (iz J J V Ba J λb7=>?_);refine aY 3 J J (bU (r:=cb [UInt8.ofNat (48+k)]) ku ?_);refine aZ 4 J (li J J J) ?_;refine aZ 5 J (pg (c:=103) (d:=UInt8.ofNat (48+k)) J J J J J J) (cY [(12,true),(14,false)] 0 (go 3 ?_))
   rotate_left 2;focus
    refine (iz J J V Ba J λb7=>?_);refine cC 3 10 J ?_ ?_;focus
     refine (bU (r:=cb [UInt8.ofNat (48+k)]) ku ?_);refine aZ 4 J (li J J J) ?_;refine aZ 5 J (pg (c:=103) (d:=UInt8.ofNat (48+k)) J J J J J J) ?_;refine aY 10 J J (bo [S] J J V fN J (fa [_] _ _ _ l ik _ hik hl V V) de dc i_ ?_);rintro r4 s4 ⟨z4,i4,rfl,hy4,hi4,rfl⟩;refine aZ 11 J (kM) (cY [(12,true),(14,false)] 0 (go 3 ?_))
    rotate_left;refine (bo [S] J J V fN J (fa [_] _ _ _ l ik _ hik hl V V) de dc i_ ?_);rintro r4 s4 ⟨z4,i4,rfl,hy4,hi4,rfl⟩;refine aZ 11 J (kM) ?_;refine aY 3 J J (bU (r:=cb [UInt8.ofNat (48+k)]) ku ?_);refine aZ 4 J (li J J J) ?_;refine aZ 5 J (pg (c:=103) (d:=UInt8.ofNat (48+k)) J J J J J J) (cY [(12,true),(14,false)] 0 (go 3 ?_))
   all_goals
    refine bC ?_;exact ⟨J,(b7,z4,i4),⟨by show z4<5;omega,hi4⟩,az (λ_ h=>h)⟩
  rintro ⟨b2,zz,i2⟩ ⟨hzz,hi2⟩;dsimp only at hzz hi2;show bi prog _ (⟨264,b2::aR vG++(aR vv++[W,S,b1]),⟨⟨b2,43,[ac (bytes [103,UInt8.ofNat (48+k)]),aA ((zz:Int)-2)]⟩::⟨S,59,[.sl l.length (l.map λi=>aA i),am i2]⟩::⟨W,61,[.val (.pointer (some ⟨S,0,none⟩)),.val vG,(aG bB ms),aK,aA 24,bD ar]⟩::⟨b1,27,[aK,aK,aK]⟩::bx,⟨vG,43,2,gs.length,gs.flatMap cR⟩::⟨vv,9,1,gs.length,cj (gs.map bw.name)⟩::rw⟩,[(10,aE b2),(8,ab k),(9,ab z3),(7,ap vv),(3,aE W),(2,aE b1)]⟩:AS) _;refine bu [b2,S,b1] (aU [0,1,2,3,4,6,9,10,11] 10 (go 10 ?_));refine three 5 7 12 aL J J J J J J ?_ ?_ ?_;focus
   refine dR J V (cW [_,_] pG o9) ?_;refine cC 7 12 J ?_ ?_;focus
    refine (bU (hf:=dd cR cR (⟨bytes [103,UInt8.ofNat (48+k)],(zz:Int)-2⟩:bw) J J J) pT ?_);refine cC 8 12 J ?_ ?_;focus
     refine (dS [] rm J J V cO Y (@length_append _ gs [(⟨bytes [103,UInt8.ofNat (48+k)],(zz:Int)-2⟩:bw)]).symm (λhn b hb=>gi hn hb) co (dh (f:=cR)).symm λv4=>?_);refine aY 12 J J (bU (r:=cj ([(⟨bytes [103,UInt8.ofNat (48+k)],(zz:Int)-2⟩:bw)].map bw.name)) iy ?_)
    rotate_left;refine (bU (r:=cj ([(⟨bytes [103,UInt8.ofNat (48+k)],(zz:Int)-2⟩:bw)].map bw.name)) iy ?_);refine aY 8 J J (dS [] rm J J V cO Y (@length_append _ gs [(⟨bytes [103,UInt8.ofNat (48+k)],(zz:Int)-2⟩:bw)]).symm (λhn b hb=>gi hn hb) co (dh (f:=cR)).symm λv4=>?_)
   rotate_left 2;refine (bU (r:=cj ([(⟨bytes [103,UInt8.ofNat (48+k)],(zz:Int)-2⟩:bw)].map bw.name)) iy ?_);refine aY 7 J J (bU (hf:=dd cR cR (⟨bytes [103,UInt8.ofNat (48+k)],(zz:Int)-2⟩:bw) J J J) pT ?_);refine aY 8 J J (dS [] rm J J V cO Y (@length_append _ gs [(⟨bytes [103,UInt8.ofNat (48+k)],(zz:Int)-2⟩:bw)]).symm (λhn b hb=>gi hn hb) co (dh (f:=cR)).symm λv4=>?_)
  rotate_left 3;focus
   refine (bU (hf:=dd cR cR (⟨bytes [103,UInt8.ofNat (48+k)],(zz:Int)-2⟩:bw) J J J) pT ?_);refine cC 5 12 J ?_ ?_;focus
    refine dR J V (cW [_,_] pG o9) ?_;refine cC 8 12 J ?_ ?_;focus
     refine (dS [] rm J J V cO Y (@length_append _ gs [(⟨bytes [103,UInt8.ofNat (48+k)],(zz:Int)-2⟩:bw)]).symm (λhn b hb=>gi hn hb) co (dh (f:=cR)).symm λv4=>?_);refine aY 12 J J (bU (r:=cj ([(⟨bytes [103,UInt8.ofNat (48+k)],(zz:Int)-2⟩:bw)].map bw.name)) iy ?_)
    rotate_left;refine (bU (r:=cj ([(⟨bytes [103,UInt8.ofNat (48+k)],(zz:Int)-2⟩:bw)].map bw.name)) iy ?_);refine aY 8 J J (dS [] rm J J V cO Y (@length_append _ gs [(⟨bytes [103,UInt8.ofNat (48+k)],(zz:Int)-2⟩:bw)]).symm (λhn b hb=>gi hn hb) co (dh (f:=cR)).symm λv4=>?_)
   rotate_left 2;refine (bU (r:=cj ([(⟨bytes [103,UInt8.ofNat (48+k)],(zz:Int)-2⟩:bw)].map bw.name)) iy ?_);refine aY 5 J J (dR J V (cW [_,_] pG o9) ?_);refine aY 8 J J (dS [] rm J J V cO Y (@length_append _ gs [(⟨bytes [103,UInt8.ofNat (48+k)],(zz:Int)-2⟩:bw)]).symm (λhn b hb=>gi hn hb) co (dh (f:=cR)).symm λv4=>?_)
  rotate_left 3;focus
   refine (bU (r:=cj ([(⟨bytes [103,UInt8.ofNat (48+k)],(zz:Int)-2⟩:bw)].map bw.name)) iy ?_);refine cC 5 7 J ?_ ?_;focus
    refine dR J V (cW [_,_] pG o9) ?_;refine aY 7 J J (bU (hf:=dd cR cR (⟨bytes [103,UInt8.ofNat (48+k)],(zz:Int)-2⟩:bw) J J J) pT ?_)
   rotate_left;refine (bU (hf:=dd cR cR (⟨bytes [103,UInt8.ofNat (48+k)],(zz:Int)-2⟩:bw) J J J) pT ?_);refine aY 5 J J (dR J V (cW [_,_] pG o9) ?_);all_goals
    refine aY 8 J J (dS [] rm J J V cO Y (@length_append _ gs [(⟨bytes [103,UInt8.ofNat (48+k)],(zz:Int)-2⟩:bw)]).symm (λhn b hb=>gi hn hb) co (dh (f:=cR)).symm λv4=>?_)
  all_goals
   refine aY 13 J J (dS [_] pE J J V cO Y (@length_append _ gs [(⟨bytes [103,UInt8.ofNat (48+k)],(zz:Int)-2⟩:bw)]).symm (λhn b hb=>cz (r:=⟨vv,9,1,gs.length,cj (gs.map bw.name)⟩) hn hb) co (show cj (gs.map bw.name)++cj ([(⟨bytes [103,UInt8.ofNat (48+k)],(zz:Int)-2⟩:bw)].map bw.name)=cj ((gs++[(⟨bytes [103,UInt8.ofNat (48+k)],(zz:Int)-2⟩:bw)]).map bw.name) by simp [cj]) λv5=>?_);refine cY [(14,true),(15,true),(16,true),(17,false),(18,true)] 0 (go 6 ?_);refine bC (go 4 ?_);refine aC J (lz (k:=1)) (go 2 ?_);refine ⟨(k+1,v4,v5,gs++[(⟨bytes [103,UInt8.ofNat (48+k)],(zz:Int)-2⟩:bw)],i2),⟨by show k+1 <= z3;omega,by show List.length (gs++[(⟨bytes [103,UInt8.ofNat (48+k)],(zz:Int)-2⟩:bw)])=k+1;simp only [length_append,length_cons,length_nil];omega,hgs.snoc (by rw [If];exact ⟨rfl,by show -2 <= (zz:Int)-2;omega,by show (zz:Int)-2 <= 2;omega⟩),hi2⟩,by show z3-(k+1)<z3-k;omega,az (h1:=bG) fG⟩
 refine aF J eU (go 10 ?_);have hgN:gs.length <= 2:=Y;refine eO [_] 1 J J ?_;refine go 4 ?_;refine aW J (bo [S] J J V fN J (fa [] _ _ _ l ik _ hik hl V V) (ba) (ba (h:=by simp [aH.bl])) (λ_=>ba) ?_);rintro r4 s4 ⟨z4,i4,rfl,hy4,hi4,rfl⟩;refine go 10 ?_;refine gA 49 3 ?_;refine fv (λg:Nat×aN×List (aI×List bg)×Nat=>(⟨264,(aR g.2.1++(aR vv++[W,S,b1])),⟨⟨S,59,[.sl l.length (l.map λi=>aA i),am g.2.2.2]⟩::⟨W,61,[.val (.pointer (some ⟨S,0,none⟩)),(aG cR gs),(aG bB ms),.val g.2.1,aA 24,bD ar]⟩::⟨b1,27,[aK,aK,aK]⟩::bx,⟨g.2.1,49,3,g.2.2.1.length,(g.2.2.1.map bp).flatMap dj⟩::⟨vv,9,1,gs.length,cj (gs.map bw.name)⟩::rw⟩,[(12,ab g.1),(11,ab z4),(7,ap vv),(3,aE W),(2,aE b1)]⟩:AS)) (λg=>g.1 <= z4+1 /\ g.2.2.1.length=g.1 /\ nB HH g.2.2.1 /\ g.2.2.2 <= l.length) (λg=>z4+1-g.1) (0,.slice none 0 0,[],i4) (az Q7) ⟨eL _,J,.nil _,hi4⟩ ?_;clear hik hk If;rintro ⟨q,vF,sg,ik⟩ ⟨hq,hsq,hsg,hik⟩;dsimp only at hq hsq hsg hik;show bi prog _ (⟨264,(aR vF++(aR vv++[W,S,b1])),⟨⟨S,59,[.sl l.length (l.map λi=>aA i),am ik]⟩::⟨W,61,[.val (.pointer (some ⟨S,0,none⟩)),(aG cR gs),(aG bB ms),.val vF,aA 24,bD ar]⟩::⟨b1,27,[aK,aK,aK]⟩::bx,⟨vF,49,3,sg.length,(sg.map bp).flatMap dj⟩::⟨vv,9,1,gs.length,cj (gs.map bw.name)⟩::rw⟩,[(12,ab q),(11,ab z4),(7,ap vv),(3,aE W),(2,aE b1)]⟩:AS) _;refine go 5 ?_;by_cases hlt3:q <= z4
 ·refine aJ J fP (go 10 ?_);refine aC J (lz (m:=48)) ?_;refine aC J (wh J J Y J J J) ?_;refine aW J (bU (r:=cb [UInt8.ofNat (48+q)]) ku ?_);refine aC J (li J J J) ?_;refine aC J (pg (c:=102) (d:=UInt8.ofNat (48+q)) J J J J J J) (go 9 λfb=>?_);refine aC J (ei (decide (q=0)) J J J (T_ q)) (go 2 ?_);refine zP (λNM:aI=>(⟨264,fb::(aR vF++(aR vv++[W,S,b1])),⟨⟨fb,49,[ac NM,aK,aK]⟩::⟨S,59,[.sl l.length (l.map λi=>aA i),am ik]⟩::⟨W,61,[.val (.pointer (some ⟨S,0,none⟩)),(aG cR gs),(aG bB ms),.val vF,aA 24,bD ar]⟩::⟨b1,27,[aK,aK,aK]⟩::bx,⟨vF,49,3,sg.length,(sg.map bp).flatMap dj⟩::⟨vv,9,1,gs.length,cj (gs.map bw.name)⟩::rw⟩,[(13,aE fb),(12,ab q),(11,ab z4),(7,ap vv),(3,aE W),(2,aE b1)]⟩:AS)) (λNM=>NM=yG q) ?_ ?_
  ·refine iD J (λaI4=>?_) (λaI4=>?_)
   ·have aL9:q=0:=of_decide_eq_true aI4;refine go 4 ?_;exact ⟨J,(bytes [109,97,105,110]),by simp [yG,aL9],az (λ_ h=>h)⟩
   have aL9:¬q=0:=of_decide_eq_false aI4;refine go 1 ?_;exact ⟨J,(bytes [102,UInt8.ofNat (48+q)]),by simp [yG,aL9],az (λ_ h=>h)⟩
  rintro nm hnm;show bi prog _ (⟨264,fb::(aR vF++(aR vv++[W,S,b1])),⟨⟨fb,49,[ac nm,aK,aK]⟩::⟨S,59,[.sl l.length (l.map λi=>aA i),am ik]⟩::⟨W,61,[.val (.pointer (some ⟨S,0,none⟩)),(aG cR gs),(aG bB ms),.val vF,aA 24,bD ar]⟩::⟨b1,27,[aK,aK,aK]⟩::bx,⟨vF,49,3,sg.length,(sg.map bp).flatMap dj⟩::⟨vv,9,1,gs.length,cj (gs.map bw.name)⟩::rw⟩,[(13,aE fb),(12,ab q),(11,ab z4),(7,ap vv),(3,aE W),(2,aE b1)]⟩:AS) _;refine go 7 ?_;refine aW J (bo [S] J J V fN J (fa [_] _ _ _ l ik _ hik hl V V) (ba) (ba (h:=by simp [aH.bl])) (λ_=>ba) ?_);rintro r5 s5 ⟨z5,i5,rfl,hy5,hi5,rfl⟩;refine go 3 ?_;refine zP (λg:aN×List bg×Nat=>(⟨264,aR g.1++(fb::(aR vF++(aR vv++[W,S,b1]))),⟨⟨fb,49,[ac nm,.val g.1,aK]⟩::⟨S,59,[.sl l.length (l.map λi=>aA i),am g.2.2]⟩::⟨W,61,[.val (.pointer (some ⟨S,0,none⟩)),(aG cR gs),(aG bB ms),.val vF,aA 24,bD ar]⟩::⟨b1,27,[aK,aK,aK]⟩::bx,⟨g.1,51,2,g.2.1.length,g.2.1.flatMap cE⟩::⟨vF,49,3,sg.length,(sg.map bp).flatMap dj⟩::⟨vv,9,1,gs.length,cj (gs.map bw.name)⟩::rw⟩,[(13,aE fb),(12,ab q),(11,ab z4),(7,ap vv),(3,aE W),(2,aE b1)]⟩:AS)) (λg=>xN g.2.1 /\ (q=0 -> g.2.1=[]) /\ g.2.2 <= l.length) ?_ ?_
  ·refine go 1 ?_;refine gA 51 2 ?_;refine fv (λg:Nat×aN×List bg×Nat=>(⟨264,aR g.2.1++(fb::(aR vF++(aR vv++[W,S,b1]))),⟨⟨fb,49,[ac nm,.val g.2.1,aK]⟩::⟨S,59,[.sl l.length (l.map λi=>aA i),am g.2.2.2]⟩::⟨W,61,[.val (.pointer (some ⟨S,0,none⟩)),(aG cR gs),(aG bB ms),.val vF,aA 24,bD ar]⟩::⟨b1,27,[aK,aK,aK]⟩::bx,⟨g.2.1,51,2,g.2.2.1.length,g.2.2.1.flatMap cE⟩::⟨vF,49,3,sg.length,(sg.map bp).flatMap dj⟩::⟨vv,9,1,gs.length,cj (gs.map bw.name)⟩::rw⟩,[(14,ab g.1),(13,aE fb),(12,ab q),(11,ab z4),(7,ap vv),(3,aE W),(2,aE b1)]⟩:AS)) (λg=>g.1+g.2.2.1.length=z5 /\ (q=0 -> g.2.2.1=[]) /\ nB (λk x=>x.name=bytes [112,UInt8.ofNat (48+(z5-k))]) g.2.2.1 /\ g.2.2.2 <= l.length) (λg=>g.1) (z5,.slice none 0 0,[],i5) (az vJ) ⟨J,λ_=>J,.nil _,hi5⟩ ?_;rintro ⟨m,vP,qs,iq⟩ ⟨hm,hq0,hqs,hiq⟩;dsimp only at hm hq0 hqs hiq;show bi prog _ (⟨264,aR vP++(fb::(aR vF++(aR vv++[W,S,b1]))),⟨⟨fb,49,[ac nm,.val vP,aK]⟩::⟨S,59,[.sl l.length (l.map λi=>aA i),am iq]⟩::⟨W,61,[.val (.pointer (some ⟨S,0,none⟩)),(aG cR gs),(aG bB ms),.val vF,aA 24,bD ar]⟩::⟨b1,27,[aK,aK,aK]⟩::bx,⟨vP,51,2,qs.length,qs.flatMap cE⟩::⟨vF,49,3,sg.length,(sg.map bp).flatMap dj⟩::⟨vv,9,1,gs.length,cj (gs.map bw.name)⟩::rw⟩,[(14,ab m),(13,aE fb),(12,ab q),(11,ab z4),(7,ap vv),(3,aE W),(2,aE b1)]⟩:AS) _;refine go 4 ?_;by_cases hm0:0<m
   ·refine aJ J fP (go 2 ?_);by_cases hq1:0<q
    ·refine aJ J fP (go 9 ?_);refine zP (λg:Nat×Bool×Nat=>(⟨264,g.1::(aR vP++(fb::(aR vF++(aR vv++[W,S,b1])))),⟨⟨g.1,51,[ac (bytes [112,UInt8.ofNat (48+m)]),bD g.2.1]⟩::⟨fb,49,[ac nm,.val vP,aK]⟩::⟨S,59,[.sl l.length (l.map λi=>aA i),am g.2.2]⟩::⟨W,61,[.val (.pointer (some ⟨S,0,none⟩)),(aG cR gs),(aG bB ms),.val vF,aA 24,bD ar]⟩::⟨b1,27,[aK,aK,aK]⟩::bx,⟨vP,51,2,qs.length,qs.flatMap cE⟩::⟨vF,49,3,sg.length,(sg.map bp).flatMap dj⟩::⟨vv,9,1,gs.length,cj (gs.map bw.name)⟩::rw⟩,[(15,ap (.pointer (some ⟨g.1,0,none⟩))),(14,ab m),(13,aE fb),(12,ab q),(11,ab z4),(7,ap vv),(3,aE W),(2,aE b1)]⟩:AS)) (λg=>g.2.2 <= l.length) ?_ ?_
     ·refine bu [fb,W,b1] (aU [0] 14 (go 2 ?_));refine aZ 1 J (lz (m:=48)) ?_;refine aZ 2 J (wh J J Y J J J) (aU [6,7,8,9] 8 (go 5 ?_));refine three 3 10 13 aL J J J J J J ?_ ?_ ?_;focus
       refine (bU (r:=cb [UInt8.ofNat (48+m)]) ku ?_);refine aZ 4 J (li J J J) ?_;refine aZ 5 J (pg (c:=112) (d:=UInt8.ofNat (48+m)) J J J J J J) ?_;refine cC 10 13 J ?_ ?_;focus
        refine (bo [S] J J V fN J (fa [_] _ _ _ l iq _ hiq hl V V) de dc i_ ?_);rintro r6 s6 ⟨z6,i6,rfl,hy6,hi6,rfl⟩;refine aZ 11 J (ei (decide (0<z6)) J J J jL) (cY [(12,true),(13,false),(14,false)] 0 (go 4 λb12=>?_))
       rotate_left;refine (iz J J V DT J λb12=>?_);refine aY 10 J J (bo [S] J J V fN J (fa [_,_] _ _ _ l iq _ hiq hl V V) de dc i_ ?_);rintro r6 s6 ⟨z6,i6,rfl,hy6,hi6,rfl⟩;refine aZ 11 J (ei (decide (0<z6)) J J J jL) (cY [(12,true),(14,false)] 0 (go 3 ?_))
      rotate_left 2;focus
       refine (bo [S] J J V fN J (fa [_] _ _ _ l iq _ hiq hl V V) de dc i_ ?_);rintro r6 s6 ⟨z6,i6,rfl,hy6,hi6,rfl⟩;refine aZ 11 J (ei (decide (0<z6)) J J J jL) ?_;refine cC 3 13 J ?_ ?_;focus
        refine (bU (r:=cb [UInt8.ofNat (48+m)]) ku ?_);refine aZ 4 J (li J J J) ?_;refine aZ 5 J (pg (c:=112) (d:=UInt8.ofNat (48+m)) J J J J J J) (cY [(12,true),(13,false),(14,false)] 0 (go 4 λb12=>?_))
       rotate_left;refine (iz J J V DT J λb12=>?_);refine aY 3 J J (bU (r:=cb [UInt8.ofNat (48+m)]) ku ?_);refine aZ 4 J (li J J J) ?_;refine aZ 5 J (pg (c:=112) (d:=UInt8.ofNat (48+m)) J J J J J J) (cY [(12,true),(14,false)] 0 (go 3 ?_))
      rotate_left 2;focus
       refine (iz J J V DT J λb12=>?_);refine cC 3 10 J ?_ ?_;focus
        refine (bU (r:=cb [UInt8.ofNat (48+m)]) ku ?_);refine aZ 4 J (li J J J) ?_;refine aZ 5 J (pg (c:=112) (d:=UInt8.ofNat (48+m)) J J J J J J) ?_;refine aY 10 J J (bo [S] J J V fN J (fa [_,_] _ _ _ l iq _ hiq hl V V) de dc i_ ?_);rintro r6 s6 ⟨z6,i6,rfl,hy6,hi6,rfl⟩;refine aZ 11 J (ei (decide (0<z6)) J J J jL) (cY [(12,true),(14,false)] 0 (go 3 ?_))
       rotate_left;refine (bo [S] J J V fN J (fa [_,_] _ _ _ l iq _ hiq hl V V) de dc i_ ?_);rintro r6 s6 ⟨z6,i6,rfl,hy6,hi6,rfl⟩;refine aZ 11 J (ei (decide (0<z6)) J J J jL) ?_;refine aY 3 J J (bU (r:=cb [UInt8.ofNat (48+m)]) ku ?_);refine aZ 4 J (li J J J) ?_;refine aZ 5 J (pg (c:=112) (d:=UInt8.ofNat (48+m)) J J J J J J) (cY [(12,true),(14,false)] 0 (go 3 ?_))
      all_goals
       refine bC ?_;exact ⟨J,(b12,decide (0<z6),i6),hi6,az (λ_ h=>h)⟩
     rintro ⟨pb,mx,i2⟩ hi2;dsimp only at hi2;show bi prog _ (⟨264,pb::(aR vP++(fb::(aR vF++(aR vv++[W,S,b1])))),⟨⟨pb,51,[ac (bytes [112,UInt8.ofNat (48+m)]),bD mx]⟩::⟨fb,49,[ac nm,.val vP,aK]⟩::⟨S,59,[.sl l.length (l.map λi=>aA i),am i2]⟩::⟨W,61,[.val (.pointer (some ⟨S,0,none⟩)),(aG cR gs),(aG bB ms),.val vF,aA 24,bD ar]⟩::⟨b1,27,[aK,aK,aK]⟩::bx,⟨vP,51,2,qs.length,qs.flatMap cE⟩::⟨vF,49,3,sg.length,(sg.map bp).flatMap dj⟩::⟨vv,9,1,gs.length,cj (gs.map bw.name)⟩::rw⟩,[(15,aE pb),(14,ab m),(13,aE fb),(12,ab q),(11,ab z4),(7,ap vv),(3,aE W),(2,aE b1)]⟩:AS) _;refine go 4 ?_;refine aW J (bU (hf:=dd cE cE ⟨bytes [112,UInt8.ofNat (48+m)],mx⟩ J J J) AC ?_);refine aW J (dS [] IY J J V cO Y (@length_append _ qs [⟨bytes [112,UInt8.ofNat (48+m)],mx⟩]).symm fy co (dh (f:=cE)).symm λv6=>?_);refine go 7 ?_;refine aC J (jz ((m-1:Nat):Int)) (go 2 ?_);refine ⟨(m-1,v6,qs++[⟨bytes [112,UInt8.ofNat (48+m)],mx⟩],i2),⟨by show m-1+List.length (qs++[⟨bytes [112,UInt8.ofNat (48+m)],mx⟩])=z5;simp only [length_append,length_cons,length_nil];omega,λh=>absurd h Y,hqs.snoc (by show bytes [112,UInt8.ofNat (48+m)]=_;rw [show z5-qs.length=m by omega]),hi2⟩,by show m-1<m;omega,az (h1:=bG) fG⟩
    refine aF J eU (go 8 ?_);exact ⟨J,(vP,qs,iq),⟨⟨by show qs.length <= 2;omega,λk h=>by rw [hq0 Y] at h;simp at h⟩,hq0,hiq⟩,az (λ_ h=>h)⟩
   refine aF J eU (go 11 ?_);exact ⟨J,(vP,qs,iq),⟨⟨by show qs.length <= 2;omega,λk h=>by rw [hqs k h,show z5-k=qs.length-k by omega]⟩,hq0,hiq⟩,az (λ_ h=>h)⟩
  rintro ⟨vP,qs,iq⟩ ⟨hqs,hq0,hiq⟩;dsimp only at hqs hq0 hiq;show bi prog _ (⟨264,aR vP++(fb::(aR vF++(aR vv++[W,S,b1]))),⟨⟨fb,49,[ac nm,.val vP,aK]⟩::⟨S,59,[.sl l.length (l.map λi=>aA i),am iq]⟩::⟨W,61,[.val (.pointer (some ⟨S,0,none⟩)),(aG cR gs),(aG bB ms),.val vF,aA 24,bD ar]⟩::⟨b1,27,[aK,aK,aK]⟩::bx,⟨vP,51,2,qs.length,qs.flatMap cE⟩::⟨vF,49,3,sg.length,(sg.map bp).flatMap dj⟩::⟨vv,9,1,gs.length,cj (gs.map bw.name)⟩::rw⟩,[(13,aE fb),(12,ab q),(11,ab z4),(7,ap vv),(3,aE W),(2,aE b1)]⟩:AS) _;refine Ux [] 1 J J ?_;refine bu [fb,S,b1] (aU [0,1,2,3,4,6] 7 (go 7 ?_));refine cC 5 7 J ?_ ?_;focus
   refine dR J V (cW [_,_] mz m_) ?_;refine aY 7 J J (bU (hf:=dd dj dj (bp (nm,qs)) J J J) ug ?_)
  rotate_left;refine (bU (hf:=dd dj dj (bp (nm,qs)) J J J) ug ?_);refine aY 5 J J (dR J V (cW [_,_] mz m_) ?_);all_goals
   refine aY 8 J J (dS [] Ei J J V cO Y (@length_append _ sg [(nm,qs)]).symm (λhn b hb=>gi hn hb) co (show (sg.map bp).flatMap dj++[bp (nm,qs)].flatMap dj=((sg++[(nm,qs)]).map bp).flatMap dj by simp) λv6=>?_);refine cY [(9,true),(10,true),(11,true),(12,false)] 0 (go 5 ?_);refine bC (go 4 ?_);refine aC J (lz (k:=1)) (go 2 ?_);refine ⟨(q+1,v6,sg++[(nm,qs)],iq),⟨by show q+1 <= z4+1;omega,by show List.length (sg++[(nm,qs)])=q+1;simp only [length_append,length_cons,length_nil];omega,hsg.snoc (by rw [hsq];exact ⟨hnm,hq0,hqs⟩),hiq⟩,by show z4+1-(q+1)<z4+1-q;omega,az (h1:=bG) fG⟩
 refine aF J eU (go 11 ?_);have hs1:1 <= sg.length /\ sg.length <= 4:=Y;refine go 4 ?_;refine sX [] Y λgF gc hgF=>?_;subst hgF;refine fv (λg:Nat×Nat×Nat×List a_=>(⟨264,(gF::(aR vv++[W,S,b1])),⟨⟨S,59,[.sl l.length (l.map λi=>.val (.int .i64 i)),am g.2.2.1]⟩::⟨W,61,[.val (.pointer (some ⟨S,0,none⟩)),(.sl gs.length (gs.flatMap cR)),(.sl ms.length (ms.flatMap bB)),(.val (.slice (some ⟨gF,0,none⟩) sg.length gc)),am g.2.1,.val (.bool ar)]⟩::⟨b1,27,[.val (.slice none 0 0),.val (.slice none 0 0),.val (.slice none 0 0)]⟩::bx,⟨.slice (some ⟨gF,0,none⟩) sg.length gc,49,3,sg.length,(fJ sg g.2.2.2).flatMap dj⟩::⟨vv,9,1,gs.length,cj (gs.map bw.name)⟩::rw⟩,[(16,ab g.1),(7,.c (.val vv)),(3,aE W),(2,aE b1)]⟩:AS)) (λg=>g.1 <= sg.length /\ g.2.2.2.length=g.1 /\ g.2.2.2.map a_.sig=sg.take g.1 /\ Lh ms sg gs g.2.1 g.2.2.2 /\ g.2.1 <= 24 /\ g.2.2.1 <= l.length) (λg=>sg.length-g.1) (0,24,ik,[]) (az LO) ⟨eL _,J,aM,λ_ h=>h,bY _,hik⟩ ?_;clear hik hq;rintro ⟨i4,lf,iw,ds⟩ ⟨hi4,hds,hdm,hbt,hlf,hiw⟩;dsimp only at hi4 hds hdm hbt hlf hiw;subst hds;show bi prog _ (⟨264,(gF::(aR vv++[W,S,b1])),⟨⟨S,59,[.sl l.length (l.map λi=>aA i),am iw]⟩::⟨W,61,[.val (.pointer (some ⟨S,0,none⟩)),(aG cR gs),(aG bB ms),(.val (.slice (some ⟨gF,0,none⟩) sg.length gc)),am lf,bD ar]⟩::⟨b1,27,[aK,aK,aK]⟩::bx,⟨.slice (some ⟨gF,0,none⟩) sg.length gc,49,3,sg.length,(fJ sg ds).flatMap dj⟩::⟨vv,9,1,gs.length,cj (gs.map bw.name)⟩::rw⟩,[(16,ab ds.length),(7,ap vv),(3,aE W),(2,aE b1)]⟩:AS) _;refine go 10 ?_;by_cases BY:ds.length<sg.length
 ·have hmz:=RR hms;have hfp:=XV hsg hdm;have hps:sg[ds.length].2.length <= 2:=(hsg _ BY).2.2.1;refine aJ J fP (go 9 ?_);refine aW J (fH oY iG λg0=>?_);refine go 1 ?_;refine aW J (Pl (ds:=cj (gs.map bw.name)) (m:=gs.length) [] Tryz.t9 16 J J V J J aM oY aL J J J J V cO Y (show 0+gs.length=(rD gs (sg[ds.length].2.take 0)).length by simp [rD]) Dv BD aM (show []++cj (gs.map bw.name)=cj (rD gs (sg[ds.length].2.take 0)) by simp [rD]) λu0=>?_);refine go 10 ?_;refine fv (λg:Nat×aN×List aI=>(⟨264,aR g.2.1++(gF::(aR vv++[W,S,b1])),⟨⟨S,59,[.sl l.length (l.map λi=>aA i),am iw]⟩::⟨W,61,[.val (.pointer (some ⟨S,0,none⟩)),(aG cR gs),(aG bB ms),(.val (.slice (some ⟨gF,0,none⟩) sg.length gc)),am lf,bD ar]⟩::⟨b1,27,[aK,aK,aK]⟩::bx,⟨g.2.1,9,1,g.2.2.length,cj g.2.2⟩::⟨.slice (some ⟨gF,0,none⟩) sg.length gc,49,3,sg.length,(fJ sg ds).flatMap dj⟩::⟨vv,9,1,gs.length,cj (gs.map bw.name)⟩::rw⟩,[(18,ab g.1),(17,ap g.2.1),(16,ab ds.length),(7,ap vv),(3,aE W),(2,aE b1)]⟩:AS)) (λg=>g.1 <= sg[ds.length].2.length /\ g.2.2=rD gs (sg[ds.length].2.take g.1)) (λg=>sg[ds.length].2.length-g.1) (0,u0,rD gs (sg[ds.length].2.take 0)) (az GA) ⟨eL _,J⟩ ?_;rintro ⟨j,u,us⟩ ⟨hj,hus⟩;dsimp only at hj hus;have hul:us.length <= 4:=by have h1:(sg[ds.length].2.take j).length <= 2:=ES;have h2:=FJ (λx:bg=>!x.mutex) (sg[ds.length].2.take j);rw [hus,rD,length_append,gS,gS];omega
  show bi prog _ (⟨264,aR u++(gF::(aR vv++[W,S,b1])),⟨⟨S,59,[.sl l.length (l.map λi=>aA i),am iw]⟩::⟨W,61,[.val (.pointer (some ⟨S,0,none⟩)),(aG cR gs),(aG bB ms),(.val (.slice (some ⟨gF,0,none⟩) sg.length gc)),am lf,bD ar]⟩::⟨b1,27,[aK,aK,aK]⟩::bx,⟨u,9,1,us.length,cj us⟩::⟨.slice (some ⟨gF,0,none⟩) sg.length gc,49,3,sg.length,(fJ sg ds).flatMap dj⟩::⟨vv,9,1,gs.length,cj (gs.map bw.name)⟩::rw⟩,[(18,ab j),(17,ap u),(16,ab ds.length),(7,ap vv),(3,aE W),(2,aE b1)]⟩:AS) _;refine go 10 ?_;refine aC J (ez ds.length J J J J BY fu du) ?_;refine aC J (B1 1 (0+ds.length*3+1) J J nN J ma V J) ?_;refine aC J (mo (g:=gF) (k:=sg.length) (cap:=gc) (E0:=49) (zz:=3) (cs:=(fJ sg ds).flatMap dj) s_ ma (Ix BY)) (go 1 ?_);by_cases aOf:j<sg[ds.length].2.length
  ·refine aJ J fP (go 15 ?_);refine aC J (ez ds.length J J J J BY fu du) ?_;refine aC J (B1 1 (0+ds.length*3+1) J J nN J ma V J) ?_;refine aC J (mo (g:=gF) (k:=sg.length) (cap:=gc) (E0:=49) (zz:=3) (cs:=(fJ sg ds).flatMap dj) s_ ma (Ix BY)) (go 1 ?_);refine aC J (bX cE cE sg[ds.length].2 iQ (λ_=>J) j J J J J Y V iK ga) (go 2 ?_);refine aC J (jK  J J) (go 2 ?_);refine iD J (λhc17=>?_) (λhc17=>?_)
   ·have hmt:sg[ds.length].2[j].mutex=false:=by simpa using hc17
    refine go 8 ?_;refine aC J (ez ds.length J J J J BY fu du) ?_;refine aC J (B1 1 (0+ds.length*3+1) J J nN J ma V J) ?_;refine aC J (mo (g:=gF) (k:=sg.length) (cap:=gc) (E0:=49) (zz:=3) (cs:=(fJ sg ds).flatMap dj) s_ ma (Ix BY)) (go 1 ?_);refine aC J (bX cE cE sg[ds.length].2 iQ (λ_=>J) j J J J J Y V iK ga) (go 2 ?_);refine aW J (bU (r:=cj [sg[ds.length].2[j].name]) iy ?_);refine aW J (dS [] pE J J V cO Y (@length_append _ us [sg[ds.length].2[j].name]).symm fy co (e1 (f:=λx=>aO.val (.string x))).symm λv5=>?_);refine go 6 ?_;refine aC J (lz (k:=1)) (go 2 ?_);refine ⟨(j+1,v5,(us++[sg[ds.length].2[j].name])),⟨Lw,by show (us++[sg[ds.length].2[j].name])=_;rw [Jr gs sg[ds.length].2 j aOf,hus,if_neg (by rw [hmt];decide)]⟩,Mi,az GA⟩
   have hmt:sg[ds.length].2[j].mutex=true:=by simpa using hc17
   refine go 5 ?_;refine aC J (lz (k:=1)) (go 2 ?_);refine ⟨(j+1,u,us),⟨Lw,by show us=_;rw [Jr gs sg[ds.length].2 j aOf,hus,if_pos hmt,eY]⟩,Mi,az GA⟩
  refine aF J eU (go 8 ?_);refine bu [b1] (aU [0,1,2,3,5,6,7,8,9,10,12,15] 8 (go 13 ?_));refine cC 4 11 J ?_ ?_;focus
   refine dR J V (cW [_] mz m_) ?_;refine aY 11 J J (dR J V (cW [_] mz m_) ?_);refine aZ 13 J (ez ds.length J J J J BY fu du) ?_;refine aY 14 J J (dR J V (mo (g:=gF) (k:=sg.length) (cap:=gc) (E0:=49) (zz:=3) (cs:=(fJ sg ds).flatMap dj) oP du (Ev BY)) ?_);refine aY 16 J J (bo [S,W] J J V call16 J (EP _ S W l ms sg[ds.length].2 sg[ds.length].1 _ _ ar (fJ sg ds) gF gc hl hmN.1 Y hmz Y uL uL hfp sg.length (yH Y) lf [] [] _ _ us iw 2 6 hiw V V Y aM) jR so xC ?_);rintro r5 s5 ⟨b5l,i5,l5,rfl,hm5,hi5,rfl⟩;have hbm:=hm5;rw [zM sg ds hdm,hus,take_of_length_le Y] at hbm
  rotate_left;focus
   refine dR J V (cW [_] mz m_) ?_;refine aZ 13 J (ez ds.length J J J J BY fu du) ?_;refine cC 4 14 J ?_ ?_;focus
    refine dR J V (cW [_] mz m_) ?_;refine aY 14 J J (dR J V (mo (g:=gF) (k:=sg.length) (cap:=gc) (E0:=49) (zz:=3) (cs:=(fJ sg ds).flatMap dj) oP du (Ev BY)) ?_);refine aY 16 J J (bo [S,W] J J V call16 J (EP _ S W l ms sg[ds.length].2 sg[ds.length].1 _ _ ar (fJ sg ds) gF gc hl hmN.1 Y hmz Y uL uL hfp sg.length (yH Y) lf [] [] _ _ us iw 2 6 hiw V V Y aM) jR so xC ?_);rintro r5 s5 ⟨b5l,i5,l5,rfl,hm5,hi5,rfl⟩;have hbm:=hm5;rw [zM sg ds hdm,hus,take_of_length_le Y] at hbm
   rotate_left;focus
    refine dR J V (mo (g:=gF) (k:=sg.length) (cap:=gc) (E0:=49) (zz:=3) (cs:=(fJ sg ds).flatMap dj) oP du (Ev BY)) ?_;refine cC 4 16 J ?_ ?_;focus
     refine dR J V (cW [_] mz m_) ?_;refine aY 16 J J (bo [S,W] J J V call16 J (EP _ S W l ms sg[ds.length].2 sg[ds.length].1 _ _ ar (fJ sg ds) gF gc hl hmN.1 Y hmz Y uL uL hfp sg.length (yH Y) lf [] [] _ _ us iw 2 6 hiw V V Y aM) jR so xC ?_);rintro r5 s5 ⟨b5l,i5,l5,rfl,hm5,hi5,rfl⟩;have hbm:=hm5;rw [zM sg ds hdm,hus,take_of_length_le Y] at hbm
    rotate_left;refine (bo [S,W] J J V call16 J (EP _ S W l ms sg[ds.length].2 sg[ds.length].1 _ _ ar (fJ sg ds) gF gc hl hmN.1 Y hmz Y uL uL hfp sg.length (yH Y) lf [] [] _ _ us iw 2 6 hiw V V Y aM) jR so xC ?_);rintro r5 s5 ⟨b5l,i5,l5,rfl,hm5,hi5,rfl⟩;have hbm:=hm5;rw [zM sg ds hdm,hus,take_of_length_le Y] at hbm;refine aY 4 J J (dR J V (cW [_] mz m_) ?_)
  all_goals
   refine aZ 17 J (ez ds.length J J J J BY fu du) ?_;refine aZ 18 J (B1 2 (0+ds.length*3+2) J J nN J iZ V J) ?_;refine aY 19 J J (lX [_] J J J J J iZ J (Qf BY b5l).2 (Qf BY b5l).1 aM (λhn=>cz (r:=(⟨.slice (some ⟨gF,0,none⟩) sg.length gc,49,3,sg.length,(fJ sg ds).flatMap dj⟩:aQ)) hn gy) ?_);refine bC (go 4 ?_);refine aC J (lz (k:=1)) (go 2 ?_);refine ⟨(ds.length+1,l5,i5,ds++[(⟨sg[ds.length].1,sg[ds.length].2,b5l⟩:a_)]),⟨by show ds.length+1 <= sg.length;omega,by show (ds++[(⟨sg[ds.length].1,sg[ds.length].2,b5l⟩:a_)]).length=ds.length+1;simp,by show (ds++[(⟨sg[ds.length].1,sg[ds.length].2,b5l⟩:a_)]).map a_.sig=sg.take (ds.length+1);rw [e1,hdm,gX BY];rfl,(λrest hr=>by rw [append_assoc];exact hbt _ (.cons hbm hr)),by show l5 <= 24;have:=hm5.le;omega,hi5⟩,by show sg.length-(ds.length+1)<sg.length-ds.length;omega,az (h2:=bG) LO⟩
 refine aF J eU (go 10 ?_);have hdl:ds.length=sg.length:=Y;have hmp:=Sg hmN hms hgN hgs hs1 hsg hdl hdm ⟨_,hbt⟩;refine eO [_] 3 J J ?_;rw [S0 hdl,←hdl];refine go 8 ?_;exact ⟨.inr J,_,⟨bx,rw⟩,bJ J (bv [_,_] J J oA oL (cG J J)),ah ek bG,⟨⟨gs,ms,ds⟩,J,hmp,J⟩⟩
end
section
def lI{s:aI}(h:cH s=true):s.size <= 16:=by
 unfold cH at h;split at h
 ·cases h
 simp only [dm,decide_eq_true_eq] at h;exact h.1.2
def fM.nodes{names:List aI}{d:Nat}{e:aS}(h:fM names d e):e.nodes+3 <= 4*2 ^ d:=by
 induction h with
 |@name d x h=>rw [aS.nodes,cv];have:=vj (n:=d);omega
 |@num d n h0 h1=>rw [aS.nodes,cv];have:=vj (n:=d);omega
 |@un d op e ho he ih=>rw [aS.nodes,cv,cv,zi];have:=vj (n:=d);omega
 |@bin d op a b h0 h1 ha hb iha ihb=>rw [aS.nodes,cv,cv,cv,zi];have:=vj (n:=d);omega
def fM.Fr{names:List aI}{d:Nat}{e:aS}(hn:∀x,x∈names -> cH x=true)(h:fM names d e):e.Fr:=by
 induction h with
 |@name d x h=>rw [aS.Fr];exact ⟨V,iN (lI (hn x h)) V,by rw [nW];trivial⟩
 |@num d n h0 h1=>rw [aS.Fr];exact ⟨Y,V,by rw [nW];trivial⟩
 |@un d op e ho he ih=>rw [aS.Fr];exact ⟨V,V,by rw [nW,nW];exact ⟨ih,trivial⟩⟩
 |@bin d op a b h0 h1 ha hb iha ihb=>rw [aS.Fr];exact ⟨V,V,by rw [nW,nW,nW];exact ⟨iha,ihb,trivial⟩⟩
def MU{op:Int}(h0:5 <= op)(h1:op <= 17):dN op<5:=by
 unfold dN
 repeat' split
 all_goals omega
def VZ{op:Int}(h:op=3∨op=4):dN op=5:=by
 rcases h with rfl|rfl<;>rfl
def fM.shape{names:List aI}{d:Nat}{e:aS}(hn:∀x,x∈names -> cH x=true)(h:fM names d e):dy e=true:=by
 induction h with
 |@name d x h=>
  rw [dy,fX,show dN 2=6 from rfl,if_pos rfl,ll,arity,show dN 2=6 from rfl,if_pos rfl,hn x h];simp
 |@num d n h0 h1=>
  rw [dy,fX,show dN 1=6 from rfl,if_pos rfl,ll,arity,show dN 1=6 from rfl,if_pos rfl];simp [h0]
 |@un d op e ho he ih=>
  have hs:=VZ ho;rw [dy,fX,fX,arity,hs,if_neg V,if_neg V,if_pos rfl,ih];simp
 |@bin d op a b h0 h1 ha hb iha ihb=>
  have hs:=MU h0 h1;rw [dy,fX,fX,fX,arity,if_neg Y,if_neg Y,if_neg Y,iha,ihb];simp
def fM.aMa{names:List aI}{d:Nat}{e:aS}(h:fM names d e):iE e <= 2*d:=by
 induction h with
 |@name d x h=>rw [iE,jH,if_neg V];omega
 |@num d n h0 h1=>rw [iE,jH,if_neg V];omega
 |@un d op e ho he ih=>rw [iE,jH,jH];split<;>split<;>omega
 |@bin d op a b h0 h1 ha hb iha ihb=>rw [iE,jH,jH,jH];split<;>split<;>split<;>omega
def fM.valid{names:List aI}{d:Nat}{e:aS}(hn:∀x,x∈names -> cH x=true)(h:fM names d e)(hd:d <= 12):fI e=true:=by
 rw [fI,h.shape hn,zl,decide_eq_true_eq];have:=h.aMa;omega
def fM.bt{names:List aI}{d:Nat}{e:aS}(hn:∀x,x∈names -> cH x=true)(h:fM names d e):e.bt:=by
 induction h with
 |@name d x h=>rw [aS.bt];exact ⟨yr,iN (lI (hn x h)) V,CI⟩
 |@num d n h0 h1=>rw [aS.bt];exact ⟨yr,V,CI⟩
 |@un d op e ho he ih=>rw [aS.bt];exact ⟨yr,V,by rw [jM,jM];exact ⟨ih,trivial⟩⟩
 |@bin d op a b h0 h1 ha hb iha ihb=>rw [aS.bt];exact ⟨yr,V,by rw [jM,jM,jM];exact ⟨iha,ihb,trivial⟩⟩
def Ia{n:Int}(h0:-9223372036854775808 <= n)(h1:n <= 9223372036854775807):(fW n).length <= 21:=by
 have:=z8 n.natAbs Y;unfold fW;split<;>simp<;>omega
def fM.len{names:List aI}{d:Nat}{e:aS}(hn:∀x,x∈names -> cH x=true)(h:fM names d e):(cA e).length+10 <= 31*2 ^ d:=by
 induction h with
 |@name d x h=>
  have h1:=lI (hn x h);have h2:x.data.toList.length=x.size:=J;rw [cA,kQ,if_neg V,if_pos rfl];have:=vj (n:=d);omega
 |@num d n h0 h1=>
  have:=Ia (n:=n) Y Y;rw [cA,kQ,if_pos rfl];have:=vj (n:=d);omega
 |@un d op e ho he ih=>
  rw [cA,kB,kB,zi];have hl:∀x:List UInt8,(kQ op 0 ay [x]).length=x.length+1:=by
   intro x;rcases ho with rfl|rfl<;>simp [kQ]
  rw [hl];have:=vj (n:=d);split
  ·simp only [length_append,length_cons,length_nil];omega
  ·omega
 |@bin d op a b h0 h1 ha hb iha ihb=>
  rw [cA,kB,kB,kB,zi];have hs:=MU h0 h1;have ho:=Pv op;have hl:∀x y:List UInt8,(kQ op 0 ay [x,y]).length=x.length+1+(oU op).length+1+y.length:=by
   intro x y;rw [kQ,if_neg Y,if_neg Y,if_neg Y,if_neg Y,if_pos hs];simp;omega
  rw [hl];split<;>split<;>(try simp only [length_append,length_cons,length_nil])<;>omega
end
section
def aS.ip:aS.zero.bt:=by unfold aS.zero;rw [aS.bt];exact ⟨yr,V,CI⟩
def cD.ip:cD.zero.bt:=⟨V,Et⟩
def aS.ro:aS.zero.nodes=1:=by unfold aS.zero;rw [aS.nodes,cv]
def cD.AI:cD.zero.wt=1:=by unfold cD.wt cD.zero;rw [cv]
def sS(l:List ByteArray):Prop:=∀x,x∈l -> cH x=true
def D9:kp .zero=true:=by simp [kp,aS.zero,aS.op,aS.num,aS.name,aS.args]
def JB:mE .zero=true:=by simp [mE,cD.zero]
section
variable {ms:List cn}{fs:List iV}{ps:List bg}
def m5.ok{vars:List aI}{r:cD}(hm:∀m,m∈ms -> cH m.name=true)(hp:∀x,x∈ps -> cH x.name=true)(hv:sS vars)(h:m5 ms ps vars r):
  okRefB r=true /\ (r.bt /\ r.wt <= 7) /\ (fh r).length <= 70:=by
 have size:∀x:aI,cH x=true -> x.data.toList.length <= 16:=λx h=>lI h;cases h with
 |@arr m e h1 h2 he=>
  have hl:=he.len hv;have:=size _ (hm m h1);refine ⟨by show (cH m.name && fI e)=true;rw [hm m h1,he.valid hv Y];rfl,⟨⟨iN (lI (hm m h1)) V,by show jM [e];rw [jM,jM];exact ⟨he.bt hv,trivial⟩⟩,by have:=he.nodes;unfold cD.wt;show 1+cv [e] <= 7;rw [cv,cv];omega⟩,?_⟩
  ·simp only [fh,length_append,length_cons,length_nil];omega
 |@scalar m h1 h2=>
  have:=size _ (hm m h1);exact ⟨by show (cH m.name && true)=true;rw [hm m h1];rfl,⟨⟨iN (lI (hm m h1)) V,Et⟩,QW⟩,by simp only [fh];omega⟩
 |@param x h1 h2=>
  have:=size _ (hp x h1);exact ⟨by show (cH x.name && true)=true;rw [hp x h1];rfl,⟨⟨iN (lI (hp x h1)) V,Et⟩,QW⟩,by simp only [fh];omega⟩
def JN{α:Type}(f:α -> List UInt8)(x:α)(l:List α):(dM f (x::l)).length <= (f x).length+2+(dM f l).length:=by
 cases l with
 |nil=>simp [dM]
 |cons y r=>simp [dM];omega
def m7.ok{vars:List aI}{l:List bg}{al:List bq}(hm:∀m,m∈ms -> cH m.name=true)(hp:∀x,x∈ps -> cH x.name=true)(hv:sS vars)(h:m7 ms ps vars l al):
  al.all fc=true /\ ((∀a,a∈al -> a.bt) /\ dQ al <= 15*l.length) /\ al.length=l.length /\ (dM ew al).length <= 122*l.length:=by
 induction h with
 |nil=>exact ⟨rfl,⟨(λa h=>qj),by rw [dQ];simp⟩,rfl,wu⟩
 |@mutex x l al r hx hr h ih=>
  obtain ⟨i1,i2,i3,i4⟩:=ih;obtain ⟨h1,h2,h3⟩:=hr.ok hm hp hv;refine ⟨by rw [Ah,i1,fc,if_pos rfl,h1,D9];rfl,⟨?_,?_⟩,by simp [i3],?_⟩
  ·intro a ha;rcases mem_cons.1 ha with rfl|ha
   ·exact ⟨h2.1,aS.ip⟩
   exact i2.1 a ha
  ·have:=i2.2;have:=h2.2;rw [dQ];unfold bq.wt;rw [aS.ro,length_cons];show 1+r.wt+1+dQ al <= _;omega
  ·have:=JN ew ⟨true,r,.zero⟩ al;have h4:(ew ⟨true,r,.zero⟩).length=6+(fh r).length:=by simp [ew];omega
   rw [length_cons];omega
 |@expr x l al e hx he h ih=>
  obtain ⟨i1,i2,i3,i4⟩:=ih;have hl:=he.len hv;refine ⟨by rw [Ah,i1,fc,if_neg aM,JB,he.valid hv Y];rfl,⟨?_,?_⟩,by simp [i3],?_⟩
  ·intro a ha;rcases mem_cons.1 ha with rfl|ha
   ·exact ⟨cD.ip,he.bt hv⟩
   exact i2.1 a ha
  ·have:=i2.2;have:=he.nodes;rw [dQ];unfold bq.wt;rw [cD.AI,length_cons];show 1+1+e.nodes+dQ al <= _;omega
  have:=JN ew ⟨false,.zero,e⟩ al;have h4:(ew ⟨false,.zero,e⟩).length=(cA e).length:=by simp [ew]
  rw [length_cons];omega
def J2:∀left,left<24 -> cH (kW left)=true:=by
 intro left h;have:(List.range 24).all (λk=>cH (kW k))=true:=aL;exact fC.1 this left (pI.2 h)
end
def LG(D:Nat)(hD:D<24):∀(a b:List aD),dG D (a++b)=(dG D a && dG D b)
 |[],b=>by rw [ck,dG,decide_eq_true hD,zl]
 |s::r,b=>by rw [eE,dG,dG,LG D hD r b,Bool.and_assoc]
def KP:∀(a b:List aD),eI (a++b)↔eI a /\ eI b
 |[],b=>by rw [ck,eI];simp
 |s::r,b=>by rw [eE,eI,eI,KP r b,and_assoc]
def M_:∀(a b:List aD),an (a++b)=an a+an b
 |[],b=>by rw [ck,an];omega
 |s::r,b=>by rw [eE,an,an,M_ r b];omega
def qF:eI []:=by rw [eI];trivial
structure oi (D:Nat) (tabs:List UInt8) (n:Nat) (s:aD):Prop where
 ok:f6 D s=true
 bt:s.bt
 wt:s.wt <= 60*n
 len:(d5 tabs s).length <= 700*n
structure pv (D:Nat) (tabs:List UInt8) (n:Nat) (l:List aD):Prop where
 ok:dG D l=true
 bt:eI l
 wt:an l <= 60*n
 len:(bS tabs l).length <= 700*n
def pv.cons{D n m k:Nat}{tabs:List UInt8}{s:aD}{l:List aD}(h:oi D tabs n s)(hl:pv D tabs m l)(hk:n+m <= k):pv D tabs k (s::l):=
 ⟨by rw [dG,h.ok,hl.ok];rfl,by rw [eI];exact ⟨h.bt,hl.bt⟩,by rw [an];have:=h.wt;have:=hl.wt;omega,by rw [bS,length_append];have:=h.len;have:=hl.len;omega⟩
def pv.cons'{D n m k:Nat}{tabs:List UInt8}{s:aD}{l:List aD}(hl:pv D tabs m l)(h:oi D tabs n s)(hk:n+m <= k):pv D tabs k (s::l):=pv.cons h hl hk
def pv.nil{D n:Nat}{tabs:List UInt8}(hD:D<24):pv D tabs n []:=
 ⟨by rw [dG];exact decide_eq_true hD,by rw [eI];trivial,by rw [an];omega,by rw [bS];simp⟩
section
variable {ms:List cn}{fs:List iV}{ps:List bg}
def oi.of{D n:Nat}{tabs:List UInt8}{k:Int}{name:aI}{e:aS}{r:cD}{al:List bq}{t el:List aD}
  (h0:1 <= k /\ k <= 9) (h1:(if 1 <= k /\ k <= 4 then cH name else decide (name=ay))=true) (h2:(if k=1∨k=2∨k=7∨k=8 then fI e else kp e)=true)
  (h3:(if k=5∨k=6 then okRefB r else mE r)=true) (h4:(decide (k=3∨k=4)||decide (al.length=0))=true) (h5:al.all fc=true)
  (h6:(if k=7∨k=8 then dG (D+1) t else decide (t.length=0))=true) (h7:(decide (el.length=0)||(decide (k=7) && dG (D+1) el))=true)
  (hf:(aD.mk k name e r al t el).bt) (hc:(aD.mk k name e r al t el).wt <= 60*n) (hl:(d5 tabs (.mk k name e r al t el)).length <= 700*n):oi D tabs n (.mk k name e r al t el):=
 ⟨by rw [f6,decide_eq_true h0,h1,h2,h3,h4,h5,h6,h7];rfl,hf,hc,hl⟩
def F6{x:aI}(h:cH x=true):x.data.toList.length <= 16:=lI h
def Dm{D:Nat}{tabs:List UInt8}{vars:List aI}{k:Int}{r:cD}(hk:k=5∨k=6)(ht:tabs.length <= 4)(hm:∀m,m∈ms -> cH m.name=true)(hp:∀x,x∈ps -> cH x.name=true)(hv:sS vars)(h:m5 ms ps vars r):
  oi D tabs 1 (.mk k ay .zero r [] [] []) /\ (d5 tabs (.mk k ay .zero r [] [] [])).length <= 90:=by
 obtain ⟨h1,h2,h3⟩:=h.ok hm hp hv;have hl:(d5 tabs (.mk k ay .zero r [] [] [])).length <= 90:=by
  rw [d5];rcases hk with rfl|rfl<;>simp<;>omega
 refine ⟨oi.of Y (by rw [if_neg Y];exact decide_eq_true rfl) (by rw [if_neg Y];exact D9) (by rw [if_pos hk];exact h1) aM J (by rw [if_neg Y];rfl) aM ?_ ?_ Y,hl⟩
 ·rw [aD.bt];exact ⟨V,aS.ip,h2.1,xi,qF,qF⟩
 rw [f9];show 1+aS.zero.nodes+r.wt+dQ []+an []+an [] <= _;rw [aS.ro,dQ,an];have:=h2.2;omega
def fD.ok{vars:List aI}{deep left left':Nat}{l:List aD}(hm:∀m,m∈ms -> cH m.name=true)(hp:∀x,x∈ps -> cH x.name=true)
  (hg:∀g,g∈fs -> cH g.1=true /\ g.2.length <= 2) (h:fD ms fs ps vars deep left l left'):
  sS vars -> left <= 24 -> ∀(D:Nat)(tabs:List UInt8),D+deep<24 -> tabs.length+deep <= 4 -> pv D tabs (left-left') l:=by
 induction h with
 |nil=>intro _ _ D tabs hD _;exact .nil Y
 |lock hr h ih=>
  intro hv hl D tabs hD ht;have:=h.le;exact (ih hv Y D tabs hD ht).cons' (Dm (.inl J) Y hm hp hv hr).1 Y
 |unlock hr h ih=>
  intro hv hl D tabs hD ht;have:=h.le;exact (ih hv Y D tabs hD ht).cons' (Dm (.inr J) Y hm hp hv hr).1 Y
 |@var vars deep left left' e rest he h ih=>
  intro hv hl D tabs hD ht;have:=h.le;have hn:=J2 left Y;have hnl:=F6 hn;have hns:=lI hn;have hel:=he.len hv;refine (ih (λx hx=>?_) Y D tabs hD ht).cons' (n:=1) (oi.of Y (by rw [if_pos V];exact hn) BH Aj aM J Hv aM ?_ ?_ ?_) Y
  ·rcases mem_append.1 hx with hx|hx
   ·exact hv x hx
   simp only [jq] at hx;subst hx;exact hn
  ·rw [aD.bt];exact ⟨iN hns V,he.bt hv,cD.ip,xi,qF,qF⟩
  ·rw [f9];show 1+e.nodes+cD.zero.wt+dQ []+an []+an [] <= _;rw [cD.AI,dQ,an];have:=he.nodes;omega
  ·rw [d5];simp;omega
 |@assign vars deep left left' x e rest hx he h ih=>
  intro hv hl D tabs hD ht;have:=h.le;have hn:=hv x hx;have hnl:=F6 hn;have hns:=lI hn;have hel:=he.len hv;refine (ih hv Y D tabs hD ht).cons' (n:=1) (oi.of Y (by rw [if_pos V];exact hn) BH Aj aM J Hv aM ?_ ?_ ?_) Y
  ·rw [aD.bt];exact ⟨iN hns V,he.bt hv,cD.ip,xi,qF,qF⟩
  ·rw [f9];show 1+e.nodes+cD.zero.wt+dQ []+an []+an [] <= _;rw [cD.AI,dQ,an];have:=he.nodes;omega
  ·rw [d5];simp;omega
 |@call vars deep left left' k g al rest hk hgm ha h ih=>
  intro hv hl D tabs hD ht;have:=h.le;obtain ⟨hn,hg2⟩:=hg g hgm;have hnl:=F6 hn;have hns:=lI hn;obtain ⟨a1,a2,a3,a4⟩:=ha.ok hm hp hv;refine (ih hv Y D tabs hD ht).cons' (n:=1) (oi.of Y (by rw [if_pos Y];exact hn) (by rw [if_neg Y];exact D9) (by rw [if_neg Y];exact JB) (by rw [decide_eq_true hk];rfl) a1 (by rw [if_neg Y];rfl) aM ?_ ?_ ?_) Y
  ·rw [aD.bt];exact ⟨iN hns V,aS.ip,cD.ip,a2.1,qF,qF⟩
  ·rw [f9];show 1+aS.zero.nodes+cD.zero.wt+dQ al+an []+an [] <= _;rw [aS.ro,cD.AI,an];have:=a2.2;omega
  ·have hat:(iH al).length <= 250:=by simp only [iH,length_append,length_cons,length_nil];omega
   rw [d5];rcases hk with rfl|rfl<;>simp<;>omega
 |@cond vars deep left l1 l2 left' e thn els rest he h1 h2 h3 i1 i2 i3=>
  intro hv hl D tabs hD ht;have:=h1.le;have:=h2.le;have:=h3.le;have hel:=he.len hv;have j1:=i1 hv Y (D+1) (tabs++[9]) Y dr;have j2:=i2 hv Y (D+1) (tabs++[9]) Y dr;refine (i3 hv Y D tabs hD ht).cons' (n:=1+(left-l1)+(l1-l2)) (oi.of Y Fz BH Aj aM J (by rw [if_pos V];exact j1.ok) (by rw [j2.ok];simp) ?_ ?_ ?_) Y
  ·rw [aD.bt];exact ⟨V,he.bt hv,cD.ip,xi,j1.bt,j2.bt⟩
  ·rw [f9];show 1+e.nodes+cD.zero.wt+dQ []+an thn+an els <= _;rw [cD.AI,dQ];have:=he.nodes;have:=j1.wt;have:=j2.wt;omega
  ·have:=j1.len;have:=j2.len;rw [d5,if_neg V,if_neg V,if_neg V,if_neg V,if_neg V,if_neg V,if_pos V,if_neg V];simp only [length_append,length_cons,length_nil];split<;>(try simp only [length_append,length_cons,length_nil])<;>omega
 |@loop vars deep left l1 left' e thn rest he h1 h3 i1 i3=>
  intro hv hl D tabs hD ht;have:=h1.le;have:=h3.le;have hel:=he.len hv;have j1:=i1 hv Y (D+1) (tabs++[9]) Y dr;refine (i3 hv Y D tabs hD ht).cons' (n:=1+(left-l1)) (oi.of Y Fz BH Aj aM J (by rw [if_pos V];exact j1.ok) aM ?_ ?_ ?_) Y
  ·rw [aD.bt];exact ⟨V,he.bt hv,cD.ip,xi,j1.bt,qF⟩
  ·rw [f9];show 1+e.nodes+cD.zero.wt+dQ []+an thn+an [] <= _;rw [cD.AI,dQ,an];have:=he.nodes;have:=j1.wt;omega
  ·have:=j1.len;rw [d5];simp;omega
 |@ret vars deep left left' rest h ih=>
  intro hv hl D tabs hD ht;have:=h.le;refine (ih hv Y D tabs hD ht).cons' (n:=1) (oi.of Y Fz (by rw [if_neg V];exact D9) Aj aM J Hv aM ?_ ?_ ?_) Y
  ·rw [aD.bt];exact ⟨V,aS.ip,cD.ip,xi,qF,qF⟩
  ·rw [f9];show 1+aS.zero.nodes+cD.zero.wt+dQ []+an []+an [] <= _;rw [aS.ro,cD.AI,dQ,an];omega
  ·rw [d5];simp;omega
 |@pair vars deep left l1 left' r mid rest hr h1 h3 i1 i3=>
  intro hv hl D tabs hD ht;have:=h1.le;have:=h3.le;have j1:=i1 hv Y D tabs Y Y;have j3:=i3 hv Y D tabs hD ht;obtain ⟨s5,t5⟩:=Dm (D:=D) (tabs:=tabs) (.inl rfl) Y hm hp hv hr;obtain ⟨s6,t6⟩:=Dm (D:=D) (tabs:=tabs) (.inr rfl) Y hm hp hv hr;refine ⟨?_,?_,?_,?_⟩
  ·rw [dG,LG D Y,dG,s5.ok,s6.ok,j1.ok,j3.ok];rfl
  ·rw [eI,KP,eI];exact ⟨s5.bt,j1.bt,s6.bt,j3.bt⟩
  ·have w5:∀k:Int,(aD.mk k ay .zero r [] [] []).wt <= 20:=λk=>by rw [f9];show 1+aS.zero.nodes+r.wt+dQ []+an []+an [] <= _;rw [aS.ro,dQ,an];have:=(hr.ok hm hp hv).2.1.2;omega
   rw [an,M_,an];have:=j1.wt;have:=j3.wt;have:=w5 5;have:=w5 6;omega
  rw [bS,Mr,bS];have:=j1.len;have:=j3.len;simp only [length_append];omega
end
def Ur:∀i,i<4 -> cH (bytes [UInt8.ofNat (97+i)])=true:=by
 intro i h;have:(List.range 4).all (λk=>cH (bytes [UInt8.ofNat (97+k)]))=true:=aL;exact fC.1 this i (pI.2 h)
def TE:∀i,i<4 -> cH (bytes [103,UInt8.ofNat (48+i)])=true:=by
 intro i h;have:(List.range 4).all (λk=>cH (bytes [103,UInt8.ofNat (48+k)]))=true:=aL;exact fC.1 this i (pI.2 h)
def Yg:∀i,i<4 -> cH (bytes [112,UInt8.ofNat (48+i)])=true:=by
 intro i h;have:(List.range 4).all (λk=>cH (bytes [112,UInt8.ofNat (48+k)]))=true:=aL;exact fC.1 this i (pI.2 h)
def ZP:∀i,i<4 -> cH (bytes [102,UInt8.ofNat (48+i)])=true:=by
 intro i h;have:(List.range 4).all (λk=>cH (bytes [102,UInt8.ofNat (48+k)]))=true:=aL;exact fC.1 this i (pI.2 h)
def Uf:cH (bytes [109,97,105,110])=true:=aL
def xN.names{l:List bg}(h:xN l):∀x,x∈l -> cH x.name=true:=by
 intro x hx;obtain ⟨k,hk,rfl⟩:=mT hx;rw [h.2 k hk];have:=h.1;exact Yg _ Y
def Fo.name{i:Nat}{f:a_}(h:Fo i f)(hi:i<4):cH f.name=true:=by
 rcases yD i with h0|h0
 ·rw [(h.1 h0).1];exact Uf
 rw [h.2.1 h0];exact ZP i hi
def qC.all{ms:List cn}{fs:List iV}{gs:List bw}(hm:∀m,m∈ms -> cH m.name=true)(hg:∀g,g∈fs -> cH g.1=true /\ g.2.length <= 2)(hgl:∀g,g∈gs -> cH g.name=true)
  {left:Nat} {l:List a_} (h:qC ms fs gs left l):left <= 24 -> (∀f,f∈l -> ∀x,x∈f.params -> cH x.name=true) -> ∀f,f∈l -> pv 0 [9] 24 f.body:=by
 induction h with
 |nil=>intro _ _ f hf;simp at hf
 |@cons left left' f l hb hl ih=>
  intro hle hps g hgm;have h1:=hb.le;have hv:sS (AQ gs f.params):=by
   intro x hx;simp only [AQ,mem_append,k_,List.mem_filter] at hx;rcases hx with ⟨g,hg,rfl⟩|⟨y,⟨hy,_⟩,rfl⟩
   ·exact hgl g hg
   exact hps f aM y hy
  rcases mem_cons.1 hgm with rfl|hgm
  ·have:=hb.ok hm (hps g aM) hg hv hle 0 [9] Y aM;exact ⟨this.ok,this.bt,by have:=this.wt;omega,by have:=this.len;omega⟩
  exact ih Y (λf hf=>hps f (by simp [hf])) g hgm
def DY{α:Type}(f:α -> List UInt8)(c:Nat):∀l:List α,(∀x,x∈l -> (f x).length <= c) -> ((l.map f).flatten).length <= c*l.length
 |[],_=>aM
 |x::r,h=>by
  have h1:=DY f c r (λy hy=>h y vd);have h2:=h x aM;simp only [ca,jd,length_append,length_cons,Nat.mul_add,sM];omega
def X1{x:bg}(h:cH x.name=true):(ed x).length <= 22:=by
 have:=lI h;rw [ed];split<;>simp<;>omega
def KE{α:Type}(f:α -> List UInt8)(c:Nat):∀l:List α,(∀x,x∈l -> (f x).length <= c) -> (dM f l).length <= (c+2)*l.length
 |[],_=>wu
 |x::r,h=>by
  have h1:=KE f c r (λy hy=>h y vd);have h2:=h x aM;have h3:=JN f x r;simp only [length_cons,Nat.mul_add,sM];omega
structure US (p:aX):Prop where
 form:kO p=true
 bt:p.bt
 wt:p.wt <= 9000
 len:(iJ p).length <= 75000
def BW.facts{p:aX}(h:BW p):US p:=by
 obtain ⟨gs,ms,fs⟩:=p;obtain ⟨⟨hm1,hm2,hm⟩,⟨hg1,hg⟩,⟨hf1,hf2,hf⟩,hb⟩:=h;dsimp only at hm1 hm2 hm hg1 hg hf1 hf2 hf hb;have nm:∀m,m∈ms -> cH m.name=true:=by
  intro m hmm;obtain ⟨k,hk,rfl⟩:=mT hmm;rw [(hm k hk).1];exact Ur k Y
 have ng:∀g,g∈gs -> cH g.name=true:=by
  intro g hgm;obtain ⟨k,hk,rfl⟩:=mT hgm;rw [(hg k hk).1];exact TE k Y
 have nf:∀f,f∈fs -> cH f.name=true /\ xN f.params:=by
  intro f hfm;obtain ⟨k,hk,rfl⟩:=mT hfm;exact ⟨(hf k hk).name Y,(hf k hk).2.2⟩
 have bodies:=hb.all nm (by
  intro g hgm;obtain ⟨f,hfm,rfl⟩:=k_.1 hgm;exact ⟨(nf f hfm).1,(nf f hfm).2.1⟩) ng (bY _) (λf hfm=>(nf f hfm).2.names)
 have lg:∀g,g∈gs -> (cT g).length <= 60 /\ g.init≠-9223372036854775808 /\ fit g.init:=by
  intro g hgm;have h1:=lI (ng g hgm);obtain ⟨k,hk,rfl⟩:=mT hgm;obtain ⟨_,h2,h3⟩:=hg k hk;have h4:=Ia (n:=gs[k].init) Y Y;refine ⟨?_,Y,by constructor<;>omega⟩;rw [cT];split<;>simp<;>omega
 have lm:∀m,m∈ms -> (ci m).length <= 60 /\ iu m=true /\ fit m.size:=by
  intro m hmm;have h1:=lI (nm m hmm);have h0:=nm m hmm;obtain ⟨k,hk,rfl⟩:=mT hmm;have h2:0 <= ms[k].size /\ ms[k].size <= 3 /\ (ms[k].ex=true -> ms[k].size=0):=by
   rcases (hm k hk).2 with ⟨a,b,c⟩|⟨a,b⟩
   ·exact ⟨b,c,λh=>by rw [a] at h;cases h⟩
   exact ⟨Y,Y,λ_=>b⟩
  have h4:=Ia (n:=ms[k].size) Y Y;refine ⟨?_,?_,by constructor<;>omega⟩
  ·rw [ci];split<;>split<;>simp<;>omega
  rw [iu,h0,decide_eq_true Y];cases hr:ms[k].ex with
  |false=>rfl
  |true=>rw [decide_eq_false (by have:=h2.2.2 hr;omega)];rfl
 have lf:∀f,f∈fs -> (funcText f).length <= 17000 /\ gh f=true:=by
  intro f hfm;obtain ⟨h0,h1⟩:=nf f hfm;have h2:=lI h0;have h3:=bodies f hfm;have h4:=h3.len;have h5:=KE ed 22 f.params (λx hx=>X1 (h1.names x hx));have h6:=h1.1;refine ⟨?_,?_⟩
  ·rw [funcText];simp only [length_append,length_cons,length_nil];have:f.name.data.toList.length=f.name.size:=rfl;omega
  rw [gh,h0,decide_eq_true Y,h3.ok,fC.2 (λx hx=>h1.names x hx)];rfl
 have len:(iJ ⟨gs,ms,fs⟩).length <= 75000:=by
  have h1:=DY cT 60 gs (λg h=>(lg g h).1);have h2:=DY ci 60 ms (λg h=>(lm g h).1);have h3:=DY funcText 17000 fs (λg h=>(lf g h).1);rw [iJ];simp only [length_append];omega
 refine ⟨?_,⟨λg h=>⟨(lg g h).2.2,iN (lI (ng g h)) V⟩,λm h=>⟨(lm m h).2.2,iN (lI (nm m h)) V⟩,λf h=>⟨iN (lI (nf f h).1) V,λx hx=>iN (lI ((nf f h).2.names x hx)) V,(bodies f h).bt⟩⟩,?_,len⟩
 ·unfold kO;rw [decide_eq_true nY,fC.2 (λg h=>by rw [lL,ng g h,decide_eq_true (lg g h).2.1];rfl),fC.2 (λm h=>(lm m h).2.1),fC.2 (λf h=>(lf f h).2)];rfl
 unfold aX.wt;have h1:(fs.map a_.wt).sum <= 2000*fs.length:=by
  have:∀l:List a_,(∀f,f∈l -> f.wt <= 2000) -> (l.map a_.wt).sum <= 2000*l.length:=by
   intro l;induction l with
   |nil=>intro _;simp
   |cons f l ih=>intro hx;have:=ih (λg hg=>hx g (by simp [hg]));have:=hx f aM;simp only [ca,mh,length_cons];omega
  exact this fs (λf hfm=>by unfold a_.wt;have:=(bodies f hfm).wt;have:=(nf f hfm).2.1;omega)
 show gs.length+ms.length+(fs.map a_.wt).sum <= _;omega
end
section
def fM.ve{names:List aI}{d:Nat}{e:aS}(hn:∀x,x∈names -> cH x=true)(h:fM names d e):nh e:=by
 induction h with
 |@name d x h=>exact .name x (hn x h)
 |@num d n h0 h1=>
  obtain ⟨k,rfl⟩:∃k:Nat,n=k:=⟨n.toNat,Y⟩;exact .num k Y
 |@un d op e ho he ih=>exact .un op e ho ih
 |@bin d op a b h0 h1 ha hb iha ihb=>exact .bin op a b ⟨h0,h1⟩ iha ihb
end
section
def Vg:∀(e:aS),nh e -> (ep e).length <= 3*e.nodes-2:=by
 intro e h;induction h with
 |num n h=>rw [Nl,aS.nodes,cv];simp
 |name s h=>rw [Qx,aS.nodes,cv];simp
 |un op x h hx ih=>
  have h1:∀b t,(uF b t).length <= t.length+2:=λb t=>by unfold uF;split<;>simp
  rw [PF h,aS.nodes,cv,cv,length_cons];have:=h1 (kE op 0 x.op) (ep x);omega
 |bin op x y h hx hy ihx ihy=>
  have h1:∀b t,(uF b t).length <= t.length+2:=λb t=>by unfold uF;split<;>simp
  rw [Lc h,aS.nodes,cv,cv,cv,length_append,length_cons];have:=h1 (kE op 0 x.op) (ep x);have:=h1 (kE op 1 y.op) (ep y);omega
def fM.toks{names:List aI}{d:Nat}{e:aS}(hn:∀x,x∈names -> cH x=true)(h:fM names d e)(hd:d <= 2):(ep e).length <= 37:=by
 have h1:=Vg e (h.ve hn);have h2:=(h.mono hd).nodes;omega
section
variable {ms:List cn}{fs:List iV}{ps:List bg}
def m5.toks{vars:List aI}{r:cD}(hv:sS vars)(h:m5 ms ps vars r):(uz r).length <= 40:=by
 cases h with
 |arr hm hs he=>have:=he.toks hv Y;simp only [uz,length_cons,length_append,length_nil];omega
 |scalar hm hs=>simp [uz]
 |param hx hm=>simp [uz]
def Mz{α:Type}(f:α -> List eV)(c:Nat):∀l:List α,(∀x,x∈l -> (f x).length <= c) -> (sw f l).length <= (c+1)*l.length
 |[],_=>by simp [sw]
 |[x],h=>by have:=h x aM;simp [sw];omega
 |x::y::r,h=>by
  have h1:=Mz f c (y::r) (λz hz=>h z (by simp [hz]));have h2:=h x aM;rw [Xp,length_append,length_cons];simp only [length_cons,Nat.mul_add,sM] at h1⊢;omega
def m7.toks{vars:List aI}{l:List bg}{al:List bq}(hv:sS vars)(h:m7 ms ps vars l al):al.length=l.length /\ ∀x,x∈al -> (xX x).length <= 41:=by
 induction h with
 |nil=>exact ⟨rfl,λx hx=>AZ⟩
 |mutex hx hr h ih=>
  refine ⟨by simp [ih.1],λx hx=>?_⟩;rcases mem_cons.1 hx with rfl|hx
  ·have:=hr.toks hv;simp only [xX,if_true,length_cons];omega
  ·exact ih.2 x hx
 |expr hx he h ih=>
  refine ⟨by simp [ih.1],λx hx=>?_⟩;rcases mem_cons.1 hx with rfl|hx
  ·have:=he.toks hv Y;simp only [xX,m4,if_false];omega
  exact ih.2 x hx
def Xs(a b:List aD):jo (a++b)=jo a++jo b:=by
 induction a with
 |nil=>rw [ck,jo,ck]
 |cons s r ih=>rw [eE,jo,jo,ih,append_assoc]
def fD.toks{vars:List aI}{deep left left':Nat}{l:List aD}(hg:∀g,g∈fs -> cH g.1=true /\ g.2.length <= 2)(h:fD ms fs ps vars deep left l left'):
  sS vars -> left <= 24 -> (jo l).length <= 100*(left-left'):=by
 induction h with
 |nil=>intro _ _;rw [jo];simp
 |lock hr h ih=>
  intro hv hl;have:=h.le;have:=ih hv Y;have:=hr.toks hv;rw [jo,nF];simp;omega
 |unlock hr h ih=>
  intro hv hl;have:=h.le;have:=ih hv Y;have:=hr.toks hv;rw [jo,nF];simp;omega
 |@var vars deep left left' e rest he h ih=>
  intro hv hl;have:=h.le;have:=ih (λx hx=>by
   rcases mem_append.1 hx with hx|hx
   ·exact hv x hx
   simp only [jq] at hx;subst hx;exact J2 left Y) Y
  have:=he.toks hv Y;rw [jo,nF];simp;omega
 |assign hx he h ih=>
  intro hv hl;have:=h.le;have:=ih hv Y;have:=he.toks hv Y;rw [jo,nF];simp;omega
 |@call vars deep left left' k g al rest hk hgm ha h ih=>
  intro hv hl;have:=h.le;have:=ih hv Y;obtain ⟨h1,h2⟩:=ha.toks hv;have h3:=Mz xX 41 al h2;have h4:=(hg g hgm).2;rw [jo,nF];rcases hk with rfl|rfl<;>simp [Ft]<;>omega
 |cond he h1 h2 h3 i1 i2 i3=>
  intro hv hl;have:=h1.le;have:=h2.le;have:=h3.le;have:=i1 hv Y;have:=i2 hv Y;have:=i3 hv Y;have:=he.toks hv Y;rw [jo,nF];simp only [length_append];rw [if_neg V,if_neg V,if_neg V,if_neg V,if_neg V,if_neg V,if_pos V];simp only [length_append,length_cons,length_nil];split<;>(try simp only [length_append,length_cons,length_nil])<;>omega
 |loop he h1 h3 i1 i3=>
  intro hv hl;have:=h1.le;have:=h3.le;have:=i1 hv Y;have:=i3 hv Y;have:=he.toks hv Y;rw [jo,nF];simp;omega
 |ret h ih=>
  intro hv hl;have:=h.le;have:=ih hv Y;rw [jo,nF];simp;omega
 |pair hr h1 h3 i1 i3=>
  intro hv hl;have:=h1.le;have:=h3.le;have:=i1 hv Y;have:=i3 hv Y;have:=hr.toks hv;rw [jo,Xs,jo,nF,nF];simp;omega
def qC.toks{gs:List bw}{left:Nat}{l:List a_}(hg:∀g,g∈fs -> cH g.1=true /\ g.2.length <= 2)(hgl:∀g,g∈gs -> cH g.name=true)(h:qC ms fs gs left l):left <= 24 -> (∀f,f∈l -> ∀x,x∈f.params -> cH x.name=true) ->
  (l.map λf=>(jo f.body).length).sum <= 100*left:=by
 induction h with
 |nil=>intro _ _;simp
 |@cons left left' f l hb hl ih=>
  intro hle hps;have h1:=hb.le;have hv:sS (AQ gs f.params):=by
   intro x hx;simp only [AQ,mem_append,k_,List.mem_filter] at hx;rcases hx with ⟨g,hg,rfl⟩|⟨y,⟨hy,_⟩,rfl⟩
   ·exact hgl g hg
   exact hps f aM y hy
  have h2:=hb.toks hg hv hle;have h3:=ih Y (λf hf=>hps f (by simp [hf]));simp only [ca,mh];omega
end
end
section
def VD:∀i,i<25 -> ∀j,j<25 -> kW i=kW j -> i=j:=V
def R5(i j:Nat)(hi:i<25)(hj:j<25)(h:kW i=kW j):i=j:=VD i hi j hj h
section
open Classical
structure wc (ms:List cn) (sg:List iV) (ps:List bg) (fs:dW) (vars:List ByteArray) (left:Nat) (v:br):Prop where
 kn:dZ v
 vars:∀x,x∈vars -> cB v x=1
 ms:∀m,m∈ms -> cB v m.name=qu m
 ps:∀x,x∈ps -> x.mutex=true -> cB v x.name=4
 sg:∀g,g∈sg -> cB v g.1=5 /\ ∃f,dY fs g.1=some f /\ f.params=g.2
 free:∀j,j<left -> cB v (kW j)=0
section
variable {ms:List cn}{sg:List iV}{ps:List bg}{fs:dW}{vars:List ByteArray}{left:Nat}{v:br}
def wc.of{v':br}{left':Nat}(h:wc ms sg ps fs vars left v)(hk:dZ v')(hl:left' <= left)(ow:List aI)(hv:∀s,cB v' s=if s∈ow then 1 else cB v s)(ho:∀s,s∈ow -> ∃j,left' <= j /\ j<left /\ s=kW j)(BT:left <= 25):wc ms sg ps fs vars left' v':=by
 have no:∀s,cB v s≠0 -> cB v' s=cB v s:=λs hs=>by
  rw [hv];split
  ·rename_i hm;obtain ⟨j,-,h2,rfl⟩:=ho s hm;exact absurd (h.free j h2) hs
  rfl
 refine ⟨hk,λx hx=>?_,λm hm=>?_,λx hx hm=>?_,λg hg=>?_,λj hj=>?_⟩
 ·rw [no x (by rw [h.vars x hx];decide)];exact h.vars x hx
 ·rw [no _ (by rw [h.ms m hm];unfold qu;split<;>decide)];exact h.ms m hm
 ·rw [no _ (by rw [h.ps x hx hm];decide)];exact h.ps x hx hm
 ·rw [no _ (by rw [(h.sg g hg).1];decide)];exact h.sg g hg
 rw [hv];split
 ·rename_i hm;obtain ⟨i,h1,h2,h3⟩:=ho _ hm;have:=R5 j i Y Y h3;omega
 exact h.free j Y
def P9:∀(ow:List aI)(v:br),dZ v -> dZ (ow.foldl eb v) /\ ∀s,cB (ow.foldl eb v) s=if s∈ow then 0 else cB v s
 |[],v,h=>⟨h,λs=>aM⟩
 |k::ow,v,h=>by
  obtain ⟨h1,h2⟩:=P9 ow (eb v k) (h.del k);refine ⟨h1,λs=>?_⟩;rw [wH,h2,xI h];by_cases hs:s∈ow
  ·rw [if_pos hs,if_pos (d_ _ hs)]
  rw [if_neg hs];by_cases hk:k=s
  ·rw [if_pos hk,if_pos (by rw [hk];exact mq)]
  rw [if_neg hk,if_neg (λhm=>(mem_cons.1 hm).elim (λe=>hk e.symm) hs)]
def Ky(fs:dW)(l:List aD)(left left':Nat)(v:br):Prop:=∀(own:List ByteArray)(n:Nat)(a:Int),∃(ow:List ByteArray) (n':Nat) (a':Int) (v':br),eQ fs l own ⟨v,n,a⟩=(0,own++ow,⟨v',n',a'⟩) /\ dZ v' /\ (∀s,cB v' s=if s∈ow then 1 else cB v s) /\ ∀s,s∈ow -> ∃j,left' <= j /\ j<left /\ s=kW j
def Ky.fin{l:List aD}{left':Nat}(h:Ky fs l left left' v)(hf:∀j,j<left -> cB v (kW j)=0)(n:Nat)(a:Int):∃(n':Nat) (a':Int) (v':br),ia (eQ fs l [] ⟨v,n,a⟩)=(0,⟨v',n',a'⟩) /\ dZ v' /\ ∀s,cB v' s=cB v s:=by
 obtain ⟨ow,n',a',v',h1,h2,h3,h4⟩:=h [] n a;obtain ⟨g1,g2⟩:=P9 ow v' h2;refine ⟨n',a',_,xn,g1,λs=>?_⟩;show cB (ow.foldl eb v') s=_;rw [g2,h3];split
 ·rename_i hm;obtain ⟨j,-,h5,rfl⟩:=h4 s hm;exact (hf j h5).symm
 rfl
def wc.same{v':br}{left':Nat}(h:wc ms sg ps fs vars left v)(hk:dZ v')(hl:left' <= left)(hv:∀s,cB v' s=cB v s):wc ms sg ps fs vars left' v':=
 ⟨hk,λx hx=>by rw [hv];exact h.vars x hx,λm hm=>by rw [hv];exact h.ms m hm,λx hx hm=>by rw [hv];exact h.ps x hx hm,λg hg=>by rw [hv];exact h.sg g hg,λj hj=>by rw [hv];exact h.free j Y⟩
end
end
end
section
open Go.ChangeShapes Go.WideShapes Go.ChangeAt Go.RowKit
def tA{n:Int}(h:(Lit.int .i64 n).wf=true):-9223372036854775808 <= n /\ n <= 9223372036854775807:=by
 simp only [Lit.wf,dm,decide_eq_true_eq] at h;exact h
end
section
open Go.RowKit
structure oz (i:jD):Prop where
 e:i.expr.nodes <= 1000000000
 p:cv i.place.at_ <= 1000000000
 n:cv i.ints <= 1000000000
 q:∀x,x∈i.places -> cv x.at_ <= 1000000000
 l:i.places.length <= 1000000000
def KL(l:List aS)(hn:cv l <= 1000000000)(s:aH):aT prog 52 [.c (aG bV l),.c (aG bV l)] [] s λt s'=>t=au true /\ s'=s:=by
 have hlen:=xo l;obtain ⟨bx,rw⟩:=s;refine bM 27 func52 ?_;refine go 12 ?_;refine aF J (eG Y) (go 12 ?_);refine m9 (l.length) 5 (λk=>[(0,.c (aG bV l)),(1,.c (aG bV l))]) (ao J) λk hk=>?_;show bi prog _ ⟨27,_,_,(5,ab k)::[(0,.c (aG bV l)),(1,.c (aG bV l))]⟩ _;refine go 6 ?_;by_cases h2:(k:Int)<(l.length:Int)
 ·refine aJ J (cw h2) (go 8 ?_);have hkl:k<l.length:=Y;refine bu [] (aU [0,1] 8 (go 3 ?_));refine aZ 2 J (bX bV bf l fw fR k J J J J Y V iR dl) (aU [3,4,5] 4 (go 4 ?_));refine aZ 6 J (bX bV bf l fw fR k J J J J Y V iR dl) (aU [7] 2 (go 2 ?_));refine aY 8 J J (dv J J V call50 J (Eo l[k] (by have:=pc l k hkl;omega) _) ?_);rintro _ _ ⟨rfl,rfl⟩;refine aU [9] 0 (go 2 ?_);refine bC (go 7 ?_);refine bK J (go 2 ?_);exact ⟨Y,(av J (b_ Y) (ao J))⟩
 refine aF J (ct h2) (go 14 ?_);exact bF bx rw J d3 ⟨bZ J,J⟩
def K7(x:ox)(hn:cv x.at_ <= 1000000000)(s:aH):aT prog 51 [.agg (fL x),.agg (fL x)] [] s λt s'=>t=au true /\ s'=s:=by
 obtain ⟨bx,rw⟩:=s;refine bM 24 func51 ?_;refine go 13 λb1 b2=>?_;refine aC J (jY true J J J jh (by simp [ya])) (go 5 ?_);refine aJ J (bR Y) (go 6 ?_);refine pM J call52 J (KL x.at_ Y _) (go 5 ?_);exact bF bx rw J fB ⟨bZ J,J⟩
def Yp(c:List jD)(hl:c.length <= 1000000000)(hs:∀i,i∈c -> oz i)(s:aH):aT prog 26 [.c (aG encI c),.c (aG encI c)] [] s λt s'=>t=au true /\ s'=s:=by
 obtain ⟨bx,rw⟩:=s;refine bM 99 func26 ?_;refine go 12 ?_;refine aF J (eG Y) (go 12 ?_);refine m9 (c.length) 5 (λk=>[(0,.c (aG encI c)),(1,.c (aG encI c))]) (ao J) λk hk=>?_;show bi prog _ ⟨99,_,_,(5,ab k)::[(0,.c (aG encI c)),(1,.c (aG encI c))]⟩ _;refine go 6 ?_;by_cases h2:(k:Int)<(c.length:Int)
 ·refine aJ J (cw h2) (go 8 ?_);have hkl:k<c.length:=Y;have hm:=hs c[k] (getElem_mem hkl);have hml:=hm.l;refine bu [] (aU [0,1] 10 (go 3 ?_));refine aZ 2 J (bX encI encI c lh (λ_=>J) k J J J J Y V jv jS) (aU [3,4,5] 6 (go 4 ?_));refine aZ 6 J (bX encI encI c lh (λ_=>J) k J J J J Y V jv jS) (aU [7] 4 (go 2 ?_));refine Mg 8 9 aL aL aL J J J J J J J J V J J V V V zeroValue99 J zeroValue99 J λb1 b2=>?_;refine cY [(10,false),(11,false)] 0 (go 3 ?_);refine bC (go 8 ?_);refine aF J (eG Y) (go 5 ?_);refine aF J (eG Y) (go 6 ?_);refine aC J (jY false J J J jh (by simp [ya])) (go 6 ?_);refine pM J call50 J (Eo c[k].expr hm.e _) (go 7 ?_);refine pM J call51 J (K7 c[k].place hm.p _) (go 7 ?_);refine pM J call52 J (KL c[k].ints hm.n _) (go 9 ?_);refine aF J (eG Y) (go 12 ?_);refine m9 (c[k].places.length) 8 (λj=>[(0,.c (aG encI c)),(1,.c (aG encI c)),(5,ab k),(6,aE b1),(7,aE b2)]) (ao J) λj hj=>?_;show bi prog _ ⟨99,_,_,(8,ab j)::[(0,.c (aG encI c)),(1,.c (aG encI c)),(5,ab k),(6,aE b1),(7,aE b2)]⟩ _;refine go 7 ?_;by_cases h5:(j:Int)<((c[k].places.length:Nat):Int)
  ·refine aJ J (cw h5) (go 8 ?_);refine bu [b2,b1] (aU [0,1,2] 9 (go 4 ?_));refine aZ 3 J (bX fL fL c[k].places EI (λ_=>J) j J J J J Y V Gk wn) (aU [4,5,6,7] 4 (go 5 ?_));refine aZ 8 J (bX fL fL c[k].places EI (λ_=>J) j J J J J Y V Gk wn) (aU [9] 2 (go 2 ?_));refine aY 10 J J (dv J J V call51 J (K7 c[k].places[j] (hm.q _ (getElem_mem Y)) _) ?_);rintro _ _ ⟨rfl,rfl⟩;refine aU [11] 0 (go 2 ?_);refine bC (go 7 ?_);refine bK J (go 2 ?_);exact ⟨Y,(av J (b_ Y) (ao J))⟩
  refine aF J (ct h5) (go 11 ?_);refine bK J (go 2 ?_);exact ⟨Y,az (h1:=c_) (h:=av J (b_ Y) (ao J)) (λb hb=>d_ _ (d_ _ (hb)))⟩
 refine aF J (ct h2) (go 14 ?_);exact bF bx rw J d3 ⟨bZ J,J⟩
end
end Go.Proofs.YtckelpefchdenaaGreatDoor
