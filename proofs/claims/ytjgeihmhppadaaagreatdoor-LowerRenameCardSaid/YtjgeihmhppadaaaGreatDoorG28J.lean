import Derived.Test.YtjgeihmhppadaaaGreatDoorG27J
set_option linter.all false
set_option synthInstance.maxHeartbeats 1000000
set_option synthInstance.maxSize 1000000
set_option maxHeartbeats 8000000
set_option maxRecDepth 100000
namespace Go.Proofs.YtjgeihmhppadaaaGreatDoor
open Go.Proofs.Tryz
open List (length_append length_cons length_nil mem_append mem_cons not_mem_nil append_assoc getElem_mem take_of_length_le)
section
open Go.RowKit
theorem dJ.len2{ms:List cL}{fs:List Sig}{ps:List aS}{vars:List ByteArray}{deep left left':Nat}{l:List aJ}(h:dJ ms fs ps vars deep left l left'):l.length+2*left' <= 2*left:=by
 induction h<;>(try simp only [length_cons,length_append,length_nil])<;>omega
def BTo(ms:List cL)(fs:List Sig)(ps:List aS)(vars0:List ByteArray)(deep left0:Nat)(vs:List ByteArray)(left:Nat)(al:List aJ):Prop:=
 ∀rest l',dJ ms fs ps vs deep left rest l' -> dJ ms fs ps vars0 deep left0 (al++rest) l'
theorem BTo.step{ms:List cL}{fs:List Sig}{ps:List aS}{vars0 vs vs':List ByteArray}{deep left0 left left':Nat}{al:List aJ}(h:BTo ms fs ps vars0 deep left0 vs left al)(x:List aJ)
  (hx:∀rest l',dJ ms fs ps vs' deep left' rest l' -> dJ ms fs ps vs deep left (x++rest) l'):BTo ms fs ps vars0 deep left0 vs' left' (al++x):=λrest l' hr=>by
 rw [append_assoc];exact h _ _ (hx _ _ hr)
theorem BTo.fin{ms:List cL}{fs:List Sig}{ps:List aS}{vars0 vs:List ByteArray}{deep left0 left:Nat}{al:List aJ}(h:BTo ms fs ps vars0 deep left0 vs left al):dJ ms fs ps vars0 deep left0 al left:=by
 have:=h [] left .nil
 rwa [List.append_nil] at this
def cQ(f:ByteArray×List aS×AC):List AC:=[Vs f.1,Sq cP f.2.1,f.2.2]
theorem flat_get{α:Type}(enc:α -> List AC)(z:Nat)(hz:∀x,(enc x).length=z):∀(fs:List α)(j:Nat)(h:j<fs.length),((fs.flatMap enc).drop (j*z)).take z=enc fs[j] /\ j*z+z <= (fs.flatMap enc).length
 |f::fs,0,_=>by
  rw [List.flatMap_cons,Nat.zero_mul,List.drop_zero,List.take_left' (hz f)]
  exact ⟨Y,by rw [length_append,hz];omega⟩
 |f::fs,j+1,h=>by
  obtain ⟨h1,h2⟩:=flat_get enc z hz fs j Er
  rw [List.flatMap_cons,show (j+1)*z=z+j*z by rw [Nat.succ_mul,Nat.add_comm],←List.drop_drop,List.drop_left' (hz f)]
  exact ⟨h1,by rw [length_append,hz];omega⟩
theorem nG(fs:List (ByteArray×List aS×AC))(j:Nat)(h:j<fs.length):pk true 3 (fs.flatMap cQ) (0+j*3)=some (.agg [Vs (fs[j].1),Sq cP fs[j].2.1,fs[j].2.2]):=by
 obtain ⟨h1,h2⟩:=flat_get cQ 3 (λ_=>rfl) fs j h
 unfold pk
 rw [if_pos rfl,Nat.zero_add,if_pos h2,h1];rfl
theorem aCq{P:Program}{c y:Code}{st:AS}{Q Q0:Exit -> AS -> Prop}{ι:Type}(NF:ι -> AS)(I:ι -> Prop)(h1:AWp P c st (λe s=>e=.normal /\ ∃i,I i /\ Sub s (NF i)))(h2:∀i,I i -> AWp P y (NF i) Q):AWp P c st (sU (λs=>AWp P y s Q) Q0):=
 sE h1 λe s ⟨he,i,hi,hs⟩=>by subst he;exact rX (zU hs (h2 i hi))
section
variable {P:Program}{U:List Nat}{o:Oper}{st:AS}{t:AT}
theorem dT{E E0:TypeId}{x:Operand}{g off z zz k cap:Nat}{cs:List AC}{ag:Bool}(hA:∀w,(isAgg E).run P w=.ok ag w)(hS:∀w,(sizeOf E).run P w=.ok z w)(hp:pk ag z cs off=some t)(ho:o.op=.load E x:=by exact rfl)(hx:evA st x=some (Cv (.pointer (some ⟨g,off,none⟩))):=by exact rfl)(hrow:(⟨.slice (some ⟨g,0,none⟩) k cap,E0,zz,k,cs⟩:bA)∈st.s.rows:=by simp)(hU:st.s.bl.Nodup -> g∉U:=by exact λ_ h=>DV):AY P U o st t:=by
 obtain ⟨n,T,⟨bx,rows⟩,ts⟩:=st
 obtain ⟨A,B,hAB⟩:=List.append_of_mem hrow
 exact rM (ho:=ho) (hx:=hx) (hrow:=hAB) (hU:=hU) A hA hS hp
theorem dU{E yt:TypeId}{x y:Operand}{m k r:Nat}(ho:o.op=.binOp .add E x y yt:=by exact rfl)(hx:evA st x=some (nI m):=by exact rfl)(hy:evA st y=some (nI k):=by exact rfl)(hr:m+k=r:=by exact rfl)(h2:r <= 1000000:=by omega):AY P U o st (nI r):=by
 subst hr
 have h:=bB (P:=P) (U:=U) ho hx hy J J
 rwa [show ((m:Nat):Int)+((k:Nat):Int)=((m+k:Nat):Int) by omega] at h
theorem aOm{E yt:TypeId}{x y:Operand}{m k:Nat}(r:Nat)(ho:o.op=.binOp .quo E x y yt)(hx:evA st x=some (nI m))(hy:evA st y=some (nI k))(hk:k≠0)(hm:m <= 1000000)(hr:m/k=r):AY P U o st (nI r):=by
 subst hr
 refine aG3 ho hx hy J ?_
 have h1:m/k <= m:=Nat.div_le_self _ _
 show some (IntKind.i64.wrap ((m:Int).tdiv (k:Int)))=_
 rw [show ((m:Int).tdiv (k:Int))=((m/k:Nat):Int) from (Int.ofNat_tdiv m k).symm]
 generalize m/k=q at h1
 rw [IntWalk.i64_in _ J]
theorem uN{E yt:TypeId}{x y:Operand}{m:Nat}{b r:ByteArray}(ho:o.op=.binOp .add E x y yt)(hx:evA st x=some (Cs ⟨#[118]⟩))(hy:evA st y=some (Cs b))(hb:b=bytes [UInt8.ofNat (97+m%26),UInt8.ofNat (97+m/26%26)])(hr:cZk m=r):AY P U o st (Cs r):=by
 subst hr;subst hb
 have h:=aHr (P:=P) (U:=U) ho hx hy (by show 1+2 <= _;decide)
 exact h
end
theorem oY(l:List aJ):(l.flatMap encS).length=l.length*11:=by
 induction l with
 |nil=>rfl
 |cons x l ih=>rw [List.flatMap_cons,length_append,cZo,ih,length_cons,Nat.succ_mul,Nat.add_comm]
theorem aKm(B:List Box)(S W:Nat)(l:List Int)(ms:List cL)(ps:List aS)(fn:ByteArray)(G FB:AC)(ar:Bool)(fs:List (ByteArray×List aS×AC))(gF capF:Nat)(hl:l.length <= 1000000)(hm1:1 <= ms.length)(hm2:ms.length <= 1000)(hmz:∀m,m∈ms -> m.size <= 1000)(hp2:ps.length <= 1000)(hf1:1 <= fs.length)(hf2:fs.length <= 1000)(hfp:∀f,f∈fs -> f.2.1.length <= 1000)(L:Nat)(ih:∀(m:Nat),m<L -> ∀(A:List Box) (RA rw:List bA) (vv:Value) (vars:List ByteArray) (i deep most:Nat) (hi:i <= l.length) (hd:deep <= 100) (hmost:most <= 1000) (hvl:vars.length+m <= 1000) (hF:(⟨.slice (some ⟨gF,0,none⟩) fs.length capF,67,3,fs.length,fs.flatMap cQ⟩:bA)∈rw),aL prog 24 [pP W,.agg [Vs fn,Sq cP ps,FB],Cv vv,nI deep,nI most] [S,W] (SSt A (⟨W,56,[.val (.pointer (some ⟨S,0,none⟩)),G,(Sq bT ms),(.val (.slice (some ⟨gF,0,none⟩) fs.length capF)),nC m,Vb ar]⟩::B) (gP RA vv vars rw) S l i) (λr s=>∃(al:List aJ) (i left':Nat),r=.c (Sq encS al) /\ dJ ms (fs.map λf=>(f.1,f.2.1)) ps vars deep m al left' /\ i <= l.length /\ s=SSt A (⟨W,56,[.val (.pointer (some ⟨S,0,none⟩)),G,(Sq bT ms),(.val (.slice (some ⟨gF,0,none⟩) fs.length capF)),Vi ((left':Nat):Int),Vb ar]⟩::B) (gP RA vv vars rw) S l i))(A:List Box)(RA rw:List bA)(vv:Value)(vars:List ByteArray)(i0 deep most:Nat)(hi0:i0 <= l.length)(hd:deep <= 100)(hmost:most <= 1000)(hvl:vars.length+L <= 1000)(hF:(⟨.slice (some ⟨gF,0,none⟩) fs.length capF,67,3,fs.length,fs.flatMap cQ⟩:bA)∈rw):aL prog 24 [pP W,.agg [Vs fn,Sq cP ps,FB],Cv vv,nI deep,nI most] [S,W] (SSt A (⟨W,56,[.val (.pointer (some ⟨S,0,none⟩)),G,(Sq bT ms),(.val (.slice (some ⟨gF,0,none⟩) fs.length capF)),nC L,Vb ar]⟩::B) (gP RA vv vars rw) S l i0) (λr s=>∃(al:List aJ) (i left':Nat),r=.c (Sq encS al) /\ dJ ms (fs.map λf=>(f.1,f.2.1)) ps vars deep L al left' /\ i <= l.length /\ s=SSt A (⟨W,56,[.val (.pointer (some ⟨S,0,none⟩)),G,(Sq bT ms),(.val (.slice (some ⟨gF,0,none⟩) fs.length capF)),Vi ((left':Nat):Int),Vb ar]⟩::B) (gP RA vv vars rw) S l i):=by
 refine acX 249 func24 ?_
 refine go 13 λb1=>?_
 refine wo Y (aTr underlying61 sizeOf9 λg0=>?_)
 refine go 1 ?_
 refine wo Y (aSk (ds:=bP vars) [] Tryz.t9 16 Y Y V Y Y G0 underlying61 B6 Y Y Y Y V B1 J (Nat.zero_add vars.length) (λ_ b hb=>G9) (λb hb=>G9) G0 (List.nil_append _) λu0=>?_)
 refine go 11 ?_
 refine wyz Y (dU (k:=1)) ?_
 refine wo Y (bD [S] Y Y V call23 Y (eC (_::A) _ _ _ l i0 _ hi0 hl J J) (bDj) (bDj (h:=by simp [Sto.bl])) (λ_=>bDj) ?_)
 rintro r1 s1 ⟨z1,i1,rfl,hy1,hi1,rfl⟩
 refine go 4 ?_
 refine qR 120 11 ?_
 refine fM (λg:Nat×Nat×Nat×Value×List ByteArray×Value×List aJ=>(⟨249,aY g.2.2.2.2.2.1++(aY g.2.2.2.1++[b1,S,W]),⟨⟨b1,67,[.val (.string fn),.sl ps.length (ps.flatMap cP),FB]⟩::(A++⟨S,54,[.sl l.length (l.map λi=>.val (.int .i64 i)),nC g.2.2.1]⟩::⟨W,56,[.val (.pointer (some ⟨S,0,none⟩)),G,(.sl ms.length (ms.flatMap bT)),(.val (.slice (some ⟨gF,0,none⟩) fs.length capF)),nC g.2.1,.val (.bool ar)]⟩::B),⟨g.2.2.2.2.2.1,120,11,g.2.2.2.2.2.2.length,g.2.2.2.2.2.2.flatMap encS⟩::⟨g.2.2.2.1,9,1,g.2.2.2.2.1.length,bP g.2.2.2.2.1⟩::RA++⟨vv,9,1,vars.length,bP vars⟩::rw⟩,[(12,nI g.1),(11,.c (.val g.2.2.2.2.2.1)),(2,.c (.val g.2.2.2.1)),(0,pP W),(3,nI deep),(6,pP b1)]⟩:AS)) (λg=>g.1 <= most /\ g.2.1 <= L /\ g.2.2.1 <= l.length /\ g.2.2.2.2.1.length+g.2.1 <= 1000 /\ g.2.2.2.2.2.2.length+2*g.2.1 <= 2*L /\ BTo ms (fs.map λf=>(f.1,f.2.1)) ps vars deep L g.2.2.2.2.1 g.2.1 g.2.2.2.2.2.2) (λg=>g.1) (z1,L,i1,u0,vars,.slice none 0 0,[]) (cQf Gj) ⟨J,Nat.le_refl _,hi1,hvl,Nat.le_of_eq (Nat.zero_add _),λ_ _ h=>h⟩ ?_
 rintro ⟨n,lf,ik,u,us,vo,al⟩ ⟨hn,hlf,hik,hul,hal,hto⟩
 dsimp only at hn hlf hik hul hal hto
 show AWp prog _ (⟨249,aY vo++(aY u++[b1,S,W]),⟨⟨b1,67,[Vs fn,Sq cP ps,FB]⟩::(A++⟨S,54,[.sl l.length (l.map λi=>Vi i),nC ik]⟩::⟨W,56,[.val (.pointer (some ⟨S,0,none⟩)),G,(Sq bT ms),(.val (.slice (some ⟨gF,0,none⟩) fs.length capF)),nC lf,Vb ar]⟩::B),⟨vo,120,11,al.length,al.flatMap encS⟩::⟨u,9,1,us.length,bP us⟩::RA++⟨vv,9,1,vars.length,bP vars⟩::rw⟩,[(12,nI n),(11,Cv vo),(2,Cv u),(0,pP W),(3,nI deep),(6,pP b1)]⟩:AS) _
 refine go 4 ?_
 by_cases hn0:0<n
 focus
  obtain ⟨n,rfl⟩:∃q,n=q+1:=⟨n-1,J⟩
  refine wcp true Y FT (go 5 ?_)
  by_cases hl0:0<lf
  ·obtain ⟨m,rfl⟩:∃q,lf=q+1:=⟨lf-1,J⟩
   refine wcp true Y FT (go 14 ?_)
   refine wyz Y (cI ((m:Nat):Int)) (go 19 λb2=>?_)
   refine wo Y (bD [S] Y Y V call23 Y (eC (_::_::A) _ _ _ l ik _ hik hl V V) (bDj) (bDj (h:=by simp [Sto.bl])) (λ_=>bDj) ?_)
   rintro r2 s2 ⟨z2,i2,rfl,hy2,hi2,rfl⟩
   refine go 3 ?_
   refine aCq (λg:Nat×List AC×aJ×Nat×Nat×Value×List ByteArray×Value×List aJ=>(⟨249,g.1::(aY g.2.2.2.2.2.2.2.1++(aY g.2.2.2.2.2.1++[b1,S,W])),⟨⟨g.1,120,g.2.1⟩::⟨b1,67,[Vs fn,Sq cP ps,FB]⟩::(A++⟨S,54,[.sl l.length (l.map λi=>Vi i),nC g.2.2.2.2.1]⟩::⟨W,56,[.val (.pointer (some ⟨S,0,none⟩)),G,(Sq bT ms),(.val (.slice (some ⟨gF,0,none⟩) fs.length capF)),nC g.2.2.2.1,Vb ar]⟩::B),⟨g.2.2.2.2.2.2.2.1,120,11,g.2.2.2.2.2.2.2.2.length,g.2.2.2.2.2.2.2.2.flatMap encS⟩::⟨g.2.2.2.2.2.1,9,1,g.2.2.2.2.2.2.1.length,bP g.2.2.2.2.2.2.1⟩::RA++⟨vv,9,1,vars.length,bP vars⟩::rw⟩,[(13,Cv (.pointer (some ⟨g.1,0,none⟩))),(12,nI (n+1)),(11,Cv g.2.2.2.2.2.2.2.1),(2,Cv g.2.2.2.2.2.1),(0,pP W),(3,nI deep),(6,pP b1)]⟩:AS)) (λg=>g.2.1.length=11 /\ WkL g.2.1 (dG g.2.2.1) /\ g.2.2.2.1 <= L /\ g.2.2.2.2.1 <= l.length /\ g.2.2.2.2.2.2.1.length+g.2.2.2.1 <= 1000 /\ (g.2.2.2.2.2.2.2.2++[g.2.2.1]).length+2*g.2.2.2.1 <= 2*L /\ BTo ms (fs.map λf=>(f.1,f.2.1)) ps vars deep L g.2.2.2.2.2.2.1 g.2.2.2.1 (g.2.2.2.2.2.2.2.2++[g.2.2.1])) ?_ ?_
   ·refine go 4 ?_
    by_cases hk4:z2<4
    ·refine wcp true Y FT (go 8 ?_)
     refine wo Y (bD [S] Y Y V call42 Y (rG (_::_::A) _ [_] _ _ S W l i2 ms ps us fn G _ FB _ ar hi2 hl hm1 hm2 hmz hp2 J) (bDj) (bDj (h:=by simp [Sto.bl])) (λ_=>bDj) ?_)
     rintro r3 s3 ⟨f3,i3,rfl,hm3,hi3,rfl⟩
     unfold encR
     refine go 4 ?_
     refine ⟨Y,(b2,_,(.mk 5 aK .zero f3 [] [] []),m,i3,u,us,vo,al),⟨Y,(.r (.r (.r (.r (.r (.n (.r (.r (.n (.n (.n .nil))))))))))),Gh,hi3,FI,(by show List.length (al++[(.mk 5 aK .zero f3 [] [] [])])+2*m <= 2*L;(try simp only [length_append,length_cons,length_nil]);omega),BTo.step hto [(.mk 5 aK .zero f3 [] [] [])] (λ_ _ h=>.lock hm3 h)⟩,cQf Dr⟩
    refine wcp false Y FS (go 7 ?_)
    by_cases hk7:z2<7
    ·refine wcp true Y FT (go 8 ?_)
     refine wo Y (bD [S] Y Y V call42 Y (rG (_::_::A) _ [_] _ _ S W l i2 ms ps us fn G _ FB _ ar hi2 hl hm1 hm2 hmz hp2 J) (bDj) (bDj (h:=by simp [Sto.bl])) (λ_=>bDj) ?_)
     rintro r3 s3 ⟨f3,i3,rfl,hm3,hi3,rfl⟩
     unfold encR
     refine go 6 ?_
     refine ⟨Y,(b2,_,(.mk 6 aK .zero f3 [] [] []),m,i3,u,us,vo,al),⟨Y,(.r (.r (.r (.r (.r (.n (.r (.r (.n (.n (.n .nil))))))))))),Gh,hi3,FI,(by show List.length (al++[(.mk 6 aK .zero f3 [] [] [])])+2*m <= 2*L;(try simp only [length_append,length_cons,length_nil]);omega),BTo.step hto [(.mk 6 aK .zero f3 [] [] [])] (λ_ _ h=>.unlock hm3 h)⟩,cQf Dr⟩
    refine wcp false Y FS (go 7 ?_)
    by_cases hk7e:z2=7
    ·refine wcp true Y FT (go 5 ?_)
     refine dx [b1,W] (tz [(0,true),(1,true),(3,true),(4,true),(5,true),(6,true)] 21 (go 7 ?_))
     refine tx 7 Y (aIx (k:=26) (m%26) Y Y Y V Y) ?_
     refine tx 8 Y (dU (m:=97)) ?_
     refine tx 9 Y (aBf Y Y J Y Y Y) (tz [(10,true),(11,true),(12,true),(13,true)] 14 (go 5 ?_))
     refine tx 14 Y (aOm (k:=26) (m/26) Y Y Y V J Y) ?_
     refine tx 15 Y (aIx (k:=26) (m/26%26) Y Y Y V Y) ?_
     refine tx 16 Y (dU (m:=97)) ?_
     refine tx 17 Y (aBf Y Y J Y Y Y) (tz [(21,true)] 9 (go 2 ?_))
     refine t2 2 18 Y ?_ ?_
     focus
      refine (bD [S] Y Y V call43 Y (pQ (_::_::A) _ [_] _ _ S W l i2 us G (Sq bT ms) _ _ ar hi2 hl J) Gg FU FR ?_)
      rintro r3 s3 ⟨x3,i3,rfl,hm3,hi3,rfl⟩
      unfold cU
      refine t2 18 22 Y ?_ ?_
      focus
       refine (bDk (r:=iF [UInt8.ofNat (97+m%26),UInt8.ofNat (97+m/26%26)]) (hps:=(.cons Y (.cons Y .nil))) zb7 ?_)
       refine tx 19 Y (cK8 Y Y Y) ?_
       refine tx 20 Y (uN (m:=m) Y Y Y Y Y) (tz [(22,false),(23,true),(24,false),(25,true),(26,false)] 0 (go 6 ?_))
      rotate_left
      focus
       refine go 1 ?_
       refine tz [(23,true)] 6 (go 2 ?_)
       refine t2 18 24 Y ?_ ?_
       focus
        refine (bDk (r:=iF [UInt8.ofNat (97+m%26),UInt8.ofNat (97+m/26%26)]) (hps:=(.cons Y (.cons Y .nil))) zb7 ?_)
        refine tx 19 Y (cK8 Y Y Y) ?_
        refine tx 20 Y (uN (m:=m) Y Y Y Y Y) (tz [(24,false),(25,true),(26,false)] 0 (go 4 ?_))
       rotate_left
       refine go 1 ?_
       refine ox 18 Y Y (bDk (r:=iF [UInt8.ofNat (97+m%26),UInt8.ofNat (97+m/26%26)]) (hps:=(.cons Y (.cons Y .nil))) zb7 ?_)
       refine tx 19 Y (cK8 Y Y Y) ?_
       refine tx 20 Y (uN (m:=m) Y Y Y Y Y) (tz [(25,true),(26,false)] 0 (go 3 ?_))
     rotate_left 3
     refine (bDk (r:=iF [UInt8.ofNat (97+m%26),UInt8.ofNat (97+m/26%26)]) (hps:=(.cons Y (.cons Y .nil))) zb7 ?_)
     refine tx 19 Y (cK8 Y Y Y) ?_
     refine tx 20 Y (uN (m:=m) Y Y Y Y Y) ?_
     refine ox 2 Y Y (bD [S] Y Y V call43 Y (pQ (_::_::A) _ [_] _ _ S W l i2 us G (Sq bT ms) _ _ ar hi2 hl J) Gg FU FR ?_)
     rintro r3 s3 ⟨x3,i3,rfl,hm3,hi3,rfl⟩
     unfold cU
     refine tz [(22,false),(23,true),(24,false),(25,true),(26,false)] 0 (go 6 ?_)
     all_goals
      refine ax (go 5 ?_)
      refine wo Y (bDk (r:=bP [cZk m]) cG8 ?_)
      refine wo Y (bDm [_] dFs Y Y V B1 J (@length_append _ us [cZk m]).symm Bo Bq (List.map_append (f:=λx=>AC.val (.string x))).symm λv4=>?_)
      refine go 3 ?_
      refine ⟨Y,(b2,_,(.mk 1 (cZk m) x3 .zero [] [] []),m,i3,v4,(us++[cZk m]),vo,al),⟨Y,(.r (.r (.r (.r (.r (.r (.r (.n (.n (.n (.n .nil))))))))))),Gh,hi3,(by show List.length (us++[cZk m])+m <= 1000;(try simp only [length_append,length_cons,length_nil]);omega),(by show List.length (al++[(.mk 1 (cZk m) x3 .zero [] [] [])])+2*m <= 2*L;(try simp only [length_append,length_cons,length_nil]);omega),BTo.step hto [(.mk 1 (cZk m) x3 .zero [] [] [])] (λ_ _ h=>.var hm3 h)⟩,cQf Dr⟩
    refine wcp false Y FS (go 7 ?_)
    by_cases hk8:z2=8
    focus
     refine wcp true Y FT (go 2 ?_)
     refine wyz Y (kV [_] Y Y Y runUnderlying61) ?_
     by_cases hus:0<us.length
     ·refine wcp true Y FT (go 5 ?_)
      refine aEw [_] hus λgu cu hgu=>?_
      subst hgu
      refine dx [b1,W] (tz [(0,true),(1,true),(2,true),(3,true),(4,true),(5,true),(6,true),(10,true),(11,true),(13,true)] 9 (go 11 ?_))
      refine ox 7 Y Y (bD [S] Y Y V call23 Y (eC (_::_::A) _ _ _ l i2 _ hi2 hl J J) Gg FU FR ?_)
      rintro r3 s3 ⟨z3,i3,rfl,hy3,hi3,rfl⟩
      refine tx 8 Y (dH z3 Y Y Y Y J runUnderlying61 sizeOf9) ?_
      refine t2 9 12 Y ?_ ?_
      focus
       refine way Y V (dT (g:=gu) (k:=us.length) (cap:=cu) (E0:=9) (zz:=1) (cs:=bP us) isAgg9 sizeOf9 (rB us z3 J)) ?_
       refine ox 12 Y Y (bD [S] Y Y V call43 Y (pQ (_::_::A) _ [_] _ _ S W l i3 us G (Sq bT ms) _ _ ar hi3 hl J) Gg FU FR ?_)
       rintro r4 s4 ⟨x4,i4,rfl,hm4,hi4,rfl⟩
       unfold cU
       refine tz [(14,false),(15,true),(16,false),(17,true),(18,false)] 0 (go 6 ?_)
      rotate_left
      focus
       refine (bD [S] Y Y V call43 Y (pQ (_::_::A) _ [_] _ _ S W l i3 us G (Sq bT ms) _ _ ar hi3 hl J) Gg FU FR ?_)
       rintro r4 s4 ⟨x4,i4,rfl,hm4,hi4,rfl⟩
       unfold cU
       refine t2 9 14 Y ?_ ?_
       focus
        refine way Y V (dT (g:=gu) (k:=us.length) (cap:=cu) (E0:=9) (zz:=1) (cs:=bP us) isAgg9 sizeOf9 (rB us z3 J)) ?_
        refine tz [(14,false),(15,true),(16,false),(17,true),(18,false)] 0 (go 6 ?_)
       rotate_left
       refine go 1 ?_
       refine ox 9 Y Y (way Y V (dT (g:=gu) (k:=us.length) (cap:=cu) (E0:=9) (zz:=1) (cs:=bP us) isAgg9 sizeOf9 (rB us z3 J)) ?_)
       refine tz [(15,true),(16,false),(17,true),(18,false)] 0 (go 5 ?_)
      all_goals
       refine ax (go 1 ?_)
       refine ⟨Y,(b2,_,(.mk 2 us[z3] x4 .zero [] [] []),m,i4,(.slice (some ⟨gu,0,none⟩) us.length cu),us,vo,al),⟨Y,(.r (.r (.r (.r (.r (.r (.r (.n (.n (.n (.n .nil))))))))))),Gh,hi4,FI,(by show List.length (al++[(.mk 2 us[z3] x4 .zero [] [] [])])+2*m <= 2*L;(try simp only [length_append,length_cons,length_nil]);omega),BTo.step hto [(.mk 2 us[z3] x4 .zero [] [] [])] (λ_ _ h=>.assign (getElem_mem J) hm4 h)⟩,cQf Dr⟩
     refine wcp false Y FS (go 8 ?_)
     refine wcp false Y FS (go 2 ?_)
     refine wcp false Y FS (go 8 ?_)
     refine wcp false Y FS (go 11 ?_)
     refine wcp false Y FS (go 11 ?_)
     refine wcp false Y FS (go 17 ?_)
     refine wo Y (bD [S] Y Y V call42 Y (rG (_::_::A) _ [_] _ _ S W l i2 ms ps us fn G _ FB _ ar hi2 hl hm1 hm2 hmz hp2 J) (bDj) (bDj (h:=by simp [Sto.bl])) (λ_=>bDj) ?_)
    rotate_left
    focus
     refine wcp false Y FS (go 12 ?_)
     by_cases hk9:z2=9
     ·refine wcp true Y FT (go 18 ?_)
      refine wcp false Y (eE J) (go 6 ?_)
      refine dx [b2,b1,W] (tz [(0,true),(1,true),(2,true),(3,true),(4,true),(5,true),(6,true),(7,true),(8,true),(9,true),(10,true),(11,true),(12,true),(13,true),(14,true)] 5 (go 16 ?_))
      refine t2 15 18 Y ?_ ?_
      focus
       refine (bD [S] Y Y V call23 Y (eC (_::_::A) _ _ _ l i2 _ hi2 hl J J) Gg FU FR ?_)
       rintro r3 s3 ⟨z3,i3,rfl,hy3,hi3,rfl⟩
       refine tx 16 Y (dH z3 Y Y Y Y J runUnderlying25 sizeOf67) ?_
       refine t2 17 18 Y ?_ ?_
       focus
        refine way Y V (dT (g:=gF) (k:=fs.length) (cap:=capF) (E0:=67) (zz:=3) (cs:=fs.flatMap cQ) (hrow:=by simp [hF]) isAgg67 sizeOf67 (nG fs z3 J)) ?_
        refine tz [(18,false),(19,false)] 0 (go 3 λb6=>?_)
       rotate_left
       refine (jK Y Y V zeroValue67 Y λb6=>?_)
       refine ox 17 Y Y (way Y V (dT (g:=gF) (k:=fs.length) (cap:=capF) (E0:=67) (zz:=3) (cs:=fs.flatMap cQ) (hrow:=by simp [hF]) isAgg67 sizeOf67 (nG fs z3 J)) ?_)
       refine tz [(19,false)] 0 (go 2 ?_)
      rotate_left 2
      refine (jK Y Y V zeroValue67 Y λb6=>?_)
      refine ox 15 Y Y (bD [S] Y Y V call23 Y (eC (_::_::_::A) _ _ _ l i2 _ hi2 hl J J) Gg FU FR ?_)
      rintro r3 s3 ⟨z3,i3,rfl,hy3,hi3,rfl⟩
      refine tx 16 Y (dH z3 Y Y Y Y J runUnderlying25 sizeOf67) ?_
      refine ox 17 Y Y (way Y V (dT (g:=gF) (k:=fs.length) (cap:=capF) (E0:=67) (zz:=3) (cs:=fs.flatMap cQ) (hrow:=by simp [hF]) isAgg67 sizeOf67 (nG fs z3 J)) ?_)
      refine tz [(19,false)] 0 (go 2 ?_)
      all_goals
       refine ax (go 1 ?_)
       refine dx [b6,b1,W] (tz [(0,true),(1,true),(2,true),(3,true),(4,true),(5,true),(7,true)] 4 (go 8 ?_))
       refine ox 6 Y Y (bD [S] Y Y V call44 Y (sS (_::_::_::A) _ [_] _ _ S W l i3 ms ps us fn G _ FB _ ar fs[z3].1 fs[z3].2.1 fs[z3].2.2 hi3 hl hm1 hm2 hmz hp2 J (hfp _ (getElem_mem J))) Gg FU FR ?_)
       rintro r4 s4 ⟨a4,i4,rfl,hm4,hi4,rfl⟩
       refine tz [(8,false),(9,true),(10,false)] 0 (go 4 ?_)
       refine ax (go 1 ?_)
       refine ⟨Y,(b2,_,(.mk 3 fs[z3].1 .zero .zero a4 [] []),m,i4,u,us,vo,al),⟨Y,(.r (.r (.r (.r (.r (.n (.r (.n (.r (.n (.n .nil))))))))))),Gh,hi4,FI,(by show List.length (al++[(.mk 3 fs[z3].1 .zero .zero a4 [] [])])+2*m <= 2*L;(try simp only [length_append,length_cons,length_nil]);omega),BTo.step hto [(.mk 3 fs[z3].1 .zero .zero a4 [] [])] (λ_ _ h=>.call (g:=(fs[z3].1,fs[z3].2.1)) (.inl Y) (List.mem_map.2 ⟨_,getElem_mem J,Y⟩) hm4 h)⟩,cQf (h1:=(.cons _ (.refl _))) Dr⟩
     refine wcp false Y FS (go 2 ?_)
     by_cases hk10:z2=10
     ·refine wcp true Y FT (go 15 ?_)
      refine wcp true Y (eU J) (go 9 ?_)
      refine dx [b2,b1,W] (tz [(0,true),(1,true),(2,true),(3,true),(4,true),(5,true),(6,true),(7,true),(8,true),(9,true),(10,true),(11,true),(12,true),(13,true),(14,true)] 5 (go 16 ?_))
      refine t2 15 18 Y ?_ ?_
      focus
       refine (bD [S] Y Y V call23 Y (eC (_::_::A) _ _ _ l i2 _ hi2 hl J J) Gg FU FR ?_)
       rintro r3 s3 ⟨z3,i3,rfl,hy3,hi3,rfl⟩
       refine tx 16 Y (dH z3 Y Y Y Y J runUnderlying25 sizeOf67) ?_
       refine t2 17 18 Y ?_ ?_
       focus
        refine way Y V (dT (g:=gF) (k:=fs.length) (cap:=capF) (E0:=67) (zz:=3) (cs:=fs.flatMap cQ) (hrow:=by simp [hF]) isAgg67 sizeOf67 (nG fs z3 J)) ?_
        refine tz [(18,false),(19,false)] 0 (go 3 λb9=>?_)
       rotate_left
       refine (jK Y Y V zeroValue67 Y λb9=>?_)
       refine ox 17 Y Y (way Y V (dT (g:=gF) (k:=fs.length) (cap:=capF) (E0:=67) (zz:=3) (cs:=fs.flatMap cQ) (hrow:=by simp [hF]) isAgg67 sizeOf67 (nG fs z3 J)) ?_)
       refine tz [(19,false)] 0 (go 2 ?_)
      rotate_left 2
      refine (jK Y Y V zeroValue67 Y λb9=>?_)
      refine ox 15 Y Y (bD [S] Y Y V call23 Y (eC (_::_::_::A) _ _ _ l i2 _ hi2 hl J J) Gg FU FR ?_)
      rintro r3 s3 ⟨z3,i3,rfl,hy3,hi3,rfl⟩
      refine tx 16 Y (dH z3 Y Y Y Y J runUnderlying25 sizeOf67) ?_
      refine ox 17 Y Y (way Y V (dT (g:=gF) (k:=fs.length) (cap:=capF) (E0:=67) (zz:=3) (cs:=fs.flatMap cQ) (hrow:=by simp [hF]) isAgg67 sizeOf67 (nG fs z3 J)) ?_)
      refine tz [(19,false)] 0 (go 2 ?_)
      all_goals
       refine ax (go 1 ?_)
       refine dx [b9,b1,W] (tz [(0,true),(1,true),(2,true),(3,true),(4,true),(5,true),(7,true)] 4 (go 8 ?_))
       refine ox 6 Y Y (bD [S] Y Y V call44 Y (sS (_::_::_::A) _ [_] _ _ S W l i3 ms ps us fn G _ FB _ ar fs[z3].1 fs[z3].2.1 fs[z3].2.2 hi3 hl hm1 hm2 hmz hp2 J (hfp _ (getElem_mem J))) Gg FU FR ?_)
       rintro r4 s4 ⟨a4,i4,rfl,hm4,hi4,rfl⟩
       refine tz [(8,false),(9,true),(10,false)] 0 (go 4 ?_)
       refine ax (go 1 ?_)
       refine ⟨Y,(b2,_,(.mk 4 fs[z3].1 .zero .zero a4 [] []),m,i4,u,us,vo,al),⟨Y,(.r (.r (.r (.r (.r (.n (.r (.n (.r (.n (.n .nil))))))))))),Gh,hi4,FI,(by show List.length (al++[(.mk 4 fs[z3].1 .zero .zero a4 [] [])])+2*m <= 2*L;(try simp only [length_append,length_cons,length_nil]);omega),BTo.step hto [(.mk 4 fs[z3].1 .zero .zero a4 [] [])] (λ_ _ h=>.call (g:=(fs[z3].1,fs[z3].2.1)) (.inr Y) (List.mem_map.2 ⟨_,getElem_mem J,Y⟩) hm4 h)⟩,cQf (h1:=(.cons _ (.refl _))) Dr⟩
     refine wcp false Y FS (go 8 ?_)
     by_cases hk11:z2=11
     focus
      refine wcp true Y FT (go 2 ?_)
      by_cases hd0:0<deep
      ·refine wcp true Y FT (go 6 ?_)
       refine dx [b1] (tz [(0,true),(1,true),(3,true),(4,true),(5,true),(6,true)] 9 (go 7 ?_))
       refine tx 7 Y (cI ((deep-1:Nat):Int)) (tz [(9,true)] 7 (go 2 ?_))
       refine ox 2 Y Y (bD [S] Y Y V call43 Y (pQ (_::_::A) _ [_] _ _ S W l i2 us G (Sq bT ms) _ _ ar hi2 hl J) Gg FU FR ?_)
       rintro r3 s3 ⟨x3,i3,rfl,hm3,hi3,rfl⟩
       unfold cU
       refine ox 8 Y Y (bD [S,W] Y Y V call24 Y (ih m J (_::_::A) [_] _ _ us i3 (deep-1) 3 hi3 J J J (by simp [hF])) Ba FQ FL ?_)
       rintro r4 s4 ⟨b4l,i4,l4,rfl,hm4,hi4,rfl⟩
       have hle4:=hm4.le
       have hln4:=hm4.len2
       refine tz [(10,false),(11,true),(12,false),(13,true),(14,false)] 0 (go 6 ?_)
       refine ax (go 7 ?_)
       refine wo Y (bD [S] Y Y V call23 Y (eC (_::_::A) _ _ _ l i4 _ hi4 hl V V) (bDj) (bDj (h:=by simp [Sto.bl])) (λ_=>bDj) ?_)
       rintro r5 s5 ⟨z5,i5,rfl,hy5,hi5,rfl⟩
       by_cases hel:z5=1
       ·refine wcp true Y FT (go 8 ?_)
        refine wyz Y (cI ((deep-1:Nat):Int)) ?_
        refine wo Y (bD [S,W] Y Y V call24 Y (ih l4 J (_::_::A) [_] _ _ us i5 (deep-1) 3 hi5 J J J (by simp [hF])) Ba FQ AX ?_)
        rintro r6 s6 ⟨b6l,i6,l6,rfl,hm6,hi6,rfl⟩
        have hle6:=hm6.le
        have hln6:=hm6.len2
        refine go 4 ?_
        refine ⟨Y,(b2,_,(.mk 7 aK x3 .zero [] b4l b6l),l6,i6,u,us,vo,al),⟨Y,(.r (.r (.r (.r (.r (.r (.r (.n (.n (.r (.r .nil))))))))))),(by show l6 <= L;omega),hi6,(by show List.length us+l6 <= 1000;(try simp only [length_append,length_cons,length_nil]);omega),(by show List.length (al++[(.mk 7 aK x3 .zero [] b4l b6l)])+2*l6 <= 2*L;(try simp only [length_append,length_cons,length_nil]);omega),BTo.step hto [(.mk 7 aK x3 .zero [] b4l b6l)] (λ_ _ h=>by obtain ⟨d,rfl⟩:∃d,deep=d+1:=⟨deep-1,J⟩;exact .cond hm3 hm4 hm6 h)⟩,cQf Dr⟩
       refine wcp false Y FS (go 5 ?_)
       refine ⟨Y,(b2,_,(.mk 7 aK x3 .zero [] b4l []),l4,i5,u,us,vo,al),⟨Y,(.r (.r (.r (.r (.r (.r (.r (.n (.n (.r (.n .nil))))))))))),(by show l4 <= L;omega),hi5,FZ,(by show List.length (al++[(.mk 7 aK x3 .zero [] b4l [])])+2*l4 <= 2*L;(try simp only [length_append,length_cons,length_nil]);omega),BTo.step hto [(.mk 7 aK x3 .zero [] b4l [])] (λ_ _ h=>by obtain ⟨d,rfl⟩:∃d,deep=d+1:=⟨deep-1,J⟩;exact .cond hm3 hm4 .nil h)⟩,cQf Dr⟩
      refine wcp false Y FS (go 8 ?_)
      refine wcp false Y FS (go 11 ?_)
      refine wcp false Y FS (go 17 ?_)
      refine wo Y (bD [S] Y Y V call42 Y (rG (_::_::A) _ [_] _ _ S W l i2 ms ps us fn G _ FB _ ar hi2 hl hm1 hm2 hmz hp2 J) (bDj) (bDj (h:=by simp [Sto.bl])) (λ_=>bDj) ?_)
     rotate_left
     focus
      refine wcp false Y FS (go 11 ?_)
      by_cases hk12:z2=12
      focus
       refine wcp true Y FT (go 2 ?_)
       by_cases hd1:0<deep
       ·refine wcp true Y FT (go 5 ?_)
        refine dx [b1] (tz [(0,true),(1,true),(3,true),(4,true),(5,true),(6,true)] 9 (go 7 ?_))
        refine tx 7 Y (cI ((deep-1:Nat):Int)) (tz [(9,true)] 7 (go 2 ?_))
        refine ox 2 Y Y (bD [S] Y Y V call43 Y (pQ (_::_::A) _ [_] _ _ S W l i2 us G (Sq bT ms) _ _ ar hi2 hl J) Gg FU FR ?_)
        rintro r3 s3 ⟨x3,i3,rfl,hm3,hi3,rfl⟩
        unfold cU
        refine ox 8 Y Y (bD [S,W] Y Y V call24 Y (ih m J (_::_::A) [_] _ _ us i3 (deep-1) 3 hi3 J J J (by simp [hF])) Ba FQ FL ?_)
        rintro r4 s4 ⟨b4l,i4,l4,rfl,hm4,hi4,rfl⟩
        have hle4:=hm4.le
        have hln4:=hm4.len2
        refine tz [(10,false),(11,true),(12,false),(13,true),(14,false)] 0 (go 6 ?_)
        refine ax (go 1 ?_)
        refine ⟨Y,(b2,_,(.mk 8 aK x3 .zero [] b4l []),l4,i4,u,us,vo,al),⟨Y,(.r (.r (.r (.r (.r (.r (.r (.n (.n (.r (.n .nil))))))))))),(by show l4 <= L;omega),hi4,FZ,(by show List.length (al++[(.mk 8 aK x3 .zero [] b4l [])])+2*l4 <= 2*L;(try simp only [length_append,length_cons,length_nil]);omega),BTo.step hto [(.mk 8 aK x3 .zero [] b4l [])] (λ_ _ h=>by obtain ⟨d,rfl⟩:∃d,deep=d+1:=⟨deep-1,J⟩;exact .loop hm3 hm4 h)⟩,cQf Dr⟩
       refine wcp false Y FS (go 8 ?_)
       refine wcp false Y FS (go 17 ?_)
       refine wo Y (bD [S] Y Y V call42 Y (rG (_::_::A) _ [_] _ _ S W l i2 ms ps us fn G _ FB _ ar hi2 hl hm1 hm2 hmz hp2 J) (bDj) (bDj (h:=by simp [Sto.bl])) (λ_=>bDj) ?_)
      rotate_left
      focus
       refine wcp false Y FS (go 11 ?_)
       by_cases hk13:z2=13
       focus
        refine wcp true Y FT (go 5 ?_)
        refine wo Y (bD [S] Y Y V call23 Y (eC (_::_::A) _ _ _ l i2 _ hi2 hl V V) (bDj) (bDj (h:=by simp [Sto.bl])) (λ_=>bDj) ?_)
        rintro r7 s29 ⟨z3,i7,rfl,hy3,hi7,rfl⟩
        by_cases hrt:z3=1
        ·refine wcp true Y FT (go 10 ?_)
         refine ⟨Y,(b2,_,(.mk 9 aK .zero .zero [] [] []),m,i7,u,us,vo,al),⟨Y,(.r (.r (.r (.r (.r (.n (.r (.n (.n (.n (.n .nil))))))))))),Gh,hi7,FI,(by show List.length (al++[(.mk 9 aK .zero .zero [] [] [])])+2*m <= 2*L;(try simp only [length_append,length_cons,length_nil]);omega),BTo.step hto [(.mk 9 aK .zero .zero [] [] [])] (λ_ _ h=>.ret h)⟩,cQf Dr⟩
        refine wcp false Y FS (go 10 ?_)
        refine wo Y (bD [S] Y Y V call42 Y (rG (_::_::A) _ [_] _ _ S W l i7 ms ps us fn G _ FB _ ar hi7 hl hm1 hm2 hmz hp2 J) (bDj) (bDj (h:=by simp [Sto.bl])) (λ_=>bDj) ?_)
       rotate_left
       refine wcp false Y FS (go 17 ?_)
       refine wo Y (bD [S] Y Y V call42 Y (rG (_::_::A) _ [_] _ _ S W l i2 ms ps us fn G _ FB _ ar hi2 hl hm1 hm2 hmz hp2 J) (bDj) (bDj (h:=by simp [Sto.bl])) (λ_=>bDj) ?_)
    all_goals
     rintro r3 s3 ⟨f3,i3,rfl,hm3,hi3,rfl⟩
     unfold encR
     refine go 17 λb13=>?_
     refine eA 60 Y (Wk.agg (.r (.r (.r (.r (.r (.n (.r (.r (.n (.n (.n .nil)))))))))))) ?_
     refine wo Y (bDk (hf:=aV encS dG (.mk 5 aK .zero f3 [] [] []) (cJ _) Y Y) zb0 ?_)
     refine wo Y (jU [] Tryz.t120 192 Y Y V Y Y underlying65 B6 Y Y Y Y V Y FK Ga (@length_append _ al [(.mk 5 aK .zero f3 [] [] [])]).symm Bo Bq (List.flatMap_append (f:=encS)).symm λv4=>?_)
     refine go 9 ?_
     refine wo Y (bD [S,W] Y Y V call24 Y (ih m J (_::_::_::A) [_] _ _ us i3 0 2 hi3 J J J (by simp [hF])) Ba FQ AX ?_)
     rintro r5 s5 ⟨b5l,i5,l5,rfl,hm5,hi5,rfl⟩
     have hle5:=hm5.le
     have hln5:=hm5.len2
     refine wo Y (jU [] Tryz.t120 192 Y Y V Y Y underlying65 B6 Y Y Y Y V (oY _) FK Ga (@length_append _ (al++[(.mk 5 aK .zero f3 [] [] [])]) b5l).symm Bo Bq (List.flatMap_append (f:=encS)).symm λv6=>?_)
     refine go 8 ?_
     refine ⟨Y,(b2,_,(.mk 6 aK .zero f3 [] [] []),l5,i5,u,us,v6,(al++[(.mk 5 aK .zero f3 [] [] [])]++b5l)),⟨Y,(.r (.r (.r (.r (.r (.n (.r (.r (.n (.n (.n .nil))))))))))),(by show l5 <= L;omega),hi5,(by show List.length us+l5 <= 1000;(try simp only [length_append,length_cons,length_nil]);omega),(by show List.length ((al++[(.mk 5 aK .zero f3 [] [] [])]++b5l)++[(.mk 6 aK .zero f3 [] [] [])])+2*l5 <= 2*L;(try simp only [length_append,length_cons,length_nil]);omega),(by have h:=BTo.step hto ((.mk 5 aK .zero f3 [] [] [])::(b5l++[(.mk 6 aK .zero f3 [] [] [])])) (λ_ _ h=>by rw [List.cons_append,append_assoc];exact .pair hm3 hm5 h);simpa using h)⟩,cQf (h1:=(.cons _ (.refl _))) Dr⟩
   rintro ⟨tb,cs,sm,m2,i9,u2,us2,vo2,al2⟩ ⟨hcl,hwk,hm2l,hi9,hul2,hal2,hto2⟩
   dsimp only at hcl hwk hm2l hi9 hul2 hal2 hto2
   have hal3:al2.length+1+2*m2 <= 2*L:=by simp only [length_append,length_cons,length_nil] at hal2;omega
   show AWp prog _ (⟨249,tb::(aY vo2++(aY u2++[b1,S,W])),⟨⟨tb,120,cs⟩::⟨b1,67,[Vs fn,Sq cP ps,FB]⟩::(A++⟨S,54,[.sl l.length (l.map λi=>Vi i),nC i9]⟩::⟨W,56,[.val (.pointer (some ⟨S,0,none⟩)),G,(Sq bT ms),(.val (.slice (some ⟨gF,0,none⟩) fs.length capF)),nC m2,Vb ar]⟩::B),⟨vo2,120,11,al2.length,al2.flatMap encS⟩::⟨u2,9,1,us2.length,bP us2⟩::RA++⟨vv,9,1,vars.length,bP vars⟩::rw⟩,[(13,pP tb),(12,nI (n+1)),(11,Cv vo2),(2,Cv u2),(0,pP W),(3,nI deep),(6,pP b1)]⟩:AS) _
   refine go 2 ?_
   refine wyz Y (id (aX (hp:=bK hcl Y) [] isAgg120 sizeOf120)) ?_
   refine eA 245 Y (Wk.agg hwk) ?_
   refine wo Y (bDk (hf:=aV encS dG sm (cJ _) Y Y) zb0 ?_)
   refine wo Y (jU [] Tryz.t120 192 Y Y V Y Y underlying65 B6 Y Y Y Y V (oY [sm]) FK Ga (@length_append _ al2 [sm]).symm Bo Bq (List.flatMap_append (f:=encS)).symm λv3=>?_)
   refine go 6 ?_
   refine wyz Y (cI ((n:Nat):Int)) (go 2 ?_)
   refine ⟨(n,m2,i9,u2,us2,v3,(al2++[sm])),⟨by show n <= most;omega,by show m2 <= L;omega,hi9,by show List.length us2+m2 <= 1000;omega,hal2,hto2⟩,Nat.lt_succ_self n,cQf (h1:=(.cons _ (.refl _))) Dr⟩
  refine wcp false Y FS (go 11 ?_)
 rotate_left
 refine wcp false Y FS (go 17 ?_)
 all_goals
  refine aE1 11 Y ?_
  refine go 5 ?_
  exact ⟨.inr Y,_,SSt A (⟨W,56,[.val (.pointer (some ⟨S,0,none⟩)),G,(Sq bT ms),(.val (.slice (some ⟨gF,0,none⟩) fs.length capF)),nC lf,Vb ar]⟩::B) (gP RA vv vars rw) S l ik,aR Y (aF Y),aA (.cons _ (.refl _)) (.cons _ (.refl _)),⟨al,ik,lf,Y,hto.fin,hik,Y⟩⟩
theorem aLa(B:List Box)(S W:Nat)(l:List Int)(ms:List cL)(ps:List aS)(fn:ByteArray)(G FB:AC)(ar:Bool)(fs:List (ByteArray×List aS×AC))(gF capF:Nat)(hl:l.length <= 1000000)(hm1:1 <= ms.length)(hm2:ms.length <= 1000)(hmz:∀m,m∈ms -> m.size <= 1000)(hp2:ps.length <= 1000)(hf1:1 <= fs.length)(hf2:fs.length <= 1000)(hfp:∀f,f∈fs -> f.2.1.length <= 1000):∀(L:Nat) (A:List Box) (RA rw:List bA) (vv:Value) (vars:List ByteArray) (i0 deep most:Nat) (hi0:i0 <= l.length) (hd:deep <= 100) (hmost:most <= 1000) (hvl:vars.length+L <= 1000) (hF:(⟨.slice (some ⟨gF,0,none⟩) fs.length capF,67,3,fs.length,fs.flatMap cQ⟩:bA)∈rw),aL prog 24 [pP W,.agg [Vs fn,Sq cP ps,FB],Cv vv,nI deep,nI most] [S,W] (SSt A (⟨W,56,[.val (.pointer (some ⟨S,0,none⟩)),G,(Sq bT ms),(.val (.slice (some ⟨gF,0,none⟩) fs.length capF)),nC L,Vb ar]⟩::B) (gP RA vv vars rw) S l i0) (λr s=>∃(al:List aJ) (i left':Nat),r=.c (Sq encS al) /\ dJ ms (fs.map λf=>(f.1,f.2.1)) ps vars deep L al left' /\ i <= l.length /\ s=SSt A (⟨W,56,[.val (.pointer (some ⟨S,0,none⟩)),G,(Sq bT ms),(.val (.slice (some ⟨gF,0,none⟩) fs.length capF)),Vi ((left':Nat):Int),Vb ar]⟩::B) (gP RA vv vars rw) S l i):=by
 intro L
 induction L using Nat.strongRecOn with
 |ind L ih=>exact λA RA rw vv vars i0 deep most hi0 hd hmost hvl hF=>aKm B S W l ms ps fn G FB ar fs gF capF hl hm1 hm2 hmz hp2 hf1 hf2 hfp L ih A RA rw vv vars i0 deep most hi0 hd hmost hvl hF
theorem vJ(B:List Box)(S W:Nat)(l:List Int)(ms:List cL)(ps:List aS)(fn:ByteArray)(G FB:AC)(ar:Bool)(fs:List (ByteArray×List aS×AC))(gF capF:Nat)(hl:l.length <= 1000000)(hm1:1 <= ms.length)(hm2:ms.length <= 1000)(hmz:∀m,m∈ms -> m.size <= 1000)(hp2:ps.length <= 1000)(hf1:1 <= fs.length)(hf2:fs.length <= 1000)(hfp:∀f,f∈fs -> f.2.1.length <= 1000)(k:Nat)(hk:fs.length=k)(L:Nat)(A:List Box)(RA rw:List bA)(vv:Value)(vars:List ByteArray)(i0 deep most:Nat)(hi0:i0 <= l.length)(hd:deep <= 100)(hmost:most <= 1000)(hvl:vars.length+L <= 1000)(hF:(⟨.slice (some ⟨gF,0,none⟩) k capF,67,3,k,fs.flatMap cQ⟩:bA)∈rw):aL prog 24 [pP W,.agg [Vs fn,Sq cP ps,FB],Cv vv,nI deep,nI most] [S,W] (SSt A (⟨W,56,[.val (.pointer (some ⟨S,0,none⟩)),G,(Sq bT ms),(.val (.slice (some ⟨gF,0,none⟩) k capF)),nC L,Vb ar]⟩::B) (gP RA vv vars rw) S l i0) (λr s=>∃(al:List aJ) (i left':Nat),r=.c (Sq encS al) /\ dJ ms (fs.map λf=>(f.1,f.2.1)) ps vars deep L al left' /\ i <= l.length /\ s=SSt A (⟨W,56,[.val (.pointer (some ⟨S,0,none⟩)),G,(Sq bT ms),(.val (.slice (some ⟨gF,0,none⟩) k capF)),Vi ((left':Nat):Int),Vb ar]⟩::B) (gP RA vv vars rw) S l i):=by
 subst hk
 exact aLa B S W l ms ps fn G FB ar fs gF capF hl hm1 hm2 hmz hp2 hf1 hf2 hfp L A RA rw vv vars i0 deep most hi0 hd hmost hvl hF
end
end Go.Proofs.YtjgeihmhppadaaaGreatDoor
