import Derived.Test.YtjgeihmhppadaaaGreatDoorG28J
set_option linter.all false
set_option synthInstance.maxHeartbeats 1000000
set_option synthInstance.maxSize 1000000
set_option maxHeartbeats 8000000
set_option maxRecDepth 100000
namespace Go.Proofs.YtjgeihmhppadaaaGreatDoor
open Go.Proofs.Tryz
open List (length_append length_cons length_nil mem_append mem_cons not_mem_nil append_assoc getElem_mem take_of_length_le)
section
open Go.RowKit
def oE{α:Type}(p:Nat -> α -> Prop)(l:List α):Prop:=∀k (h:k<l.length),p k l[k]
theorem oE.nil{α:Type}(p:Nat -> α -> Prop):oE p []:=λk h=>absurd h (Nat.not_lt_zero _)
theorem oE.snoc{α:Type}{p:Nat -> α -> Prop}{l:List α}{x:α}(h:oE p l)(hx:p l.length x):oE p (l++[x]):=λk hk=>by
 by_cases hl:k<l.length
 ·rw [List.getElem_append_left hl];exact h k hl
 have:k=l.length:=by simp at hk;omega
 subst this
 rw [List.getElem_append_right (Nat.le_refl _)];simpa using hx
def fnm(q:Nat):ByteArray:=if q=0 then bytes [109,97,105,110] else bytes [102,UInt8.ofNat (48+q)]
abbrev e0(s:ByteArray×List aS):ByteArray×List aS×AC:=(s.1,s.2,Nl)
def aRd(i:Nat)(s:ByteArray×List aS):Prop:=s.1=fnm i /\ (i=0 -> s.2=[]) /\ pM s.2
theorem aQ7{P:Program}{c:Code}{n:Nat}{T:List Nat}{ts:List (Nat×AT)}{Q:Exit -> AS -> Prop}{rw:List bA}{b:Nat}{E:TypeId}{cs cs':List AC}{v:Value}{E2:TypeId}{z k:Nat}{ds:List AC}(A:List Box){B:List Box}(i:Nat)(hi:cs[i]?=some (.val v))(hr:cs.set i (.sl k ds)=cs')(h:AWp P c ⟨n,T,⟨A++⟨b,E,cs'⟩::B,rw⟩,ts⟩ Q)(hz:0<z:=by decide):AWp P c ⟨n,T,⟨A++⟨b,E,cs⟩::B,⟨v,E2,z,k,ds⟩::rw⟩,ts⟩ Q:=by
 subst hr
 exact zU (vU (st:=⟨n,T,⟨A++⟨b,E,cs⟩::B,⟨v,E2,z,k,ds⟩::rw⟩,ts⟩) (aBg (r:=⟨v,E2,z,k,ds⟩) A i hi hz)) h
theorem aJp(fs:List (ByteArray×List aS×AC))(j:Nat)(h:j<fs.length):pk false 1 (fs.flatMap cQ) (0+j*3+1)=some (.c (Sq cP fs[j].2.1)):=by
 obtain ⟨h1,h2⟩:=flat_get cQ 3 (λ_=>rfl) fs j h
 unfold pk
 rw [if_neg V,Nat.zero_add]
 have h3:((fs.flatMap cQ).drop (j*3))[1]?=(cQ fs[j])[1]?:=by rw [←h1,List.getElem?_take];rfl
 rw [List.getElem?_drop] at h3
 rw [h3];rfl
theorem aKv(fs:List (ByteArray×List aS×AC))(j:Nat)(h:j<fs.length)(c:AC):splice (fs.flatMap cQ) (0+j*3+2) [c]=(fs.set j (fs[j].1,fs[j].2.1,c)).flatMap cQ /\ 0+j*3+2+1 <= (fs.flatMap cQ).length:=by
 induction fs generalizing j with
 |nil=>simp at h
 |cons f fs ih=>
  cases j with
  |zero=>exact ⟨rfl,by rw [List.flatMap_cons,length_append];show 0+0*3+2+1 <= 3+_;omega⟩
  |succ j=>
   obtain ⟨h1,h2⟩:=ih j Er
   refine ⟨?_,by rw [List.flatMap_cons,length_append];show 0+(j+1)*3+2+1 <= 3+_;omega⟩
   rw [show 0+(j+1)*3+2=3+(0+j*3+2) by omega]
   have e:splice (cQ f++fs.flatMap cQ) (3+(0+j*3+2)) [c]=cQ f++splice (fs.flatMap cQ) (0+j*3+2) [c]:=by
    generalize 0+j*3+2=q
    generalize fs.flatMap cQ=t
    unfold splice cQ
    simp [Nat.add_comm 3 q,List.take_succ_cons]
    try (rw [show q+3+1=(q+1)+3 by omega];rfl)
   rw [List.flatMap_cons,e,h1];rfl
abbrev eB(f:bS):ByteArray×List aS×AC:=(f.name,f.params,Sq encS f.body)
theorem aPl(ds:List bS):(ds.map eB).flatMap cQ=ds.flatMap fV:=by
 induction ds with
 |nil=>rfl
 |cons f ds ih=>rw [List.map_cons,List.flatMap_cons,List.flatMap_cons,ih];rfl
def bXt(sg:List Sig)(ds:List bS):List (ByteArray×List aS×AC):=ds.map eB++(sg.drop ds.length).map e0
theorem gO{sg:List Sig}{ds:List bS}(h:ds.length <= sg.length):(bXt sg ds).length=sg.length:=by
 unfold bXt;rw [length_append,List.length_map,List.length_map,List.length_drop];omega
theorem zF{sg:List Sig}{ds:List bS}(h:ds.length<sg.length)(h2:ds.length<(bXt sg ds).length):(bXt sg ds)[ds.length]=e0 sg[ds.length]:=by
 have e:(bXt sg ds)[ds.length]?=some (e0 sg[ds.length]):=by
  unfold bXt
  rw [List.getElem?_append_right G0];simp [List.getElem?_eq_getElem h]
 rw [List.getElem?_eq_getElem h2] at e
 exact Option.some.inj e
theorem aMm{sg:List Sig}{ds:List bS}(h:ds.length<sg.length)(b:List aJ):(bXt sg ds).set ds.length (sg[ds.length].1,sg[ds.length].2,Sq encS b)=bXt sg (ds++[⟨sg[ds.length].1,sg[ds.length].2,b⟩]):=by
 unfold bXt
 rw [List.set_append_right _ _ G0,List.length_map,Nat.sub_self,List.drop_eq_getElem_cons h,List.map_cons,List.set_cons_zero]
 simp
theorem aMv{sg:List Sig}{ds:List bS}(h:ds.length<sg.length):pk true 3 ((bXt sg ds).flatMap cQ) (0+ds.length*3)=some (.agg [Vs (sg[ds.length].1),.sl sg[ds.length].2.length (sg[ds.length].2.flatMap cP),Nl]):=by
 have h2:ds.length<(bXt sg ds).length:=Gt
 rw [nG (bXt sg ds) ds.length h2,zF h h2]
theorem aGt{sg:List Sig}{ds:List bS}(h:ds.length<sg.length):pk false 1 ((bXt sg ds).flatMap cQ) (0+ds.length*3+1)=some (.c (.sl sg[ds.length].2.length (sg[ds.length].2.flatMap cP))):=by
 have h2:ds.length<(bXt sg ds).length:=Gt
 rw [aJp (bXt sg ds) ds.length h2,zF h h2]
theorem rI{sg:List Sig}{ds:List bS}(h:ds.length<sg.length)(b:List aJ):splice ((bXt sg ds).flatMap cQ) (0+ds.length*3+2) [Sq encS b]=(bXt sg (ds++[⟨sg[ds.length].1,sg[ds.length].2,b⟩])).flatMap cQ /\ 0+ds.length*3+2+1 <= ((bXt sg ds).flatMap cQ).length:=by
 have h2:ds.length<(bXt sg ds).length:=Gt
 obtain ⟨e1,e2⟩:=aKv (bXt sg ds) ds.length h2 (.sl b.length (b.flatMap encS))
 refine ⟨?_,e2⟩
 rw [e1,zF h h2,←aMm h b]
theorem aAq(sg:List Sig)(ds:List bS)(h:ds.map bS.sig=sg.take ds.length):((bXt sg ds).map λf=>(f.1,f.2.1))=sg:=by
 have e1:((ds.map eB).map λf=>(f.1,f.2.1))=ds.map bS.sig:=Gy
 have e2:(((sg.drop ds.length).map e0).map λf=>(f.1,f.2.1))=sg.drop ds.length:=by rw [List.map_map];exact List.map_id _
 unfold bXt
 rw [List.map_append,e1,e2,h,List.take_append_drop]
def aA4(gs:List aI)(ps:List aS):List ByteArray:=gs.map aI.name++(ps.filter λx=>!x.mutex).map aS.name
theorem aBt(gs:List aI)(ps:List aS)(j:Nat)(h:j<ps.length):aA4 gs (ps.take (j+1))=aA4 gs (ps.take j)++(if ps[j].mutex=true then [] else [ps[j].name]):=by
 unfold aA4
 rw [List.take_succ_eq_append_getElem h,List.filter_append,List.map_append,append_assoc]
 cases hm:ps[j].mutex<;>simp [hm]
theorem aP2{ms:List cL}(h:oE aDx ms):∀m,m∈ms -> m.size <= 1000:=λm hm=>by
 obtain ⟨k,hk,rfl⟩:=List.getElem_of_mem hm
 rcases (h k hk).2 with h1|h1<;>omega
theorem aQm{sg:List Sig}{ds:List bS}(h:oE aRd sg)(hd:ds.map bS.sig=sg.take ds.length):∀f,f∈bXt sg ds -> f.2.1.length <= 1000:=λf hf=>by
 have h1:(f.1,f.2.1)∈sg:=by rw [←aAq sg ds hd];exact List.mem_map.2 ⟨f,hf,rfl⟩
 obtain ⟨k,hk,e⟩:=List.getElem_of_mem h1
 have h2:=(h k hk).2.2.1
 rw [e] at h2
 exact Nat.le_trans h2 V
def aPv(ms:List cL)(sg:List Sig)(gs:List aI)(lf:Nat)(ds:List bS):Prop:=∀rest,kZ ms sg gs lf rest -> kZ ms sg gs 24 (ds++rest)
theorem qD{P:Program}{U:List Nat}{o:Oper}{st:AS}(off q:Nat){t ft:TypeId}{x:Operand}{fs:Array Field}{f z b p:Nat}(ho:o.op=.fieldAddr t x f)(hx:evA st x=some (Cv (.pointer (some ⟨b,p,none⟩))))(hu:∀w,(underlying t).run P w=.ok (.struct fs) w)(hf:fld fs f=some (off,ft))(hS:∀w,(sizeOf ft).run P w=.ok z w)(hz:z≠0)(hq:p+off=q):AY P U o st (Cv (.pointer (some ⟨b,q,none⟩))):=uX (ho:=ho) (hx:=hx) (hf:=hf) (hz:=hz) (hq:=hq) off q hu hS
theorem aL3{sg:List Sig}{ds:List bS}(h:ds.length=sg.length):(bXt sg ds).flatMap cQ=ds.flatMap fV:=by
 unfold bXt
 rw [h,List.drop_of_length_le (Nat.le_refl _),List.map_nil,List.append_nil,aPl]
theorem aNr{ms:List cL}{gs:List aI}{sg:List Sig}{ds:List bS}(hmN:1 <= ms.length /\ ms.length <= 4)(hms:oE aDx ms)(hgN:gs.length <= 2)(hgs:oE aDa gs)(hs1:1 <= sg.length /\ sg.length <= 4)(hsg:oE aRd sg)(hd:ds.length=sg.length)(hdm:ds.map bS.sig=sg.take ds.length)(hbt:∃lf,aPv ms sg gs lf ds):sY ⟨gs,ms,ds⟩:=by
 have hds:ds.map bS.sig=sg:=by rw [hdm,hd,List.take_length]
 obtain ⟨lf,hbt⟩:=hbt
 refine ⟨⟨hmN.1,hmN.2,hms⟩,⟨hgN,hgs⟩,⟨by show 1 <= ds.length;omega,by show ds.length <= 4;omega,λk hk=>?_⟩,?_⟩
 ·have hk2:k<sg.length:=by rw [←hd];exact hk
  have e:sg[k]=ds[k].sig:=by simp only [←hds];simp
  obtain ⟨h1,h2,h3⟩:=hsg k hk2
  rw [e] at h1 h2 h3
  refine ⟨λh0=>⟨by rw [show ds[k].name=_ from h1,fnm,if_pos h0],h2 h0⟩,λh0=>by rw [show ds[k].name=_ from h1,fnm,if_neg J],h3⟩
 have:=hbt [] .nil
 rw [List.append_nil] at this
 show kZ ms (ds.map bS.sig) gs 24 ds
 rw [hds];exact this
theorem aPr(q:Nat):bC .eql ((q:Nat):Int) 0=some (decide (q=0)):=by
 cases q with
 |zero=>rfl
 |succ n=>show some (((n+1:Nat):Int) == 0)=_;rw [show (((n+1:Nat):Int) == 0)=false from beq_eq_false_iff_ne.2 J];rfl
theorem aHs(l0:List Int)(hl0:l0.length <= 9223372036854775807)(s:Sto):aL prog 8 [.c (.sl l0.length (l0.map λi=>Vi i))] [] s (λr s'=>∃p,r=.agg (jV p) /\ sY p /\ s'=s):=by
 obtain ⟨bx,rw⟩:=s
 refine acX 264 func8 ?_
 refine go 8 λb1=>?_
 refine wo Y (bD [] Y Y V call22 Y (aTv l0 400 _) bDl bDl (λ_=>bDl) ?_)
 rintro rc sc ⟨rfl,rfl⟩
 obtain ⟨l,hlc⟩:∃x,x=l0.take 400:=⟨_,rfl⟩
 rw [←hlc]
 have hl:l.length <= 1000000:=by rw [hlc,List.length_take];omega
 clear hlc
 have hi0:0 <= l.length:=Nat.zero_le _
 refine go 9 λS W=>?_
 refine aSh ?_
 refine go 5 ?_
 refine wo Y (bD [S] Y Y V call23 Y (eC [] _ _ _ l 0 _ hi0 hl V V) (bDj) (bDj (h:=by simp [Sto.bl])) (λ_=>bDj) ?_)
 rintro r1 s1 ⟨z1,i1,rfl,hy1,hi1,rfl⟩
 obtain ⟨ar,har⟩:∃b,bC .eql ((z1:Nat):Int) 1=some b:=⟨_,rfl⟩
 refine wyz Y (bO ar Y Y Y har) (go 12 ?_)
 refine wo Y (bD [S] Y Y V call23 Y (eC [] _ _ _ l i1 _ hi1 hl V V) (bDj) (bDj (h:=by simp [Sto.bl])) (λ_=>bDj) ?_)
 rintro r2 s2 ⟨z2,i2,rfl,hy2,hi2,rfl⟩
 refine wyz Y (dU (m:=1)) (go 5 ?_)
 refine qR 60 3 ?_
 refine fM (λg:Nat×Value×List cL×Nat=>(⟨264,aY g.2.1++[W,S,b1],⟨⟨S,54,[.sl l.length (l.map λi=>Vi i),nC g.2.2.2]⟩::⟨W,56,[.val (.pointer (some ⟨S,0,none⟩)),Nl,.val g.2.1,Nl,Vi 24,Vb ar]⟩::⟨b1,27,[Nl,Nl,Nl]⟩::bx,⟨g.2.1,60,3,g.2.2.1.length,g.2.2.1.flatMap bT⟩::rw⟩,[(4,nI g.1),(5,nI (1+z2)),(3,pP W),(2,pP b1)]⟩:AS)) (λg=>g.1 <= (1+z2) /\ g.2.2.1.length=g.1 /\ oE aDx g.2.2.1 /\ g.2.2.2 <= l.length) (λg=>(1+z2)-g.1) (0,.slice none 0 0,[],i2) (cQf Cc) ⟨Nat.zero_le _,Y,.nil _,hi2⟩ ?_
 rintro ⟨k,vM,ms,ik⟩ ⟨hk,hmk,hms,hik⟩
 dsimp only at hk hmk hms hik
 show AWp prog _ (⟨264,aY vM++[W,S,b1],⟨⟨S,54,[.sl l.length (l.map λi=>Vi i),nC ik]⟩::⟨W,56,[.val (.pointer (some ⟨S,0,none⟩)),Nl,.val vM,Nl,Vi 24,Vb ar]⟩::⟨b1,27,[Nl,Nl,Nl]⟩::bx,⟨vM,60,3,ms.length,ms.flatMap bT⟩::rw⟩,[(4,nI k),(5,nI (1+z2)),(3,pP W),(2,pP b1)]⟩:AS) _
 refine go 5 ?_
 by_cases hlt:k<(1+z2)
 ·refine wcp true Y FT (go 10 ?_)
  refine wyz Y (dU (m:=97)) ?_
  refine wyz Y (aBf Y Y J Y Y Y) ?_
  refine wo Y (bDk (r:=iF [UInt8.ofNat (97+k)]) zb8 ?_)
  refine wyz Y (cK8 Y Y Y) (go 12 λb2=>?_)
  refine wo Y (bD [S] Y Y V call23 Y (eC [_] _ _ _ l ik _ hik hl V V) (bDj) (bDj (h:=by simp [Sto.bl])) (λ_=>bDj) ?_)
  rintro r3 s3 ⟨z3,i3,rfl,hy3,hi3,rfl⟩
  refine go 5 ?_
  by_cases h1:z3=1
  ·refine wcp true Y FT (go 10 ?_)
   refine dx [b2,S,b1] (tz [(0,true),(1,true),(2,true),(3,true),(4,true),(6,true)] 7 (go 7 ?_))
   refine t2 5 7 Y ?_ ?_
   focus
    refine way Y V (aX [_,_] isAgg24 sizeOf24) ?_
    refine ox 7 Y Y (bDk (hf:=aV bT bT ⟨(bytes [UInt8.ofNat (97+k)]),true,0⟩ Y Y Y) zb9 ?_)
   rotate_left
   refine (bDk (hf:=aV bT bT ⟨(bytes [UInt8.ofNat (97+k)]),true,0⟩ Y Y Y) zb9 ?_)
   refine ox 5 Y Y (way Y V (aX [_,_] isAgg24 sizeOf24) ?_)
   all_goals
    refine ox 8 Y Y (bDm [] cKb Y Y V B1 J (@length_append _ ms [⟨(bytes [UInt8.ofNat (97+k)]),true,0⟩]).symm (λhn b hb=>qW hn hb) Bq (List.flatMap_append (f:=bT)).symm λv4=>?_)
    refine tz [(9,true),(10,true),(11,true),(12,false)] 0 (go 5 ?_)
    refine ax (go 4 ?_)
    refine wyz Y (dU (k:=1)) (go 2 ?_)
    refine ⟨(k+1,v4,ms++[⟨(bytes [UInt8.ofNat (97+k)]),true,0⟩],i3),⟨Gv,by show List.length (ms++[⟨(bytes [UInt8.ofNat (97+k)]),true,0⟩])=k+1;simp only [length_append,length_cons,length_nil];omega,hms.snoc (by rw [hmk];exact ⟨rfl,.inr ⟨rfl,rfl⟩⟩),hi3⟩,GK,cQf (h1:=(.cons _ (.refl _))) Dr⟩
  refine wcp false Y FS (go 6 ?_)
  by_cases h2:z3=2
  ·refine wcp true Y FT (go 9 ?_)
   refine wo Y (bD [S] Y Y V call23 Y (eC [_] _ _ _ l i3 _ hi3 hl V V) (bDj) (bDj (h:=by simp [Sto.bl])) (λ_=>bDj) ?_)
   rintro r4 s4 ⟨z4,i4,rfl,hy4,hi4,rfl⟩
   refine wyz Y (dU (m:=1)) (go 5 ?_)
   refine dx [b2,S,b1] (tz [(0,true),(1,true),(2,true),(3,true),(4,true),(6,true)] 7 (go 7 ?_))
   refine t2 5 7 Y ?_ ?_
   focus
    refine way Y V (aX [_,_] isAgg24 sizeOf24) ?_
    refine ox 7 Y Y (bDk (hf:=aV bT bT ⟨(bytes [UInt8.ofNat (97+k)]),false,((1+z4:Nat):Int)⟩ Y Y Y) zb9 ?_)
   rotate_left
   refine (bDk (hf:=aV bT bT ⟨(bytes [UInt8.ofNat (97+k)]),false,((1+z4:Nat):Int)⟩ Y Y Y) zb9 ?_)
   refine ox 5 Y Y (way Y V (aX [_,_] isAgg24 sizeOf24) ?_)
   all_goals
    refine ox 8 Y Y (bDm [] cKb Y Y V B1 J (@length_append _ ms [⟨(bytes [UInt8.ofNat (97+k)]),false,((1+z4:Nat):Int)⟩]).symm (λhn b hb=>qW hn hb) Bq (List.flatMap_append (f:=bT)).symm λv5=>?_)
    refine tz [(9,true),(10,true),(11,true),(12,false)] 0 (go 5 ?_)
    refine ax (go 4 ?_)
    refine wyz Y (dU (k:=1)) (go 2 ?_)
    refine ⟨(k+1,v5,ms++[⟨(bytes [UInt8.ofNat (97+k)]),false,((1+z4:Nat):Int)⟩],i4),⟨Gv,by show List.length (ms++[⟨(bytes [UInt8.ofNat (97+k)]),false,((1+z4:Nat):Int)⟩])=k+1;simp only [length_append,length_cons,length_nil];omega,hms.snoc (by rw [hmk];exact ⟨rfl,.inl ⟨rfl,by show (0:Int) <= ((1+z4:Nat):Int);omega,by show ((1+z4:Nat):Int) <= 3;omega⟩⟩),hi4⟩,GK,cQf (h1:=(.cons _ (.refl _))) Dr⟩
  refine wcp false Y FS (go 7 ?_)
  refine dx [b2,S,b1] (tz [(0,true),(1,true),(2,true),(3,true),(4,true),(6,true)] 7 (go 7 ?_))
  refine t2 5 7 Y ?_ ?_
  focus
   refine way Y V (aX [_,_] isAgg24 sizeOf24) ?_
   refine ox 7 Y Y (bDk (hf:=aV bT bT ⟨(bytes [UInt8.ofNat (97+k)]),false,0⟩ Y Y Y) zb9 ?_)
  rotate_left
  refine (bDk (hf:=aV bT bT ⟨(bytes [UInt8.ofNat (97+k)]),false,0⟩ Y Y Y) zb9 ?_)
  refine ox 5 Y Y (way Y V (aX [_,_] isAgg24 sizeOf24) ?_)
  all_goals
   refine ox 8 Y Y (bDm [] cKb Y Y V B1 J (@length_append _ ms [⟨(bytes [UInt8.ofNat (97+k)]),false,0⟩]).symm (λhn b hb=>qW hn hb) Bq (List.flatMap_append (f:=bT)).symm λv4=>?_)
   refine tz [(9,true),(10,true),(11,true),(12,false)] 0 (go 5 ?_)
   refine ax (go 4 ?_)
   refine wyz Y (dU (k:=1)) (go 2 ?_)
   refine ⟨(k+1,v4,ms++[⟨(bytes [UInt8.ofNat (97+k)]),false,0⟩],i3),⟨Gv,by show List.length (ms++[⟨(bytes [UInt8.ofNat (97+k)]),false,0⟩])=k+1;simp only [length_append,length_cons,length_nil];omega,hms.snoc (by rw [hmk];exact ⟨rfl,.inl ⟨rfl,by show (0:Int) <= 0;decide,by show (0:Int) <= 3;decide⟩⟩),hi3⟩,GK,cQf (h1:=(.cons _ (.refl _))) Dr⟩
 refine wcp false Y FS (go 10 ?_)
 have hmN:1 <= ms.length /\ ms.length <= 4:=J
 refine aAg [_] 2 Y Y ?_
 refine go 10 ?_
 refine wo Y (bD [S] Y Y V call23 Y (eC [] _ _ _ l ik _ hik hl V V) (bDj) (bDj (h:=by simp [Sto.bl])) (λ_=>bDj) ?_)
 rintro r3 s3 ⟨z3,i3,rfl,hy3,hi3,rfl⟩
 refine go 5 ?_
 refine qR 9 1 ?_
 refine qR 63 2 ?_
 refine fM (λg:Nat×Value×Value×List aI×Nat=>(⟨264,aY g.2.1++(aY g.2.2.1++[W,S,b1]),⟨⟨S,54,[.sl l.length (l.map λi=>Vi i),nC g.2.2.2.2]⟩::⟨W,56,[.val (.pointer (some ⟨S,0,none⟩)),.val g.2.1,(Sq bT ms),Nl,Vi 24,Vb ar]⟩::⟨b1,27,[Nl,Nl,Nl]⟩::bx,⟨g.2.1,63,2,g.2.2.2.1.length,g.2.2.2.1.flatMap dB⟩::⟨g.2.2.1,9,1,g.2.2.2.1.length,bP (g.2.2.2.1.map aI.name)⟩::rw⟩,[(8,nI g.1),(9,nI z3),(7,Cv g.2.2.1),(3,pP W),(2,pP b1)]⟩:AS)) (λg=>g.1 <= z3 /\ g.2.2.2.1.length=g.1 /\ oE aDa g.2.2.2.1 /\ g.2.2.2.2 <= l.length) (λg=>z3-g.1) (0,.slice none 0 0,.slice none 0 0,[],i3) (cQf (by intro x hx;simp [aY,Value.ownBlock] at hx⊢;rcases hx with h|h|h<;>simp [h])) ⟨Nat.zero_le _,rfl,.nil _,hi3⟩ ?_
 clear hik hk hmk
 rintro ⟨k,vG,vv,gs,ik⟩ ⟨hk,hgk,hgs,hik⟩
 dsimp only at hk hgk hgs hik
 show AWp prog _ (⟨264,aY vG++(aY vv++[W,S,b1]),⟨⟨S,54,[.sl l.length (l.map λi=>Vi i),nC ik]⟩::⟨W,56,[.val (.pointer (some ⟨S,0,none⟩)),.val vG,(Sq bT ms),Nl,Vi 24,Vb ar]⟩::⟨b1,27,[Nl,Nl,Nl]⟩::bx,⟨vG,63,2,gs.length,gs.flatMap dB⟩::⟨vv,9,1,gs.length,bP (gs.map aI.name)⟩::rw⟩,[(8,nI k),(9,nI z3),(7,Cv vv),(3,pP W),(2,pP b1)]⟩:AS) _
 refine go 5 ?_
 by_cases hlt2:k<z3
 ·refine wcp true Y FT (go 8 ?_)
  refine aCq (λg:Nat×Nat×Nat=>(⟨264,g.1::aY vG++(aY vv++[W,S,b1]),⟨⟨g.1,63,[Vs (bytes [103,UInt8.ofNat (48+k)]),Vi (((g.2.1:Nat):Int)-2)]⟩::⟨S,54,[.sl l.length (l.map λi=>Vi i),nC g.2.2]⟩::⟨W,56,[.val (.pointer (some ⟨S,0,none⟩)),.val vG,(Sq bT ms),Nl,Vi 24,Vb ar]⟩::⟨b1,27,[Nl,Nl,Nl]⟩::bx,⟨vG,63,2,gs.length,gs.flatMap dB⟩::⟨vv,9,1,gs.length,bP (gs.map aI.name)⟩::rw⟩,[(10,Cv (.pointer (some ⟨g.1,0,none⟩))),(8,nI k),(9,nI z3),(7,Cv vv),(3,pP W),(2,pP b1)]⟩:AS)) (λg=>g.2.1<5 /\ g.2.2 <= l.length) ?_ ?_
  ·refine dx [W,b1] (tz [(0,true)] 14 (go 2 ?_))
   refine tx 1 Y (dU (m:=48)) ?_
   refine tx 2 Y (aBf Y Y J Y Y Y) (tz [(6,true),(7,true),(8,true),(9,true)] 8 (go 5 ?_))
   refine three 3 10 13 B6 Y Y Y Y Y Y ?_ ?_ ?_
   focus
    refine (bDk (r:=iF [UInt8.ofNat (48+k)]) zb8 ?_)
    refine tx 4 Y (cK8 Y Y Y) ?_
    refine tx 5 Y (lB (c:=103) (d:=UInt8.ofNat (48+k)) Y Y Y Y Y Y) ?_
    refine t2 10 13 Y ?_ ?_
    focus
     refine (bD [S] Y Y V call23 Y (eC [] _ _ _ l ik _ hik hl V V) Gg FU FR ?_)
     rintro r4 s4 ⟨z4,i4,rfl,hy4,hi4,rfl⟩
     refine tx 11 Y (qC) (tz [(12,true),(13,false),(14,false)] 0 (go 4 λb7=>?_))
    rotate_left
    refine (jK Y Y V zeroValue63 Y λb7=>?_)
    refine ox 10 Y Y (bD [S] Y Y V call23 Y (eC [_] _ _ _ l ik _ hik hl V V) Gg FU FR ?_)
    rintro r4 s4 ⟨z4,i4,rfl,hy4,hi4,rfl⟩
    refine tx 11 Y (qC) (tz [(12,true),(14,false)] 0 (go 3 ?_))
   rotate_left 2
   focus
    refine (bD [S] Y Y V call23 Y (eC [] _ _ _ l ik _ hik hl V V) Gg FU FR ?_)
    rintro r4 s4 ⟨z4,i4,rfl,hy4,hi4,rfl⟩
    refine tx 11 Y (qC) ?_
    refine t2 3 13 Y ?_ ?_
    focus
     refine (bDk (r:=iF [UInt8.ofNat (48+k)]) zb8 ?_)
     refine tx 4 Y (cK8 Y Y Y) ?_
     refine tx 5 Y (lB (c:=103) (d:=UInt8.ofNat (48+k)) Y Y Y Y Y Y) (tz [(12,true),(13,false),(14,false)] 0 (go 4 λb7=>?_))
    rotate_left
    refine (jK Y Y V zeroValue63 Y λb7=>?_)
    refine ox 3 Y Y (bDk (r:=iF [UInt8.ofNat (48+k)]) zb8 ?_)
    refine tx 4 Y (cK8 Y Y Y) ?_
    refine tx 5 Y (lB (c:=103) (d:=UInt8.ofNat (48+k)) Y Y Y Y Y Y) (tz [(12,true),(14,false)] 0 (go 3 ?_))
   rotate_left 2
   focus
    refine (jK Y Y V zeroValue63 Y λb7=>?_)
    refine t2 3 10 Y ?_ ?_
    focus
     refine (bDk (r:=iF [UInt8.ofNat (48+k)]) zb8 ?_)
     refine tx 4 Y (cK8 Y Y Y) ?_
     refine tx 5 Y (lB (c:=103) (d:=UInt8.ofNat (48+k)) Y Y Y Y Y Y) ?_
     refine ox 10 Y Y (bD [S] Y Y V call23 Y (eC [_] _ _ _ l ik _ hik hl V V) Gg FU FR ?_)
     rintro r4 s4 ⟨z4,i4,rfl,hy4,hi4,rfl⟩
     refine tx 11 Y (qC) (tz [(12,true),(14,false)] 0 (go 3 ?_))
    rotate_left
    refine (bD [S] Y Y V call23 Y (eC [_] _ _ _ l ik _ hik hl V V) Gg FU FR ?_)
    rintro r4 s4 ⟨z4,i4,rfl,hy4,hi4,rfl⟩
    refine tx 11 Y (qC) ?_
    refine ox 3 Y Y (bDk (r:=iF [UInt8.ofNat (48+k)]) zb8 ?_)
    refine tx 4 Y (cK8 Y Y Y) ?_
    refine tx 5 Y (lB (c:=103) (d:=UInt8.ofNat (48+k)) Y Y Y Y Y Y) (tz [(12,true),(14,false)] 0 (go 3 ?_))
   all_goals
    refine ax ?_
    exact ⟨Y,(b7,z4,i4),⟨by show z4<5;omega,hi4⟩,cQf (λ_ h=>h)⟩
  rintro ⟨b2,zz,i2⟩ ⟨hzz,hi2⟩
  dsimp only at hzz hi2
  show AWp prog _ (⟨264,b2::aY vG++(aY vv++[W,S,b1]),⟨⟨b2,63,[Vs (bytes [103,UInt8.ofNat (48+k)]),Vi (((zz:Nat):Int)-2)]⟩::⟨S,54,[.sl l.length (l.map λi=>Vi i),nC i2]⟩::⟨W,56,[.val (.pointer (some ⟨S,0,none⟩)),.val vG,(Sq bT ms),Nl,Vi 24,Vb ar]⟩::⟨b1,27,[Nl,Nl,Nl]⟩::bx,⟨vG,63,2,gs.length,gs.flatMap dB⟩::⟨vv,9,1,gs.length,bP (gs.map aI.name)⟩::rw⟩,[(10,pP b2),(8,nI k),(9,nI z3),(7,Cv vv),(3,pP W),(2,pP b1)]⟩:AS) _
  refine dx [b2,S,b1] (tz [(0,true),(1,true),(2,true),(3,true),(4,true),(6,true),(9,true),(10,true),(11,true)] 10 (go 10 ?_))
  refine three 5 7 12 B6 Y Y Y Y Y Y ?_ ?_ ?_
  focus
   refine way Y V (aX [_,_] isAgg23 sizeOf23) ?_
   refine t2 7 12 Y ?_ ?_
   focus
    refine (bDk (hf:=aV dB dB (⟨bytes [103,UInt8.ofNat (48+k)],((zz:Nat):Int)-2⟩:aI) Y Y Y) bDs ?_)
    refine t2 8 12 Y ?_ ?_
    focus
     refine (bDm [] bN3 Y Y V B1 J (@length_append _ gs [(⟨bytes [103,UInt8.ofNat (48+k)],((zz:Nat):Int)-2⟩:aI)]).symm (λhn b hb=>qW hn hb) Bq (List.flatMap_append (f:=dB)).symm λv4=>?_)
     refine ox 12 Y Y (bDk (r:=bP ([(⟨bytes [103,UInt8.ofNat (48+k)],((zz:Nat):Int)-2⟩:aI)].map aI.name)) cG8 ?_)
    rotate_left
    refine (bDk (r:=bP ([(⟨bytes [103,UInt8.ofNat (48+k)],((zz:Nat):Int)-2⟩:aI)].map aI.name)) cG8 ?_)
    refine ox 8 Y Y (bDm [] bN3 Y Y V B1 J (@length_append _ gs [(⟨bytes [103,UInt8.ofNat (48+k)],((zz:Nat):Int)-2⟩:aI)]).symm (λhn b hb=>qW hn hb) Bq (List.flatMap_append (f:=dB)).symm λv4=>?_)
   rotate_left 2
   refine (bDk (r:=bP ([(⟨bytes [103,UInt8.ofNat (48+k)],((zz:Nat):Int)-2⟩:aI)].map aI.name)) cG8 ?_)
   refine ox 7 Y Y (bDk (hf:=aV dB dB (⟨bytes [103,UInt8.ofNat (48+k)],((zz:Nat):Int)-2⟩:aI) Y Y Y) bDs ?_)
   refine ox 8 Y Y (bDm [] bN3 Y Y V B1 J (@length_append _ gs [(⟨bytes [103,UInt8.ofNat (48+k)],((zz:Nat):Int)-2⟩:aI)]).symm (λhn b hb=>qW hn hb) Bq (List.flatMap_append (f:=dB)).symm λv4=>?_)
  rotate_left 3
  focus
   refine (bDk (hf:=aV dB dB (⟨bytes [103,UInt8.ofNat (48+k)],((zz:Nat):Int)-2⟩:aI) Y Y Y) bDs ?_)
   refine t2 5 12 Y ?_ ?_
   focus
    refine way Y V (aX [_,_] isAgg23 sizeOf23) ?_
    refine t2 8 12 Y ?_ ?_
    focus
     refine (bDm [] bN3 Y Y V B1 J (@length_append _ gs [(⟨bytes [103,UInt8.ofNat (48+k)],((zz:Nat):Int)-2⟩:aI)]).symm (λhn b hb=>qW hn hb) Bq (List.flatMap_append (f:=dB)).symm λv4=>?_)
     refine ox 12 Y Y (bDk (r:=bP ([(⟨bytes [103,UInt8.ofNat (48+k)],((zz:Nat):Int)-2⟩:aI)].map aI.name)) cG8 ?_)
    rotate_left
    refine (bDk (r:=bP ([(⟨bytes [103,UInt8.ofNat (48+k)],((zz:Nat):Int)-2⟩:aI)].map aI.name)) cG8 ?_)
    refine ox 8 Y Y (bDm [] bN3 Y Y V B1 J (@length_append _ gs [(⟨bytes [103,UInt8.ofNat (48+k)],((zz:Nat):Int)-2⟩:aI)]).symm (λhn b hb=>qW hn hb) Bq (List.flatMap_append (f:=dB)).symm λv4=>?_)
   rotate_left 2
   refine (bDk (r:=bP ([(⟨bytes [103,UInt8.ofNat (48+k)],((zz:Nat):Int)-2⟩:aI)].map aI.name)) cG8 ?_)
   refine ox 5 Y Y (way Y V (aX [_,_] isAgg23 sizeOf23) ?_)
   refine ox 8 Y Y (bDm [] bN3 Y Y V B1 J (@length_append _ gs [(⟨bytes [103,UInt8.ofNat (48+k)],((zz:Nat):Int)-2⟩:aI)]).symm (λhn b hb=>qW hn hb) Bq (List.flatMap_append (f:=dB)).symm λv4=>?_)
  rotate_left 3
  focus
   refine (bDk (r:=bP ([(⟨bytes [103,UInt8.ofNat (48+k)],((zz:Nat):Int)-2⟩:aI)].map aI.name)) cG8 ?_)
   refine t2 5 7 Y ?_ ?_
   focus
    refine way Y V (aX [_,_] isAgg23 sizeOf23) ?_
    refine ox 7 Y Y (bDk (hf:=aV dB dB (⟨bytes [103,UInt8.ofNat (48+k)],((zz:Nat):Int)-2⟩:aI) Y Y Y) bDs ?_)
   rotate_left
   refine (bDk (hf:=aV dB dB (⟨bytes [103,UInt8.ofNat (48+k)],((zz:Nat):Int)-2⟩:aI) Y Y Y) bDs ?_)
   refine ox 5 Y Y (way Y V (aX [_,_] isAgg23 sizeOf23) ?_)
   all_goals
    refine ox 8 Y Y (bDm [] bN3 Y Y V B1 J (@length_append _ gs [(⟨bytes [103,UInt8.ofNat (48+k)],((zz:Nat):Int)-2⟩:aI)]).symm (λhn b hb=>qW hn hb) Bq (List.flatMap_append (f:=dB)).symm λv4=>?_)
  all_goals
   refine ox 13 Y Y (bDm [_] dFs Y Y V B1 J (@length_append _ gs [(⟨bytes [103,UInt8.ofNat (48+k)],((zz:Nat):Int)-2⟩:aI)]).symm (λhn b hb=>cZl (r:=⟨vv,9,1,gs.length,bP (gs.map aI.name)⟩) hn hb) Bq (show bP (gs.map aI.name)++bP ([(⟨bytes [103,UInt8.ofNat (48+k)],((zz:Nat):Int)-2⟩:aI)].map aI.name)=bP ((gs++[(⟨bytes [103,UInt8.ofNat (48+k)],((zz:Nat):Int)-2⟩:aI)]).map aI.name) by simp [bP]) λv5=>?_)
   refine tz [(14,true),(15,true),(16,true),(17,false),(18,true)] 0 (go 6 ?_)
   refine ax (go 4 ?_)
   refine wyz Y (dU (k:=1)) (go 2 ?_)
   refine ⟨(k+1,v4,v5,gs++[(⟨bytes [103,UInt8.ofNat (48+k)],((zz:Nat):Int)-2⟩:aI)],i2),⟨by show k+1 <= z3;omega,by show List.length (gs++[(⟨bytes [103,UInt8.ofNat (48+k)],((zz:Nat):Int)-2⟩:aI)])=k+1;simp only [length_append,length_cons,length_nil];omega,hgs.snoc (by rw [hgk];exact ⟨rfl,by show -2 <= ((zz:Nat):Int)-2;omega,by show ((zz:Nat):Int)-2 <= 2;omega⟩),hi2⟩,by show z3-(k+1)<z3-k;omega,cQf (h1:=(.cons _ (.refl _))) Dr⟩
 refine wcp false Y FS (go 10 ?_)
 have hgN:gs.length <= 2:=J
 refine aAg [_] 1 Y Y ?_
 refine go 4 ?_
 refine wo Y (bD [S] Y Y V call23 Y (eC [] _ _ _ l ik _ hik hl V V) (bDj) (bDj (h:=by simp [Sto.bl])) (λ_=>bDj) ?_)
 rintro r4 s4 ⟨z4,i4,rfl,hy4,hi4,rfl⟩
 refine go 10 ?_
 refine qR 67 3 ?_
 refine fM (λg:Nat×Value×List (ByteArray×List aS)×Nat=>(⟨264,(aY g.2.1++(aY vv++[W,S,b1])),⟨⟨S,54,[.sl l.length (l.map λi=>Vi i),nC g.2.2.2]⟩::⟨W,56,[.val (.pointer (some ⟨S,0,none⟩)),(Sq dB gs),(Sq bT ms),.val g.2.1,Vi 24,Vb ar]⟩::⟨b1,27,[Nl,Nl,Nl]⟩::bx,⟨g.2.1,67,3,g.2.2.1.length,(g.2.2.1.map e0).flatMap cQ⟩::⟨vv,9,1,gs.length,bP (gs.map aI.name)⟩::rw⟩,[(12,nI g.1),(11,nI z4),(7,Cv vv),(3,pP W),(2,pP b1)]⟩:AS)) (λg=>g.1 <= z4+1 /\ g.2.2.1.length=g.1 /\ oE aRd g.2.2.1 /\ g.2.2.2 <= l.length) (λg=>z4+1-g.1) (0,.slice none 0 0,[],i4) (cQf Gj) ⟨Nat.zero_le _,Y,.nil _,hi4⟩ ?_
 clear hik hk hgk
 rintro ⟨q,vF,sg,ik⟩ ⟨hq,hsq,hsg,hik⟩
 dsimp only at hq hsq hsg hik
 show AWp prog _ (⟨264,(aY vF++(aY vv++[W,S,b1])),⟨⟨S,54,[.sl l.length (l.map λi=>Vi i),nC ik]⟩::⟨W,56,[.val (.pointer (some ⟨S,0,none⟩)),(Sq dB gs),(Sq bT ms),.val vF,Vi 24,Vb ar]⟩::⟨b1,27,[Nl,Nl,Nl]⟩::bx,⟨vF,67,3,sg.length,(sg.map e0).flatMap cQ⟩::⟨vv,9,1,gs.length,bP (gs.map aI.name)⟩::rw⟩,[(12,nI q),(11,nI z4),(7,Cv vv),(3,pP W),(2,pP b1)]⟩:AS) _
 refine go 5 ?_
 by_cases hlt3:q <= z4
 ·refine wcp true Y FT (go 10 ?_)
  refine wyz Y (dU (m:=48)) ?_
  refine wyz Y (aBf Y Y J Y Y Y) ?_
  refine wo Y (bDk (r:=iF [UInt8.ofNat (48+q)]) zb8 ?_)
  refine wyz Y (cK8 Y Y Y) ?_
  refine wyz Y (lB (c:=102) (d:=UInt8.ofNat (48+q)) Y Y Y Y Y Y) (go 9 λfb=>?_)
  refine wyz Y (bO (decide (q=0)) Y Y Y (aPr q)) (go 2 ?_)
  refine aCq (λNM:ByteArray=>(⟨264,fb::(aY vF++(aY vv++[W,S,b1])),⟨⟨fb,67,[Vs NM,Nl,Nl]⟩::⟨S,54,[.sl l.length (l.map λi=>Vi i),nC ik]⟩::⟨W,56,[.val (.pointer (some ⟨S,0,none⟩)),(Sq dB gs),(Sq bT ms),.val vF,Vi 24,Vb ar]⟩::⟨b1,27,[Nl,Nl,Nl]⟩::bx,⟨vF,67,3,sg.length,(sg.map e0).flatMap cQ⟩::⟨vv,9,1,gs.length,bP (gs.map aI.name)⟩::rw⟩,[(13,pP fb),(12,nI q),(11,nI z4),(7,Cv vv),(3,pP W),(2,pP b1)]⟩:AS)) (λNM=>NM=fnm q) ?_ ?_
  ·refine gY Y (λhc10=>?_) (λhc10=>?_)
   ·have hq00:q=0:=of_decide_eq_true hc10
    refine go 4 ?_
    exact ⟨Y,(bytes [109,97,105,110]),by simp [fnm,hq00],cQf (λ_ h=>h)⟩
   have hq00:¬q=0:=of_decide_eq_false hc10
   refine go 1 ?_
   exact ⟨Y,(bytes [102,UInt8.ofNat (48+q)]),by simp [fnm,hq00],cQf (λ_ h=>h)⟩
  rintro nm hnm
  show AWp prog _ (⟨264,fb::(aY vF++(aY vv++[W,S,b1])),⟨⟨fb,67,[Vs nm,Nl,Nl]⟩::⟨S,54,[.sl l.length (l.map λi=>Vi i),nC ik]⟩::⟨W,56,[.val (.pointer (some ⟨S,0,none⟩)),(Sq dB gs),(Sq bT ms),.val vF,Vi 24,Vb ar]⟩::⟨b1,27,[Nl,Nl,Nl]⟩::bx,⟨vF,67,3,sg.length,(sg.map e0).flatMap cQ⟩::⟨vv,9,1,gs.length,bP (gs.map aI.name)⟩::rw⟩,[(13,pP fb),(12,nI q),(11,nI z4),(7,Cv vv),(3,pP W),(2,pP b1)]⟩:AS) _
  refine go 7 ?_
  refine wo Y (bD [S] Y Y V call23 Y (eC [_] _ _ _ l ik _ hik hl V V) (bDj) (bDj (h:=by simp [Sto.bl])) (λ_=>bDj) ?_)
  rintro r5 s5 ⟨z5,i5,rfl,hy5,hi5,rfl⟩
  refine go 3 ?_
  refine aCq (λg:Value×List aS×Nat=>(⟨264,aY g.1++(fb::(aY vF++(aY vv++[W,S,b1]))),⟨⟨fb,67,[Vs nm,.val g.1,Nl]⟩::⟨S,54,[.sl l.length (l.map λi=>Vi i),nC g.2.2]⟩::⟨W,56,[.val (.pointer (some ⟨S,0,none⟩)),(Sq dB gs),(Sq bT ms),.val vF,Vi 24,Vb ar]⟩::⟨b1,27,[Nl,Nl,Nl]⟩::bx,⟨g.1,69,2,g.2.1.length,g.2.1.flatMap cP⟩::⟨vF,67,3,sg.length,(sg.map e0).flatMap cQ⟩::⟨vv,9,1,gs.length,bP (gs.map aI.name)⟩::rw⟩,[(13,pP fb),(12,nI q),(11,nI z4),(7,Cv vv),(3,pP W),(2,pP b1)]⟩:AS)) (λg=>pM g.2.1 /\ (q=0 -> g.2.1=[]) /\ g.2.2 <= l.length) ?_ ?_
  ·refine go 1 ?_
   refine qR 69 2 ?_
   refine fM (λg:Nat×Value×List aS×Nat=>(⟨264,aY g.2.1++(fb::(aY vF++(aY vv++[W,S,b1]))),⟨⟨fb,67,[Vs nm,.val g.2.1,Nl]⟩::⟨S,54,[.sl l.length (l.map λi=>Vi i),nC g.2.2.2]⟩::⟨W,56,[.val (.pointer (some ⟨S,0,none⟩)),(Sq dB gs),(Sq bT ms),.val vF,Vi 24,Vb ar]⟩::⟨b1,27,[Nl,Nl,Nl]⟩::bx,⟨g.2.1,69,2,g.2.2.1.length,g.2.2.1.flatMap cP⟩::⟨vF,67,3,sg.length,(sg.map e0).flatMap cQ⟩::⟨vv,9,1,gs.length,bP (gs.map aI.name)⟩::rw⟩,[(14,nI g.1),(13,pP fb),(12,nI q),(11,nI z4),(7,Cv vv),(3,pP W),(2,pP b1)]⟩:AS)) (λg=>g.1+g.2.2.1.length=z5 /\ (q=0 -> g.2.2.1=[]) /\ oE (λk x=>x.name=bytes [112,UInt8.ofNat (48+(z5-k))]) g.2.2.1 /\ g.2.2.2 <= l.length) (λg=>g.1) (z5,.slice none 0 0,[],i5) (cQf Cc) ⟨Y,λ_=>Y,.nil _,hi5⟩ ?_
   rintro ⟨m,vP,qs,iq⟩ ⟨hm,hq0,hqs,hiq⟩
   dsimp only at hm hq0 hqs hiq
   show AWp prog _ (⟨264,aY vP++(fb::(aY vF++(aY vv++[W,S,b1]))),⟨⟨fb,67,[Vs nm,.val vP,Nl]⟩::⟨S,54,[.sl l.length (l.map λi=>Vi i),nC iq]⟩::⟨W,56,[.val (.pointer (some ⟨S,0,none⟩)),(Sq dB gs),(Sq bT ms),.val vF,Vi 24,Vb ar]⟩::⟨b1,27,[Nl,Nl,Nl]⟩::bx,⟨vP,69,2,qs.length,qs.flatMap cP⟩::⟨vF,67,3,sg.length,(sg.map e0).flatMap cQ⟩::⟨vv,9,1,gs.length,bP (gs.map aI.name)⟩::rw⟩,[(14,nI m),(13,pP fb),(12,nI q),(11,nI z4),(7,Cv vv),(3,pP W),(2,pP b1)]⟩:AS) _
   refine go 4 ?_
   by_cases hm0:0<m
   ·refine wcp true Y FT (go 2 ?_)
    by_cases hq1:0<q
    ·refine wcp true Y FT (go 9 ?_)
     refine aCq (λg:Nat×Bool×Nat=>(⟨264,g.1::(aY vP++(fb::(aY vF++(aY vv++[W,S,b1])))),⟨⟨g.1,69,[Vs (bytes [112,UInt8.ofNat (48+m)]),Vb g.2.1]⟩::⟨fb,67,[Vs nm,.val vP,Nl]⟩::⟨S,54,[.sl l.length (l.map λi=>Vi i),nC g.2.2]⟩::⟨W,56,[.val (.pointer (some ⟨S,0,none⟩)),(Sq dB gs),(Sq bT ms),.val vF,Vi 24,Vb ar]⟩::⟨b1,27,[Nl,Nl,Nl]⟩::bx,⟨vP,69,2,qs.length,qs.flatMap cP⟩::⟨vF,67,3,sg.length,(sg.map e0).flatMap cQ⟩::⟨vv,9,1,gs.length,bP (gs.map aI.name)⟩::rw⟩,[(15,Cv (.pointer (some ⟨g.1,0,none⟩))),(14,nI m),(13,pP fb),(12,nI q),(11,nI z4),(7,Cv vv),(3,pP W),(2,pP b1)]⟩:AS)) (λg=>g.2.2 <= l.length) ?_ ?_
     ·refine dx [fb,W,b1] (tz [(0,true)] 14 (go 2 ?_))
      refine tx 1 Y (dU (m:=48)) ?_
      refine tx 2 Y (aBf Y Y J Y Y Y) (tz [(6,true),(7,true),(8,true),(9,true)] 8 (go 5 ?_))
      refine three 3 10 13 B6 Y Y Y Y Y Y ?_ ?_ ?_
      focus
       refine (bDk (r:=iF [UInt8.ofNat (48+m)]) zb8 ?_)
       refine tx 4 Y (cK8 Y Y Y) ?_
       refine tx 5 Y (lB (c:=112) (d:=UInt8.ofNat (48+m)) Y Y Y Y Y Y) ?_
       refine t2 10 13 Y ?_ ?_
       focus
        refine (bD [S] Y Y V call23 Y (eC [_] _ _ _ l iq _ hiq hl V V) Gg FU FR ?_)
        rintro r6 s6 ⟨z6,i6,rfl,hy6,hi6,rfl⟩
        refine tx 11 Y (bO (decide (0<z6)) Y Y Y B7) (tz [(12,true),(13,false),(14,false)] 0 (go 4 λb12=>?_))
       rotate_left
       refine (jK Y Y V zeroValue69 Y λb12=>?_)
       refine ox 10 Y Y (bD [S] Y Y V call23 Y (eC [_,_] _ _ _ l iq _ hiq hl V V) Gg FU FR ?_)
       rintro r6 s6 ⟨z6,i6,rfl,hy6,hi6,rfl⟩
       refine tx 11 Y (bO (decide (0<z6)) Y Y Y B7) (tz [(12,true),(14,false)] 0 (go 3 ?_))
      rotate_left 2
      focus
       refine (bD [S] Y Y V call23 Y (eC [_] _ _ _ l iq _ hiq hl V V) Gg FU FR ?_)
       rintro r6 s6 ⟨z6,i6,rfl,hy6,hi6,rfl⟩
       refine tx 11 Y (bO (decide (0<z6)) Y Y Y B7) ?_
       refine t2 3 13 Y ?_ ?_
       focus
        refine (bDk (r:=iF [UInt8.ofNat (48+m)]) zb8 ?_)
        refine tx 4 Y (cK8 Y Y Y) ?_
        refine tx 5 Y (lB (c:=112) (d:=UInt8.ofNat (48+m)) Y Y Y Y Y Y) (tz [(12,true),(13,false),(14,false)] 0 (go 4 λb12=>?_))
       rotate_left
       refine (jK Y Y V zeroValue69 Y λb12=>?_)
       refine ox 3 Y Y (bDk (r:=iF [UInt8.ofNat (48+m)]) zb8 ?_)
       refine tx 4 Y (cK8 Y Y Y) ?_
       refine tx 5 Y (lB (c:=112) (d:=UInt8.ofNat (48+m)) Y Y Y Y Y Y) (tz [(12,true),(14,false)] 0 (go 3 ?_))
      rotate_left 2
      focus
       refine (jK Y Y V zeroValue69 Y λb12=>?_)
       refine t2 3 10 Y ?_ ?_
       focus
        refine (bDk (r:=iF [UInt8.ofNat (48+m)]) zb8 ?_)
        refine tx 4 Y (cK8 Y Y Y) ?_
        refine tx 5 Y (lB (c:=112) (d:=UInt8.ofNat (48+m)) Y Y Y Y Y Y) ?_
        refine ox 10 Y Y (bD [S] Y Y V call23 Y (eC [_,_] _ _ _ l iq _ hiq hl V V) Gg FU FR ?_)
        rintro r6 s6 ⟨z6,i6,rfl,hy6,hi6,rfl⟩
        refine tx 11 Y (bO (decide (0<z6)) Y Y Y B7) (tz [(12,true),(14,false)] 0 (go 3 ?_))
       rotate_left
       refine (bD [S] Y Y V call23 Y (eC [_,_] _ _ _ l iq _ hiq hl V V) Gg FU FR ?_)
       rintro r6 s6 ⟨z6,i6,rfl,hy6,hi6,rfl⟩
       refine tx 11 Y (bO (decide (0<z6)) Y Y Y B7) ?_
       refine ox 3 Y Y (bDk (r:=iF [UInt8.ofNat (48+m)]) zb8 ?_)
       refine tx 4 Y (cK8 Y Y Y) ?_
       refine tx 5 Y (lB (c:=112) (d:=UInt8.ofNat (48+m)) Y Y Y Y Y Y) (tz [(12,true),(14,false)] 0 (go 3 ?_))
      all_goals
       refine ax ?_
       exact ⟨Y,(b12,decide (0<z6),i6),hi6,cQf (λ_ h=>h)⟩
     rintro ⟨pb,mx,i2⟩ hi2
     dsimp only at hi2
     show AWp prog _ (⟨264,pb::(aY vP++(fb::(aY vF++(aY vv++[W,S,b1])))),⟨⟨pb,69,[Vs (bytes [112,UInt8.ofNat (48+m)]),Vb mx]⟩::⟨fb,67,[Vs nm,.val vP,Nl]⟩::⟨S,54,[.sl l.length (l.map λi=>Vi i),nC i2]⟩::⟨W,56,[.val (.pointer (some ⟨S,0,none⟩)),(Sq dB gs),(Sq bT ms),.val vF,Vi 24,Vb ar]⟩::⟨b1,27,[Nl,Nl,Nl]⟩::bx,⟨vP,69,2,qs.length,qs.flatMap cP⟩::⟨vF,67,3,sg.length,(sg.map e0).flatMap cQ⟩::⟨vv,9,1,gs.length,bP (gs.map aI.name)⟩::rw⟩,[(15,pP pb),(14,nI m),(13,pP fb),(12,nI q),(11,nI z4),(7,Cv vv),(3,pP W),(2,pP b1)]⟩:AS) _
     refine go 4 ?_
     refine wo Y (bDk (hf:=aV cP cP ⟨bytes [112,UInt8.ofNat (48+m)],mx⟩ Y Y Y) bHf ?_)
     refine wo Y (bDm [] dF9 Y Y V B1 J (@length_append _ qs [⟨bytes [112,UInt8.ofNat (48+m)],mx⟩]).symm Bo Bq (List.flatMap_append (f:=cP)).symm λv6=>?_)
     refine go 7 ?_
     refine wyz Y (cI ((m-1:Nat):Int)) (go 2 ?_)
     refine ⟨(m-1,v6,qs++[⟨bytes [112,UInt8.ofNat (48+m)],mx⟩],i2),⟨by show m-1+List.length (qs++[⟨bytes [112,UInt8.ofNat (48+m)],mx⟩])=z5;simp only [length_append,length_cons,length_nil];omega,λh=>absurd h J,hqs.snoc (by show bytes [112,UInt8.ofNat (48+m)]=_;rw [show z5-qs.length=m by omega]),hi2⟩,by show m-1<m;omega,cQf (h1:=(.cons _ (.refl _))) Dr⟩
    refine wcp false Y FS (go 8 ?_)
    exact ⟨Y,(vP,qs,iq),⟨⟨by show qs.length <= 2;omega,λk h=>by rw [hq0 J] at h;simp at h⟩,hq0,hiq⟩,cQf (λ_ h=>h)⟩
   refine wcp false Y FS (go 11 ?_)
   exact ⟨Y,(vP,qs,iq),⟨⟨by show qs.length <= 2;omega,λk h=>by rw [hqs k h,show z5-k=qs.length-k by omega]⟩,hq0,hiq⟩,cQf (λ_ h=>h)⟩
  rintro ⟨vP,qs,iq⟩ ⟨hqs,hq0,hiq⟩
  dsimp only at hqs hq0 hiq
  show AWp prog _ (⟨264,aY vP++(fb::(aY vF++(aY vv++[W,S,b1]))),⟨⟨fb,67,[Vs nm,.val vP,Nl]⟩::⟨S,54,[.sl l.length (l.map λi=>Vi i),nC iq]⟩::⟨W,56,[.val (.pointer (some ⟨S,0,none⟩)),(Sq dB gs),(Sq bT ms),.val vF,Vi 24,Vb ar]⟩::⟨b1,27,[Nl,Nl,Nl]⟩::bx,⟨vP,69,2,qs.length,qs.flatMap cP⟩::⟨vF,67,3,sg.length,(sg.map e0).flatMap cQ⟩::⟨vv,9,1,gs.length,bP (gs.map aI.name)⟩::rw⟩,[(13,pP fb),(12,nI q),(11,nI z4),(7,Cv vv),(3,pP W),(2,pP b1)]⟩:AS) _
  refine aQ7 [] 1 Y Y ?_
  refine dx [fb,S,b1] (tz [(0,true),(1,true),(2,true),(3,true),(4,true),(6,true)] 7 (go 7 ?_))
  refine t2 5 7 Y ?_ ?_
  focus
   refine way Y V (aX [_,_] isAgg25 sizeOf25) ?_
   refine ox 7 Y Y (bDk (hf:=aV cQ cQ (e0 (nm,qs)) Y Y Y) bDu ?_)
  rotate_left
  refine (bDk (hf:=aV cQ cQ (e0 (nm,qs)) Y Y Y) bDu ?_)
  refine ox 5 Y Y (way Y V (aX [_,_] isAgg25 sizeOf25) ?_)
  all_goals
   refine ox 8 Y Y (bDm [] cN3 Y Y V B1 J (@length_append _ sg [(nm,qs)]).symm (λhn b hb=>qW hn hb) Bq (show (sg.map e0).flatMap cQ++[e0 (nm,qs)].flatMap cQ=((sg++[(nm,qs)]).map e0).flatMap cQ by simp) λv6=>?_)
   refine tz [(9,true),(10,true),(11,true),(12,false)] 0 (go 5 ?_)
   refine ax (go 4 ?_)
   refine wyz Y (dU (k:=1)) (go 2 ?_)
   refine ⟨(q+1,v6,sg++[(nm,qs)],iq),⟨by show q+1 <= z4+1;omega,by show List.length (sg++[(nm,qs)])=q+1;simp only [length_append,length_cons,length_nil];omega,hsg.snoc (by rw [hsq];exact ⟨hnm,hq0,hqs⟩),hiq⟩,by show z4+1-(q+1)<z4+1-q;omega,cQf (h1:=(.cons _ (.refl _))) Dr⟩
 refine wcp false Y FS (go 11 ?_)
 have hs1:1 <= sg.length /\ sg.length <= 4:=J
 refine go 4 ?_
 refine aEw [] J λgF capF hgF=>?_
 subst hgF
 refine fM (λg:Nat×Nat×Nat×List bS=>(⟨264,(gF::(aY vv++[W,S,b1])),⟨⟨S,54,[.sl l.length (l.map λi=>.val (.int .i64 i)),nC g.2.2.1]⟩::⟨W,56,[.val (.pointer (some ⟨S,0,none⟩)),(.sl gs.length (gs.flatMap dB)),(.sl ms.length (ms.flatMap bT)),(.val (.slice (some ⟨gF,0,none⟩) sg.length capF)),nC g.2.1,.val (.bool ar)]⟩::⟨b1,27,[.val (.slice none 0 0),.val (.slice none 0 0),.val (.slice none 0 0)]⟩::bx,⟨.slice (some ⟨gF,0,none⟩) sg.length capF,67,3,sg.length,(bXt sg g.2.2.2).flatMap cQ⟩::⟨vv,9,1,gs.length,bP (gs.map aI.name)⟩::rw⟩,[(16,nI g.1),(7,.c (.val vv)),(3,pP W),(2,pP b1)]⟩:AS)) (λg=>g.1 <= sg.length /\ g.2.2.2.length=g.1 /\ g.2.2.2.map bS.sig=sg.take g.1 /\ aPv ms sg gs g.2.1 g.2.2.2 /\ g.2.1 <= 24 /\ g.2.2.1 <= l.length) (λg=>sg.length-g.1) (0,24,ik,[]) (cQf Gi) ⟨Nat.zero_le _,Y,G0,λ_ h=>h,Nat.le_refl _,hik⟩ ?_
 clear hik hq
 rintro ⟨i4,lf,iw,ds⟩ ⟨hi4,hds,hdm,hbt,hlf,hiw⟩
 dsimp only at hi4 hds hdm hbt hlf hiw
 subst hds
 show AWp prog _ (⟨264,(gF::(aY vv++[W,S,b1])),⟨⟨S,54,[.sl l.length (l.map λi=>Vi i),nC iw]⟩::⟨W,56,[.val (.pointer (some ⟨S,0,none⟩)),(Sq dB gs),(Sq bT ms),(.val (.slice (some ⟨gF,0,none⟩) sg.length capF)),nC lf,Vb ar]⟩::⟨b1,27,[Nl,Nl,Nl]⟩::bx,⟨.slice (some ⟨gF,0,none⟩) sg.length capF,67,3,sg.length,(bXt sg ds).flatMap cQ⟩::⟨vv,9,1,gs.length,bP (gs.map aI.name)⟩::rw⟩,[(16,nI ds.length),(7,Cv vv),(3,pP W),(2,pP b1)]⟩:AS) _
 refine go 10 ?_
 by_cases hlt4:ds.length<sg.length
 ·have hmz:=aP2 hms
  have hfp:=aQm hsg hdm
  have hps:sg[ds.length].2.length <= 2:=(hsg _ hlt4).2.2.1
  refine wcp true Y FT (go 9 ?_)
  refine wo Y (aTr underlying61 sizeOf9 λg0=>?_)
  refine go 1 ?_
  refine wo Y (aSk (ds:=bP (gs.map aI.name)) (m:=gs.length) [] Tryz.t9 16 Y Y V Y Y G0 underlying61 B6 Y Y Y Y V B1 J (show 0+gs.length=(aA4 gs (sg[ds.length].2.take 0)).length by simp [aA4]) (λ_ b hb=>G9) (λb hb=>G9) G0 (show []++bP (gs.map aI.name)=bP (aA4 gs (sg[ds.length].2.take 0)) by simp [aA4]) λu0=>?_)
  refine go 10 ?_
  refine fM (λg:Nat×Value×List ByteArray=>(⟨264,aY g.2.1++(gF::(aY vv++[W,S,b1])),⟨⟨S,54,[.sl l.length (l.map λi=>Vi i),nC iw]⟩::⟨W,56,[.val (.pointer (some ⟨S,0,none⟩)),(Sq dB gs),(Sq bT ms),(.val (.slice (some ⟨gF,0,none⟩) sg.length capF)),nC lf,Vb ar]⟩::⟨b1,27,[Nl,Nl,Nl]⟩::bx,⟨g.2.1,9,1,g.2.2.length,bP g.2.2⟩::⟨.slice (some ⟨gF,0,none⟩) sg.length capF,67,3,sg.length,(bXt sg ds).flatMap cQ⟩::⟨vv,9,1,gs.length,bP (gs.map aI.name)⟩::rw⟩,[(18,nI g.1),(17,Cv g.2.1),(16,nI ds.length),(7,Cv vv),(3,pP W),(2,pP b1)]⟩:AS)) (λg=>g.1 <= sg[ds.length].2.length /\ g.2.2=aA4 gs (sg[ds.length].2.take g.1)) (λg=>sg[ds.length].2.length-g.1) (0,u0,aA4 gs (sg[ds.length].2.take 0)) (cQf Gb) ⟨Nat.zero_le _,Y⟩ ?_
  rintro ⟨j,u,us⟩ ⟨hj,hus⟩
  dsimp only at hj hus
  have hul:us.length <= 4:=by have h1:(sg[ds.length].2.take j).length <= 2:=Gl;have h2:=List.length_filter_le (λx:aS=>!x.mutex) (sg[ds.length].2.take j);rw [hus,aA4,length_append,List.length_map,List.length_map];omega
  show AWp prog _ (⟨264,aY u++(gF::(aY vv++[W,S,b1])),⟨⟨S,54,[.sl l.length (l.map λi=>Vi i),nC iw]⟩::⟨W,56,[.val (.pointer (some ⟨S,0,none⟩)),(Sq dB gs),(Sq bT ms),(.val (.slice (some ⟨gF,0,none⟩) sg.length capF)),nC lf,Vb ar]⟩::⟨b1,27,[Nl,Nl,Nl]⟩::bx,⟨u,9,1,us.length,bP us⟩::⟨.slice (some ⟨gF,0,none⟩) sg.length capF,67,3,sg.length,(bXt sg ds).flatMap cQ⟩::⟨vv,9,1,gs.length,bP (gs.map aI.name)⟩::rw⟩,[(18,nI j),(17,Cv u),(16,nI ds.length),(7,Cv vv),(3,pP W),(2,pP b1)]⟩:AS) _
  refine go 10 ?_
  refine wyz Y (dH ds.length Y Y Y Y hlt4 runUnderlying25 sizeOf67) ?_
  refine wyz Y (qD 1 (0+ds.length*3+1) Y Y runUnderlying67 Y sizeOf64 V Y) ?_
  refine wyz Y (dT (g:=gF) (k:=sg.length) (cap:=capF) (E0:=67) (zz:=3) (cs:=(bXt sg ds).flatMap cQ) isAgg64 sizeOf64 (aGt hlt4)) (go 1 ?_)
  by_cases hltj:j<sg[ds.length].2.length
  ·refine wcp true Y FT (go 15 ?_)
   refine wyz Y (dH ds.length Y Y Y Y hlt4 runUnderlying25 sizeOf67) ?_
   refine wyz Y (qD 1 (0+ds.length*3+1) Y Y runUnderlying67 Y sizeOf64 V Y) ?_
   refine wyz Y (dT (g:=gF) (k:=sg.length) (cap:=capF) (E0:=67) (zz:=3) (cs:=(bXt sg ds).flatMap cQ) isAgg64 sizeOf64 (aGt hlt4)) (go 1 ?_)
   refine wyz Y (bH cP cP sg[ds.length].2 gL (λ_=>Y) j Y Y Y Y J V runUnderlying64 sizeOf69) (go 2 ?_)
   refine wyz Y (lF  Y Y) (go 2 ?_)
   refine gY Y (λhc17=>?_) (λhc17=>?_)
   ·have hmt:sg[ds.length].2[j].mutex=false:=by simpa using hc17
    refine go 8 ?_
    refine wyz Y (dH ds.length Y Y Y Y hlt4 runUnderlying25 sizeOf67) ?_
    refine wyz Y (qD 1 (0+ds.length*3+1) Y Y runUnderlying67 Y sizeOf64 V Y) ?_
    refine wyz Y (dT (g:=gF) (k:=sg.length) (cap:=capF) (E0:=67) (zz:=3) (cs:=(bXt sg ds).flatMap cQ) isAgg64 sizeOf64 (aGt hlt4)) (go 1 ?_)
    refine wyz Y (bH cP cP sg[ds.length].2 gL (λ_=>Y) j Y Y Y Y J V runUnderlying64 sizeOf69) (go 2 ?_)
    refine wo Y (bDk (r:=bP [sg[ds.length].2[j].name]) cG8 ?_)
    refine wo Y (bDm [] dFs Y Y V B1 J (@length_append _ us [sg[ds.length].2[j].name]).symm Bo Bq (List.map_append (f:=λx=>AC.val (.string x))).symm λv5=>?_)
    refine go 6 ?_
    refine wyz Y (dU (k:=1)) (go 2 ?_)
    refine ⟨(j+1,v5,(us++[sg[ds.length].2[j].name])),⟨Gx,by show (us++[sg[ds.length].2[j].name])=_;rw [aBt gs sg[ds.length].2 j hltj,hus,if_neg (by rw [hmt];decide)]⟩,Gp,cQf Gb⟩
   have hmt:sg[ds.length].2[j].mutex=true:=by simpa using hc17
   refine go 5 ?_
   refine wyz Y (dU (k:=1)) (go 2 ?_)
   refine ⟨(j+1,u,us),⟨Gx,by show us=_;rw [aBt gs sg[ds.length].2 j hltj,hus,if_pos hmt,List.append_nil]⟩,Gp,cQf Gb⟩
  refine wcp false Y FS (go 8 ?_)
  refine dx [b1] (tz [(0,true),(1,true),(2,true),(3,true),(5,true),(6,true),(7,true),(8,true),(9,true),(10,true),(12,true),(15,true)] 8 (go 13 ?_))
  refine t2 4 11 Y ?_ ?_
  focus
   refine way Y V (aX [_] isAgg25 sizeOf25) ?_
   refine ox 11 Y Y (way Y V (aX [_] isAgg25 sizeOf25) ?_)
   refine tx 13 Y (dH ds.length Y Y Y Y hlt4 runUnderlying25 sizeOf67) ?_
   refine ox 14 Y Y (way Y V (dT (g:=gF) (k:=sg.length) (cap:=capF) (E0:=67) (zz:=3) (cs:=(bXt sg ds).flatMap cQ) isAgg67 sizeOf67 (aMv hlt4)) ?_)
   refine ox 16 Y Y (bD [S,W] Y Y V call24 Y (vJ _ S W l ms sg[ds.length].2 sg[ds.length].1 _ _ ar (bXt sg ds) gF capF hl hmN.1 J hmz J FY FY hfp sg.length (gO J) lf [] [] _ _ us iw 2 6 hiw V V J G0) Ba FQ FL ?_)
   rintro r5 s5 ⟨b5l,i5,l5,rfl,hm5,hi5,rfl⟩
   have hbm:=hm5
   rw [aAq sg ds hdm,hus,take_of_length_le J] at hbm
  rotate_left
  focus
   refine way Y V (aX [_] isAgg25 sizeOf25) ?_
   refine tx 13 Y (dH ds.length Y Y Y Y hlt4 runUnderlying25 sizeOf67) ?_
   refine t2 4 14 Y ?_ ?_
   focus
    refine way Y V (aX [_] isAgg25 sizeOf25) ?_
    refine ox 14 Y Y (way Y V (dT (g:=gF) (k:=sg.length) (cap:=capF) (E0:=67) (zz:=3) (cs:=(bXt sg ds).flatMap cQ) isAgg67 sizeOf67 (aMv hlt4)) ?_)
    refine ox 16 Y Y (bD [S,W] Y Y V call24 Y (vJ _ S W l ms sg[ds.length].2 sg[ds.length].1 _ _ ar (bXt sg ds) gF capF hl hmN.1 J hmz J FY FY hfp sg.length (gO J) lf [] [] _ _ us iw 2 6 hiw V V J G0) Ba FQ FL ?_)
    rintro r5 s5 ⟨b5l,i5,l5,rfl,hm5,hi5,rfl⟩
    have hbm:=hm5
    rw [aAq sg ds hdm,hus,take_of_length_le J] at hbm
   rotate_left
   focus
    refine way Y V (dT (g:=gF) (k:=sg.length) (cap:=capF) (E0:=67) (zz:=3) (cs:=(bXt sg ds).flatMap cQ) isAgg67 sizeOf67 (aMv hlt4)) ?_
    refine t2 4 16 Y ?_ ?_
    focus
     refine way Y V (aX [_] isAgg25 sizeOf25) ?_
     refine ox 16 Y Y (bD [S,W] Y Y V call24 Y (vJ _ S W l ms sg[ds.length].2 sg[ds.length].1 _ _ ar (bXt sg ds) gF capF hl hmN.1 J hmz J FY FY hfp sg.length (gO J) lf [] [] _ _ us iw 2 6 hiw V V J G0) Ba FQ FL ?_)
     rintro r5 s5 ⟨b5l,i5,l5,rfl,hm5,hi5,rfl⟩
     have hbm:=hm5
     rw [aAq sg ds hdm,hus,take_of_length_le J] at hbm
    rotate_left
    refine (bD [S,W] Y Y V call24 Y (vJ _ S W l ms sg[ds.length].2 sg[ds.length].1 _ _ ar (bXt sg ds) gF capF hl hmN.1 J hmz J FY FY hfp sg.length (gO J) lf [] [] _ _ us iw 2 6 hiw V V J G0) Ba FQ FL ?_)
    rintro r5 s5 ⟨b5l,i5,l5,rfl,hm5,hi5,rfl⟩
    have hbm:=hm5
    rw [aAq sg ds hdm,hus,take_of_length_le J] at hbm
    refine ox 4 Y Y (way Y V (aX [_] isAgg25 sizeOf25) ?_)
  all_goals
   refine tx 17 Y (dH ds.length Y Y Y Y hlt4 runUnderlying25 sizeOf67) ?_
   refine tx 18 Y (qD 2 (0+ds.length*3+2) Y Y runUnderlying67 Y sizeOf65 V Y) ?_
   refine ox 19 Y Y (aO0 [_] Y Y Y Y Y sizeOf65 Y (rI hlt4 b5l).2 (rI hlt4 b5l).1 G0 (λhn=>cZl (r:=(⟨.slice (some ⟨gF,0,none⟩) sg.length capF,67,3,sg.length,(bXt sg ds).flatMap cQ⟩:bA)) hn Cq) ?_)
   refine ax (go 4 ?_)
   refine wyz Y (dU (k:=1)) (go 2 ?_)
   refine ⟨(ds.length+1,l5,i5,ds++[(⟨sg[ds.length].1,sg[ds.length].2,b5l⟩:bS)]),⟨by show ds.length+1 <= sg.length;omega,by show (ds++[(⟨sg[ds.length].1,sg[ds.length].2,b5l⟩:bS)]).length=ds.length+1;simp,by show (ds++[(⟨sg[ds.length].1,sg[ds.length].2,b5l⟩:bS)]).map bS.sig=sg.take (ds.length+1);rw [List.map_append,hdm,List.take_succ_eq_append_getElem hlt4];rfl,(λrest hr=>by rw [append_assoc];exact hbt _ (.cons hbm hr)),by show l5 <= 24;have:=hm5.le;omega,hi5⟩,by show sg.length-(ds.length+1)<sg.length-ds.length;omega,cQf (h2:=(.cons _ (.refl _))) Gi⟩
 refine wcp false Y FS (go 10 ?_)
 have hdl:ds.length=sg.length:=J
 have hmp:=aNr hmN hms hgN hgs hs1 hsg hdl hdm ⟨_,hbt⟩
 refine aAg [_] 3 Y Y ?_
 rw [aL3 hdl,←hdl]
 refine go 8 ?_
 exact ⟨.inr Y,_,⟨bx,rw⟩,aR Y (aO [_,_] Y Y isAgg27 sizeOf27 (bK Y Y)),aA (.cons _ (.cons _ (.cons _ (.refl _)))) (.cons _ (.refl _)),⟨⟨gs,ms,ds⟩,Y,hmp,Y⟩⟩
end
end Go.Proofs.YtjgeihmhppadaaaGreatDoor
