import Derived.Test.YtojinfngbbajgaaGreatDoorF5J
import Derived.Test.YtojinfngbbajgaaGreatDoorF33J
import Derived.Test.YtojinfngbbajgaaGreatDoorF9J
set_option linter.all false
set_option synthInstance.maxHeartbeats 1000000
set_option synthInstance.maxSize 1000000
set_option maxHeartbeats 8000000
set_option maxRecDepth 100000
namespace Go.Proofs.YtojinfngbbajgaaGreatDoor
open Go.Proofs.Tryz
open List (length_append length_cons length_nil mem_append mem_cons not_mem_nil append_assoc getElem_mem take_of_length_le)
section
open Go.RowKit
def oE{α:Type}(p:Nat -> α -> Prop)(l:List α):Prop:=∀k (h:k<l.length),p k l[k]
theorem oE.nil{α:Type}(p:Nat -> α -> Prop):oE p []:=fun k h=>absurd h (Nat.not_lt_zero _)
theorem oE.snoc{α:Type}{p:Nat -> α -> Prop}{l:List α}{x:α}(h:oE p l)(hx:p l.length x):oE p (l++[x]):=fun k hk=>by
 by_cases hl:k<l.length
 ·rw [List.getElem_append_left hl];exact h k hl
 have:k=l.length:=by simp at hk;omega
 subst this
 rw [List.getElem_append_right (Nat.le_refl _)];simpa using hx
def fnm(q:Nat):ByteArray:=if q=0 then bytes [109,97,105,110] else bytes [102,UInt8.ofNat (48+q)]
abbrev e0(s:ByteArray×List aS):ByteArray×List aS×AC:=(s.1,s.2,.val (.slice none 0 0))
def aRd(i:Nat)(s:ByteArray×List aS):Prop:=s.1=fnm i /\ (i=0 -> s.2=[]) /\ pM s.2
theorem aQ7{P:Program}{c:Code}{n:Nat}{T:List Nat}{ts:List (Nat×AT)}{Q:Exit -> AS -> Prop}{rw:List bA}{b:Nat}{E:TypeId}{cs cs':List AC}{v:Value}{E2:TypeId}{z k:Nat}{ds:List AC}(A:List Box){B:List Box}(i:Nat)(hi:cs[i]?=some (.val v))(hr:cs.set i (.sl k ds)=cs')(h:AWp P c ⟨n,T,⟨A++⟨b,E,cs'⟩::B,rw⟩,ts⟩ Q)(hz:0<z:=by decide):AWp P c ⟨n,T,⟨A++⟨b,E,cs⟩::B,⟨v,E2,z,k,ds⟩::rw⟩,ts⟩ Q:=by
 subst hr
 exact zU (vU (st:=⟨n,T,⟨A++⟨b,E,cs⟩::B,⟨v,E2,z,k,ds⟩::rw⟩,ts⟩) (aBg (r:=⟨v,E2,z,k,ds⟩) A i hi hz)) h
theorem aJp(fs:List (ByteArray×List aS×AC))(j:Nat)(h:j<fs.length):pk false 1 (fs.flatMap cQ) (0+j*3+1)=some (.c (.sl fs[j].2.1.length (fs[j].2.1.flatMap cP))):=by
 obtain ⟨h1,h2⟩:=flat_get cQ 3 (fun _=>rfl) fs j h
 unfold pk
 rw [if_neg (by decide),Nat.zero_add]
 have h3:((fs.flatMap cQ).drop (j*3))[1]?=(cQ fs[j])[1]?:=by rw [←h1,List.getElem?_take];rfl
 rw [List.getElem?_drop] at h3
 rw [h3];rfl
theorem aKv(fs:List (ByteArray×List aS×AC))(j:Nat)(h:j<fs.length)(c:AC):splice (fs.flatMap cQ) (0+j*3+2) [c]=(fs.set j (fs[j].1,fs[j].2.1,c)).flatMap cQ /\ 0+j*3+2+1 <= (fs.flatMap cQ).length:=by
 induction fs generalizing j with
 |nil=>simp at h
 |cons f fs ih=>
  cases j with
  |zero=>exact ⟨rfl,by rw [List.flatMap_cons,length_append];show 0+0*3+2+1 <= 3+_;omega⟩
  |succ j=>
   obtain ⟨h1,h2⟩:=ih j (by simpa using h)
   refine ⟨?_,by rw [List.flatMap_cons,length_append];show 0+(j+1)*3+2+1 <= 3+_;omega⟩
   rw [show 0+(j+1)*3+2=3+(0+j*3+2) by omega]
   have e:splice (cQ f++fs.flatMap cQ) (3+(0+j*3+2)) [c]=cQ f++splice (fs.flatMap cQ) (0+j*3+2) [c]:=by
    generalize 0+j*3+2=q
    generalize fs.flatMap cQ=t
    unfold splice cQ
    simp [Nat.add_comm 3 q,List.take_succ_cons]
    try (rw [show q+3+1=(q+1)+3 by omega];rfl)
   rw [List.flatMap_cons,e,h1];rfl
abbrev eB(f:bS):ByteArray×List aS×AC:=(f.name,f.params,.sl f.body.length (f.body.flatMap encS))
theorem aPl(ds:List bS):(ds.map eB).flatMap cQ=ds.flatMap fV:=by
 induction ds with
 |nil=>rfl
 |cons f ds ih=>rw [List.map_cons,List.flatMap_cons,List.flatMap_cons,ih];rfl
def bXt(sg:List Sig)(ds:List bS):List (ByteArray×List aS×AC):=ds.map eB++(sg.drop ds.length).map e0
theorem gO{sg:List Sig}{ds:List bS}(h:ds.length <= sg.length):(bXt sg ds).length=sg.length:=by
 unfold bXt;rw [length_append,List.length_map,List.length_map,List.length_drop];omega
theorem zF{sg:List Sig}{ds:List bS}(h:ds.length<sg.length)(h2:ds.length<(bXt sg ds).length):(bXt sg ds)[ds.length]=e0 sg[ds.length]:=by
 have e:(bXt sg ds)[ds.length]?=some (e0 sg[ds.length]):=by
  unfold bXt
  rw [List.getElem?_append_right (by simp)];simp [List.getElem?_eq_getElem h]
 rw [List.getElem?_eq_getElem h2] at e
 exact Option.some.inj e
theorem aMm{sg:List Sig}{ds:List bS}(h:ds.length<sg.length)(b:List aJ):(bXt sg ds).set ds.length (sg[ds.length].1,sg[ds.length].2,.sl b.length (b.flatMap encS))=bXt sg (ds++[⟨sg[ds.length].1,sg[ds.length].2,b⟩]):=by
 unfold bXt
 rw [List.set_append_right _ _ (by simp),List.length_map,Nat.sub_self,List.drop_eq_getElem_cons h,List.map_cons,List.set_cons_zero]
 simp
theorem aMv{sg:List Sig}{ds:List bS}(h:ds.length<sg.length):pk true 3 ((bXt sg ds).flatMap cQ) (0+ds.length*3)=some (.agg [.val (.string sg[ds.length].1),.sl sg[ds.length].2.length (sg[ds.length].2.flatMap cP),.val (.slice none 0 0)]):=by
 have h2:ds.length<(bXt sg ds).length:=by rw [gO (by omega)];exact h
 rw [nG (bXt sg ds) ds.length h2,zF h h2]
theorem aGt{sg:List Sig}{ds:List bS}(h:ds.length<sg.length):pk false 1 ((bXt sg ds).flatMap cQ) (0+ds.length*3+1)=some (.c (.sl sg[ds.length].2.length (sg[ds.length].2.flatMap cP))):=by
 have h2:ds.length<(bXt sg ds).length:=by rw [gO (by omega)];exact h
 rw [aJp (bXt sg ds) ds.length h2,zF h h2]
theorem rI{sg:List Sig}{ds:List bS}(h:ds.length<sg.length)(b:List aJ):splice ((bXt sg ds).flatMap cQ) (0+ds.length*3+2) [.sl b.length (b.flatMap encS)]=(bXt sg (ds++[⟨sg[ds.length].1,sg[ds.length].2,b⟩])).flatMap cQ /\ 0+ds.length*3+2+1 <= ((bXt sg ds).flatMap cQ).length:=by
 have h2:ds.length<(bXt sg ds).length:=by rw [gO (by omega)];exact h
 obtain ⟨e1,e2⟩:=aKv (bXt sg ds) ds.length h2 (.sl b.length (b.flatMap encS))
 refine ⟨?_,e2⟩
 rw [e1,zF h h2,←aMm h b]
theorem aAq(sg:List Sig)(ds:List bS)(h:ds.map bS.sig=sg.take ds.length):((bXt sg ds).map fun f=>(f.1,f.2.1))=sg:=by
 have e1:((ds.map eB).map fun f=>(f.1,f.2.1))=ds.map bS.sig:=by rw [List.map_map];rfl
 have e2:(((sg.drop ds.length).map e0).map fun f=>(f.1,f.2.1))=sg.drop ds.length:=by rw [List.map_map];exact List.map_id _
 unfold bXt
 rw [List.map_append,e1,e2,h,List.take_append_drop]
def aA4(gs:List aI)(ps:List aS):List ByteArray:=gs.map aI.name++(ps.filter fun x=>!x.mutex).map aS.name
theorem aBt(gs:List aI)(ps:List aS)(j:Nat)(h:j<ps.length):aA4 gs (ps.take (j+1))=aA4 gs (ps.take j)++(if ps[j].mutex=true then [] else [ps[j].name]):=by
 unfold aA4
 rw [List.take_succ_eq_append_getElem h,List.filter_append,List.map_append,append_assoc]
 cases hm:ps[j].mutex<;>simp [hm]
theorem aP2{ms:List cL}(h:oE aDx ms):∀m,m∈ms -> m.size <= 1000:=fun m hm=>by
 obtain ⟨k,hk,rfl⟩:=List.getElem_of_mem hm
 rcases (h k hk).2 with h1|h1<;>omega
theorem aQm{sg:List Sig}{ds:List bS}(h:oE aRd sg)(hd:ds.map bS.sig=sg.take ds.length):∀f,f∈bXt sg ds -> f.2.1.length <= 1000:=fun f hf=>by
 have h1:(f.1,f.2.1)∈sg:=by rw [←aAq sg ds hd];exact List.mem_map.2 ⟨f,hf,rfl⟩
 obtain ⟨k,hk,e⟩:=List.getElem_of_mem h1
 have h2:=(h k hk).2.2.1
 rw [e] at h2
 exact Nat.le_trans h2 (by decide)
def aPv(ms:List cL)(sg:List Sig)(gs:List aI)(lf:Nat)(ds:List bS):Prop:=∀rest,kZ ms sg gs lf rest -> kZ ms sg gs 24 (ds++rest)
theorem qD{P:Program}{U:List Nat}{o:Oper}{st:AS}(off q:Nat){t ft:TypeId}{x:Operand}{fs:Array Field}{f z b p:Nat}(ho:o.op=.fieldAddr t x f)(hx:evA st x=some (.c (.val (.pointer (some ⟨b,p,none⟩)))))(hu:∀w,(underlying t).run P w=.ok (.struct fs) w)(hf:fld fs f=some (off,ft))(hS:∀w,(sizeOf ft).run P w=.ok z w)(hz:z≠0)(hq:p+off=q):AY P U o st (.c (.val (.pointer (some ⟨b,q,none⟩)))):=uX off q ho hx hu hf hS hz hq
theorem aL3{sg:List Sig}{ds:List bS}(h:ds.length=sg.length):(bXt sg ds).flatMap cQ=ds.flatMap fV:=by
 unfold bXt
 rw [h,List.drop_of_length_le (Nat.le_refl _),List.map_nil,List.append_nil,aPl]
theorem aNr{ms:List cL}{gs:List aI}{sg:List Sig}{ds:List bS}(hmN:1 <= ms.length /\ ms.length <= 4)(hms:oE aDx ms)(hgN:gs.length <= 2)(hgs:oE aDa gs)(hs1:1 <= sg.length /\ sg.length <= 4)(hsg:oE aRd sg)(hd:ds.length=sg.length)(hdm:ds.map bS.sig=sg.take ds.length)(hbt:∃lf,aPv ms sg gs lf ds):sY ⟨gs,ms,ds⟩:=by
 have hds:ds.map bS.sig=sg:=by rw [hdm,hd,List.take_length]
 obtain ⟨lf,hbt⟩:=hbt
 refine ⟨⟨hmN.1,hmN.2,hms⟩,⟨hgN,hgs⟩,⟨by show 1 <= ds.length;omega,by show ds.length <= 4;omega,fun k hk=>?_⟩,?_⟩
 ·have hk2:k<sg.length:=by rw [←hd];exact hk
  have e:sg[k]=ds[k].sig:=by simp only [←hds];simp
  obtain ⟨h1,h2,h3⟩:=hsg k hk2
  rw [e] at h1 h2 h3
  refine ⟨fun h0=>⟨by rw [show ds[k].name=_ from h1,fnm,if_pos h0],h2 h0⟩,fun h0=>by rw [show ds[k].name=_ from h1,fnm,if_neg (by omega)],h3⟩
 have:=hbt [] .nil
 rw [List.append_nil] at this
 show kZ ms (ds.map bS.sig) gs 24 ds
 rw [hds];exact this
theorem aPr(q:Nat):bC .eql ((q:Nat):Int) 0=some (decide (q=0)):=by
 cases q with
 |zero=>rfl
 |succ n=>show some (((n+1:Nat):Int) == 0)=_;rw [show (((n+1:Nat):Int) == 0)=false from beq_eq_false_iff_ne.2 (by omega)];rfl
theorem aHs(l0:List Int)(hl0:l0.length <= 9223372036854775807)(s:Sto):aL prog 20 [.c (.sl l0.length (l0.map fun i=>.val (.int .i64 i)))] [] s (fun r s'=>∃p,r=.agg (jV p) /\ sY p /\ s'=s):=by
 obtain ⟨bx,rw⟩:=s
 refine acB func20 rfl ?_
 show AWp prog _ ⟨264,[],⟨bx,rw⟩,[(0,.c (.sl l0.length (l0.map fun i=>.val (.int .i64 i))))]⟩ _
 refine go 8 fun b1=>?_
 refine wo rfl (bD [] rfl rfl (by decide) call44 rfl (aTv l0 400 _) bDl bDl (fun _=>bDl) ?_)
 rintro rc sc ⟨rfl,rfl⟩
 obtain ⟨l,hlc⟩:∃x,x=l0.take 400:=⟨_,rfl⟩
 rw [←hlc]
 have hl:l.length <= 1000000:=by rw [hlc,List.length_take];omega
 clear hlc
 have hi0:0 <= l.length:=Nat.zero_le _
 refine go 9 fun S W=>?_
 refine aSh ?_
 refine go 5 ?_
 refine wo rfl (bD [S] rfl rfl (by decide) call45 rfl (eC [] _ _ _ l 0 _ hi0 hl (by decide) (by decide)) (bDj (by simp)) (bDj (by simp [Sto.bl])) (fun _=>bDj (by simp)) ?_)
 rintro r1 s1 ⟨z1,i1,rfl,hy1,hi1,rfl⟩
 obtain ⟨ar,har⟩:∃b,bC .eql ((z1:Nat):Int) 1=some b:=⟨_,rfl⟩
 refine wyz rfl (bO ar rfl rfl rfl har) (go 12 ?_)
 refine wo rfl (bD [S] rfl rfl (by decide) call45 rfl (eC [] _ _ _ l i1 _ hi1 hl (by decide) (by decide)) (bDj (by simp)) (bDj (by simp [Sto.bl])) (fun _=>bDj (by simp)) ?_)
 rintro r2 s2 ⟨z2,i2,rfl,hy2,hi2,rfl⟩
 refine wyz rfl (dU (m:=1) rfl rfl rfl rfl (by omega)) (go 5 ?_)
 refine qR 70 3 ?_
 refine fM (fun g:Nat×Value×List cL×Nat=>(⟨264,aY g.2.1++[W,S,b1],⟨⟨S,102,[.sl l.length (l.map fun i=>.val (.int .i64 i)),nC g.2.2.2]⟩::⟨W,104,[.val (.pointer (some ⟨S,0,none⟩)),.val (.slice none 0 0),.val g.2.1,.val (.slice none 0 0),.val (.int .i64 24),.val (.bool ar)]⟩::⟨b1,30,[.val (.slice none 0 0),.val (.slice none 0 0),.val (.slice none 0 0)]⟩::bx,⟨g.2.1,70,3,g.2.2.1.length,g.2.2.1.flatMap bT⟩::rw⟩,[(4,nI g.1),(5,nI (1+z2)),(3,pP W),(2,pP b1)]⟩:AS)) (fun g=>g.1 <= (1+z2) /\ g.2.2.1.length=g.1 /\ oE aDx g.2.2.1 /\ g.2.2.2 <= l.length) (fun g=>(1+z2)-g.1) (0,.slice none 0 0,[],i2) (cA (.refl _) (.refl _) (by intro x hx;simpa [aY,Value.ownBlock] using hx) (sA rfl)) ⟨Nat.zero_le _,rfl,.nil _,hi2⟩ ?_
 rintro ⟨k,vM,ms,ik⟩ ⟨hk,hmk,hms,hik⟩
 dsimp only at hk hmk hms hik
 show AWp prog _ (⟨264,aY vM++[W,S,b1],⟨⟨S,102,[.sl l.length (l.map fun i=>.val (.int .i64 i)),nC ik]⟩::⟨W,104,[.val (.pointer (some ⟨S,0,none⟩)),.val (.slice none 0 0),.val vM,.val (.slice none 0 0),.val (.int .i64 24),.val (.bool ar)]⟩::⟨b1,30,[.val (.slice none 0 0),.val (.slice none 0 0),.val (.slice none 0 0)]⟩::bx,⟨vM,70,3,ms.length,ms.flatMap bT⟩::rw⟩,[(4,nI k),(5,nI (1+z2)),(3,pP W),(2,pP b1)]⟩:AS) _
 refine go 5 ?_
 by_cases hlt:k<(1+z2)
 ·refine wcp true rfl (by first|exact eU (by omega)|(simp [bC]<;>omega)) (go 10 ?_)
  refine wyz rfl (dU (m:=97) rfl rfl rfl rfl (by omega)) ?_
  refine wyz rfl (aBf rfl rfl (by omega) rfl rfl rfl) ?_
  refine wo rfl (bDk zb6 rfl (.cons rfl .nil) (r:=iF [UInt8.ofNat (97+k)]) rfl ?_)
  refine wyz rfl (hX rfl rfl rfl) (go 12 fun b2=>?_)
  refine wo rfl (bD [S] rfl rfl (by decide) call45 rfl (eC [_] _ _ _ l ik _ hik hl (by decide) (by decide)) (bDj (by simp)) (bDj (by simp [Sto.bl])) (fun _=>bDj (by simp)) ?_)
  rintro r3 s3 ⟨z3,i3,rfl,hy3,hi3,rfl⟩
  refine go 5 ?_
  by_cases h1:z3=1
  ·refine wcp true rfl (by first|exact eU (by omega)|(simp [bC]<;>omega)) (go 10 ?_)
   refine dx [b2,S,b1] (tz [(0,true),(1,true),(2,true),(3,true),(4,true),(6,true)] 7 (go 7 ?_))
   refine t2 5 7 rfl ?_ ?_
   ·refine way rfl (by decide) (aX [_,_] rfl rfl rfl isAgg27 sizeOf27 rfl (fun _ h=>by cases h)) ?_
    refine ox 7 rfl rfl (bDk zb8 rfl (.cons rfl .nil) (aV bT bT ⟨(bytes [UInt8.ofNat (97+k)]),true,0⟩ rfl rfl rfl) ?_)
    refine ox 8 rfl rfl (bDm [] bWh rfl rfl (by decide) (by unfold maxLen;omega) (by omega) (@length_append _ ms [⟨(bytes [UInt8.ofNat (97+k)]),true,0⟩]).symm (fun hn b hb=>qW hn hb) (fun b hb=>by simp [hb]) (List.flatMap_append (f:=bT)).symm fun v4=>?_)
    refine tz [(9,true),(10,true),(11,true),(12,false)] 0 (go 5 ?_)
    refine ax (go 4 ?_)
    refine wyz rfl (dU (k:=1) rfl rfl rfl rfl (by omega)) (go 2 ?_)
    refine ⟨(k+1,v4,ms++[⟨(bytes [UInt8.ofNat (97+k)]),true,0⟩],i3),⟨by show k+1 <= (1+z2);omega,by show List.length (ms++[⟨(bytes [UInt8.ofNat (97+k)]),true,0⟩])=k+1;simp only [length_append,length_cons,length_nil];omega,hms.snoc (by rw [hmk];exact ⟨rfl,.inr ⟨rfl,rfl⟩⟩),hi3⟩,by show (1+z2)-(k+1)<(1+z2)-k;omega,cA (.cons _ (.refl _)) (.refl _) (by grind) (sA rfl)⟩
   refine (bDk zb8 rfl (.cons rfl .nil) (aV bT bT ⟨(bytes [UInt8.ofNat (97+k)]),true,0⟩ rfl rfl rfl) ?_)
   refine ox 5 rfl rfl (way rfl (by decide) (aX [_,_] rfl rfl rfl isAgg27 sizeOf27 rfl (fun _ h=>by cases h)) ?_)
   refine ox 8 rfl rfl (bDm [] bWh rfl rfl (by decide) (by unfold maxLen;omega) (by omega) (@length_append _ ms [⟨(bytes [UInt8.ofNat (97+k)]),true,0⟩]).symm (fun hn b hb=>qW hn hb) (fun b hb=>by simp [hb]) (List.flatMap_append (f:=bT)).symm fun v4=>?_)
   refine tz [(9,true),(10,true),(11,true),(12,false)] 0 (go 5 ?_)
   refine ax (go 4 ?_)
   refine wyz rfl (dU (k:=1) rfl rfl rfl rfl (by omega)) (go 2 ?_)
   refine ⟨(k+1,v4,ms++[⟨(bytes [UInt8.ofNat (97+k)]),true,0⟩],i3),⟨by show k+1 <= (1+z2);omega,by show List.length (ms++[⟨(bytes [UInt8.ofNat (97+k)]),true,0⟩])=k+1;simp only [length_append,length_cons,length_nil];omega,hms.snoc (by rw [hmk];exact ⟨rfl,.inr ⟨rfl,rfl⟩⟩),hi3⟩,by show (1+z2)-(k+1)<(1+z2)-k;omega,cA (.cons _ (.refl _)) (.refl _) (by grind) (sA rfl)⟩
  refine wcp false rfl (by first|exact eE (by omega)|(simp [bC]<;>omega)) (go 6 ?_)
  by_cases h2:z3=2
  ·refine wcp true rfl (by first|exact eU (by omega)|(simp [bC]<;>omega)) (go 9 ?_)
   refine wo rfl (bD [S] rfl rfl (by decide) call45 rfl (eC [_] _ _ _ l i3 _ hi3 hl (by decide) (by decide)) (bDj (by simp)) (bDj (by simp [Sto.bl])) (fun _=>bDj (by simp)) ?_)
   rintro r4 s4 ⟨z4,i4,rfl,hy4,hi4,rfl⟩
   refine wyz rfl (dU (m:=1) rfl rfl rfl rfl (by omega)) (go 5 ?_)
   refine dx [b2,S,b1] (tz [(0,true),(1,true),(2,true),(3,true),(4,true),(6,true)] 7 (go 7 ?_))
   refine t2 5 7 rfl ?_ ?_
   ·refine way rfl (by decide) (aX [_,_] rfl rfl rfl isAgg27 sizeOf27 rfl (fun _ h=>by cases h)) ?_
    refine ox 7 rfl rfl (bDk zb8 rfl (.cons rfl .nil) (aV bT bT ⟨(bytes [UInt8.ofNat (97+k)]),false,((1+z4:Nat):Int)⟩ rfl rfl rfl) ?_)
    refine ox 8 rfl rfl (bDm [] bWh rfl rfl (by decide) (by unfold maxLen;omega) (by omega) (@length_append _ ms [⟨(bytes [UInt8.ofNat (97+k)]),false,((1+z4:Nat):Int)⟩]).symm (fun hn b hb=>qW hn hb) (fun b hb=>by simp [hb]) (List.flatMap_append (f:=bT)).symm fun v5=>?_)
    refine tz [(9,true),(10,true),(11,true),(12,false)] 0 (go 5 ?_)
    refine ax (go 4 ?_)
    refine wyz rfl (dU (k:=1) rfl rfl rfl rfl (by omega)) (go 2 ?_)
    refine ⟨(k+1,v5,ms++[⟨(bytes [UInt8.ofNat (97+k)]),false,((1+z4:Nat):Int)⟩],i4),⟨by show k+1 <= (1+z2);omega,by show List.length (ms++[⟨(bytes [UInt8.ofNat (97+k)]),false,((1+z4:Nat):Int)⟩])=k+1;simp only [length_append,length_cons,length_nil];omega,hms.snoc (by rw [hmk];exact ⟨rfl,.inl ⟨rfl,by show (0:Int) <= ((1+z4:Nat):Int);omega,by show ((1+z4:Nat):Int) <= 3;omega⟩⟩),hi4⟩,by show (1+z2)-(k+1)<(1+z2)-k;omega,cA (.cons _ (.refl _)) (.refl _) (by grind) (sA rfl)⟩
   refine (bDk zb8 rfl (.cons rfl .nil) (aV bT bT ⟨(bytes [UInt8.ofNat (97+k)]),false,((1+z4:Nat):Int)⟩ rfl rfl rfl) ?_)
   refine ox 5 rfl rfl (way rfl (by decide) (aX [_,_] rfl rfl rfl isAgg27 sizeOf27 rfl (fun _ h=>by cases h)) ?_)
   refine ox 8 rfl rfl (bDm [] bWh rfl rfl (by decide) (by unfold maxLen;omega) (by omega) (@length_append _ ms [⟨(bytes [UInt8.ofNat (97+k)]),false,((1+z4:Nat):Int)⟩]).symm (fun hn b hb=>qW hn hb) (fun b hb=>by simp [hb]) (List.flatMap_append (f:=bT)).symm fun v5=>?_)
   refine tz [(9,true),(10,true),(11,true),(12,false)] 0 (go 5 ?_)
   refine ax (go 4 ?_)
   refine wyz rfl (dU (k:=1) rfl rfl rfl rfl (by omega)) (go 2 ?_)
   refine ⟨(k+1,v5,ms++[⟨(bytes [UInt8.ofNat (97+k)]),false,((1+z4:Nat):Int)⟩],i4),⟨by show k+1 <= (1+z2);omega,by show List.length (ms++[⟨(bytes [UInt8.ofNat (97+k)]),false,((1+z4:Nat):Int)⟩])=k+1;simp only [length_append,length_cons,length_nil];omega,hms.snoc (by rw [hmk];exact ⟨rfl,.inl ⟨rfl,by show (0:Int) <= ((1+z4:Nat):Int);omega,by show ((1+z4:Nat):Int) <= 3;omega⟩⟩),hi4⟩,by show (1+z2)-(k+1)<(1+z2)-k;omega,cA (.cons _ (.refl _)) (.refl _) (by grind) (sA rfl)⟩
  refine wcp false rfl (by first|exact eE (by omega)|(simp [bC]<;>omega)) (go 7 ?_)
  refine dx [b2,S,b1] (tz [(0,true),(1,true),(2,true),(3,true),(4,true),(6,true)] 7 (go 7 ?_))
  refine t2 5 7 rfl ?_ ?_
  ·refine way rfl (by decide) (aX [_,_] rfl rfl rfl isAgg27 sizeOf27 rfl (fun _ h=>by cases h)) ?_
   refine ox 7 rfl rfl (bDk zb8 rfl (.cons rfl .nil) (aV bT bT ⟨(bytes [UInt8.ofNat (97+k)]),false,0⟩ rfl rfl rfl) ?_)
   refine ox 8 rfl rfl (bDm [] bWh rfl rfl (by decide) (by unfold maxLen;omega) (by omega) (@length_append _ ms [⟨(bytes [UInt8.ofNat (97+k)]),false,0⟩]).symm (fun hn b hb=>qW hn hb) (fun b hb=>by simp [hb]) (List.flatMap_append (f:=bT)).symm fun v4=>?_)
   refine tz [(9,true),(10,true),(11,true),(12,false)] 0 (go 5 ?_)
   refine ax (go 4 ?_)
   refine wyz rfl (dU (k:=1) rfl rfl rfl rfl (by omega)) (go 2 ?_)
   refine ⟨(k+1,v4,ms++[⟨(bytes [UInt8.ofNat (97+k)]),false,0⟩],i3),⟨by show k+1 <= (1+z2);omega,by show List.length (ms++[⟨(bytes [UInt8.ofNat (97+k)]),false,0⟩])=k+1;simp only [length_append,length_cons,length_nil];omega,hms.snoc (by rw [hmk];exact ⟨rfl,.inl ⟨rfl,by show (0:Int) <= 0;decide,by show (0:Int) <= 3;decide⟩⟩),hi3⟩,by show (1+z2)-(k+1)<(1+z2)-k;omega,cA (.cons _ (.refl _)) (.refl _) (by grind) (sA rfl)⟩
  refine (bDk zb8 rfl (.cons rfl .nil) (aV bT bT ⟨(bytes [UInt8.ofNat (97+k)]),false,0⟩ rfl rfl rfl) ?_)
  refine ox 5 rfl rfl (way rfl (by decide) (aX [_,_] rfl rfl rfl isAgg27 sizeOf27 rfl (fun _ h=>by cases h)) ?_)
  refine ox 8 rfl rfl (bDm [] bWh rfl rfl (by decide) (by unfold maxLen;omega) (by omega) (@length_append _ ms [⟨(bytes [UInt8.ofNat (97+k)]),false,0⟩]).symm (fun hn b hb=>qW hn hb) (fun b hb=>by simp [hb]) (List.flatMap_append (f:=bT)).symm fun v4=>?_)
  refine tz [(9,true),(10,true),(11,true),(12,false)] 0 (go 5 ?_)
  refine ax (go 4 ?_)
  refine wyz rfl (dU (k:=1) rfl rfl rfl rfl (by omega)) (go 2 ?_)
  refine ⟨(k+1,v4,ms++[⟨(bytes [UInt8.ofNat (97+k)]),false,0⟩],i3),⟨by show k+1 <= (1+z2);omega,by show List.length (ms++[⟨(bytes [UInt8.ofNat (97+k)]),false,0⟩])=k+1;simp only [length_append,length_cons,length_nil];omega,hms.snoc (by rw [hmk];exact ⟨rfl,.inl ⟨rfl,by show (0:Int) <= 0;decide,by show (0:Int) <= 3;decide⟩⟩),hi3⟩,by show (1+z2)-(k+1)<(1+z2)-k;omega,cA (.cons _ (.refl _)) (.refl _) (by grind) (sA rfl)⟩
 refine wcp false rfl (by first|exact eE (by omega)|(simp [bC]<;>omega)) (go 10 ?_)
 have hmN:1 <= ms.length /\ ms.length <= 4:=by omega
 refine aAg [_] 2 rfl rfl ?_
 refine go 10 ?_
 refine wo rfl (bD [S] rfl rfl (by decide) call45 rfl (eC [] _ _ _ l ik _ hik hl (by decide) (by decide)) (bDj (by simp)) (bDj (by simp [Sto.bl])) (fun _=>bDj (by simp)) ?_)
 rintro r3 s3 ⟨z3,i3,rfl,hy3,hi3,rfl⟩
 refine go 5 ?_
 refine qR 9 1 ?_
 refine qR 86 2 ?_
 refine fM (fun g:Nat×Value×Value×List aI×Nat=>(⟨264,aY g.2.1++(aY g.2.2.1++[W,S,b1]),⟨⟨S,102,[.sl l.length (l.map fun i=>.val (.int .i64 i)),nC g.2.2.2.2]⟩::⟨W,104,[.val (.pointer (some ⟨S,0,none⟩)),.val g.2.1,(.sl ms.length (ms.flatMap bT)),.val (.slice none 0 0),.val (.int .i64 24),.val (.bool ar)]⟩::⟨b1,30,[.val (.slice none 0 0),.val (.slice none 0 0),.val (.slice none 0 0)]⟩::bx,⟨g.2.1,86,2,g.2.2.2.1.length,g.2.2.2.1.flatMap dB⟩::⟨g.2.2.1,9,1,g.2.2.2.1.length,bP (g.2.2.2.1.map aI.name)⟩::rw⟩,[(8,nI g.1),(9,nI z3),(7,.c (.val g.2.2.1)),(3,pP W),(2,pP b1)]⟩:AS)) (fun g=>g.1 <= z3 /\ g.2.2.2.1.length=g.1 /\ oE aDa g.2.2.2.1 /\ g.2.2.2.2 <= l.length) (fun g=>z3-g.1) (0,.slice none 0 0,.slice none 0 0,[],i3) (cA (.refl _) (.refl _) (by intro x hx;simp [aY,Value.ownBlock] at hx⊢;rcases hx with h|h|h<;>simp [h]) (sA rfl)) ⟨Nat.zero_le _,rfl,.nil _,hi3⟩ ?_
 clear hik hk hmk
 rintro ⟨k,vG,vv,gs,ik⟩ ⟨hk,hgk,hgs,hik⟩
 dsimp only at hk hgk hgs hik
 show AWp prog _ (⟨264,aY vG++(aY vv++[W,S,b1]),⟨⟨S,102,[.sl l.length (l.map fun i=>.val (.int .i64 i)),nC ik]⟩::⟨W,104,[.val (.pointer (some ⟨S,0,none⟩)),.val vG,(.sl ms.length (ms.flatMap bT)),.val (.slice none 0 0),.val (.int .i64 24),.val (.bool ar)]⟩::⟨b1,30,[.val (.slice none 0 0),.val (.slice none 0 0),.val (.slice none 0 0)]⟩::bx,⟨vG,86,2,gs.length,gs.flatMap dB⟩::⟨vv,9,1,gs.length,bP (gs.map aI.name)⟩::rw⟩,[(8,nI k),(9,nI z3),(7,.c (.val vv)),(3,pP W),(2,pP b1)]⟩:AS) _
 refine go 5 ?_
 by_cases hlt2:k<z3
 ·refine wcp true rfl (by first|exact eU (by omega)|(simp [bC]<;>omega)) (go 8 ?_)
  refine aCq (fun g:Nat×Nat×Nat=>(⟨264,g.1::aY vG++(aY vv++[W,S,b1]),⟨⟨g.1,86,[.val (.string (bytes [103,UInt8.ofNat (48+k)])),.val (.int .i64 (((g.2.1:Nat):Int)-2))]⟩::⟨S,102,[.sl l.length (l.map fun i=>.val (.int .i64 i)),nC g.2.2]⟩::⟨W,104,[.val (.pointer (some ⟨S,0,none⟩)),.val vG,(.sl ms.length (ms.flatMap bT)),.val (.slice none 0 0),.val (.int .i64 24),.val (.bool ar)]⟩::⟨b1,30,[.val (.slice none 0 0),.val (.slice none 0 0),.val (.slice none 0 0)]⟩::bx,⟨vG,86,2,gs.length,gs.flatMap dB⟩::⟨vv,9,1,gs.length,bP (gs.map aI.name)⟩::rw⟩,[(10,.c (.val (.pointer (some ⟨g.1,0,none⟩)))),(8,nI k),(9,nI z3),(7,.c (.val vv)),(3,pP W),(2,pP b1)]⟩:AS)) (fun g=>g.2.1<5 /\ g.2.2 <= l.length) ?_ ?_
  ·refine dx [W,b1] (tz [(0,true)] 14 (go 2 ?_))
   refine tx 1 rfl (dU (m:=48) rfl rfl rfl rfl (by omega)) ?_
   refine tx 2 rfl (aBf rfl rfl (by omega) rfl rfl rfl) (tz [(6,true),(7,true),(8,true),(9,true)] 8 (go 5 ?_))
   refine three 3 10 13 (by kernel_rfl) rfl rfl rfl rfl rfl rfl ?_ ?_ ?_
   ·refine (bDk zb6 rfl (.cons rfl .nil) (r:=iF [UInt8.ofNat (48+k)]) rfl ?_)
    refine tx 4 rfl (hX rfl rfl rfl) ?_
    refine tx 5 rfl (lB (c:=103) (d:=UInt8.ofNat (48+k)) rfl rfl rfl rfl rfl rfl) ?_
    refine t2 10 13 rfl ?_ ?_
    ·refine (bD [S] rfl rfl (by decide) call45 rfl (eC [] _ _ _ l ik _ hik hl (by decide) (by decide)) (by intro b hb;simp at hb;subst hb;simp) (by intro b hb;simp at hb;subst hb;simp [Sto.bl]) (fun hn b hb=>by simp at hb;subst hb<;>exact jJ hn) ?_)
     rintro r4 s4 ⟨z4,i4,rfl,hy4,hi4,rfl⟩
     refine tx 11 rfl (qC rfl rfl rfl (by omega) (by omega)) (tz [(12,true),(13,false),(14,false)] 0 (go 4 fun b3=>?_))
     refine ax ?_
     exact ⟨rfl,(b3,z4,i4),⟨by show z4<5;omega,hi4⟩,cA (.refl _) (.refl _) (fun _ h=>h) (sA rfl)⟩
    refine (jK rfl rfl (by decide) zeroValue86 rfl fun b4=>?_)
    refine ox 10 rfl rfl (bD [S] rfl rfl (by decide) call45 rfl (eC [_] _ _ _ l ik _ hik hl (by decide) (by decide)) (by intro b hb;simp at hb;subst hb;simp) (by intro b hb;simp at hb;subst hb;simp [Sto.bl]) (fun hn b hb=>by simp at hb;subst hb<;>exact jJ hn) ?_)
    rintro r4 s4 ⟨z4,i4,rfl,hy4,hi4,rfl⟩
    refine tx 11 rfl (qC rfl rfl rfl (by omega) (by omega)) (tz [(12,true),(14,false)] 0 (go 3 ?_))
    refine ax ?_
    exact ⟨rfl,(b4,z4,i4),⟨by show z4<5;omega,hi4⟩,cA (.refl _) (.refl _) (fun _ h=>h) (sA rfl)⟩
   ·refine (bD [S] rfl rfl (by decide) call45 rfl (eC [] _ _ _ l ik _ hik hl (by decide) (by decide)) (by intro b hb;simp at hb;subst hb;simp) (by intro b hb;simp at hb;subst hb;simp [Sto.bl]) (fun hn b hb=>by simp at hb;subst hb<;>exact jJ hn) ?_)
    rintro r4 s4 ⟨z4,i4,rfl,hy4,hi4,rfl⟩
    refine tx 11 rfl (qC rfl rfl rfl (by omega) (by omega)) ?_
    refine t2 3 13 rfl ?_ ?_
    ·refine (bDk zb6 rfl (.cons rfl .nil) (r:=iF [UInt8.ofNat (48+k)]) rfl ?_)
     refine tx 4 rfl (hX rfl rfl rfl) ?_
     refine tx 5 rfl (lB (c:=103) (d:=UInt8.ofNat (48+k)) rfl rfl rfl rfl rfl rfl) (tz [(12,true),(13,false),(14,false)] 0 (go 4 fun b5=>?_))
     refine ax ?_
     exact ⟨rfl,(b5,z4,i4),⟨by show z4<5;omega,hi4⟩,cA (.refl _) (.refl _) (fun _ h=>h) (sA rfl)⟩
    refine (jK rfl rfl (by decide) zeroValue86 rfl fun b6=>?_)
    refine ox 3 rfl rfl (bDk zb6 rfl (.cons rfl .nil) (r:=iF [UInt8.ofNat (48+k)]) rfl ?_)
    refine tx 4 rfl (hX rfl rfl rfl) ?_
    refine tx 5 rfl (lB (c:=103) (d:=UInt8.ofNat (48+k)) rfl rfl rfl rfl rfl rfl) (tz [(12,true),(14,false)] 0 (go 3 ?_))
    refine ax ?_
    exact ⟨rfl,(b6,z4,i4),⟨by show z4<5;omega,hi4⟩,cA (.refl _) (.refl _) (fun _ h=>h) (sA rfl)⟩
   refine (jK rfl rfl (by decide) zeroValue86 rfl fun b7=>?_)
   refine t2 3 10 rfl ?_ ?_
   ·refine (bDk zb6 rfl (.cons rfl .nil) (r:=iF [UInt8.ofNat (48+k)]) rfl ?_)
    refine tx 4 rfl (hX rfl rfl rfl) ?_
    refine tx 5 rfl (lB (c:=103) (d:=UInt8.ofNat (48+k)) rfl rfl rfl rfl rfl rfl) ?_
    refine ox 10 rfl rfl (bD [S] rfl rfl (by decide) call45 rfl (eC [_] _ _ _ l ik _ hik hl (by decide) (by decide)) (by intro b hb;simp at hb;subst hb;simp) (by intro b hb;simp at hb;subst hb;simp [Sto.bl]) (fun hn b hb=>by simp at hb;subst hb<;>exact jJ hn) ?_)
    rintro r4 s4 ⟨z4,i4,rfl,hy4,hi4,rfl⟩
    refine tx 11 rfl (qC rfl rfl rfl (by omega) (by omega)) (tz [(12,true),(14,false)] 0 (go 3 ?_))
    refine ax ?_
    exact ⟨rfl,(b7,z4,i4),⟨by show z4<5;omega,hi4⟩,cA (.refl _) (.refl _) (fun _ h=>h) (sA rfl)⟩
   refine (bD [S] rfl rfl (by decide) call45 rfl (eC [_] _ _ _ l ik _ hik hl (by decide) (by decide)) (by intro b hb;simp at hb;subst hb;simp) (by intro b hb;simp at hb;subst hb;simp [Sto.bl]) (fun hn b hb=>by simp at hb;subst hb<;>exact jJ hn) ?_)
   rintro r4 s4 ⟨z4,i4,rfl,hy4,hi4,rfl⟩
   refine tx 11 rfl (qC rfl rfl rfl (by omega) (by omega)) ?_
   refine ox 3 rfl rfl (bDk zb6 rfl (.cons rfl .nil) (r:=iF [UInt8.ofNat (48+k)]) rfl ?_)
   refine tx 4 rfl (hX rfl rfl rfl) ?_
   refine tx 5 rfl (lB (c:=103) (d:=UInt8.ofNat (48+k)) rfl rfl rfl rfl rfl rfl) (tz [(12,true),(14,false)] 0 (go 3 ?_))
   refine ax ?_
   exact ⟨rfl,(b7,z4,i4),⟨by show z4<5;omega,hi4⟩,cA (.refl _) (.refl _) (fun _ h=>h) (sA rfl)⟩
  rintro ⟨b2,zz,i2⟩ ⟨hzz,hi2⟩
  dsimp only at hzz hi2
  show AWp prog _ (⟨264,b2::aY vG++(aY vv++[W,S,b1]),⟨⟨b2,86,[.val (.string (bytes [103,UInt8.ofNat (48+k)])),.val (.int .i64 (((zz:Nat):Int)-2))]⟩::⟨S,102,[.sl l.length (l.map fun i=>.val (.int .i64 i)),nC i2]⟩::⟨W,104,[.val (.pointer (some ⟨S,0,none⟩)),.val vG,(.sl ms.length (ms.flatMap bT)),.val (.slice none 0 0),.val (.int .i64 24),.val (.bool ar)]⟩::⟨b1,30,[.val (.slice none 0 0),.val (.slice none 0 0),.val (.slice none 0 0)]⟩::bx,⟨vG,86,2,gs.length,gs.flatMap dB⟩::⟨vv,9,1,gs.length,bP (gs.map aI.name)⟩::rw⟩,[(10,pP b2),(8,nI k),(9,nI z3),(7,.c (.val vv)),(3,pP W),(2,pP b1)]⟩:AS) _
  refine dx [b2,S,b1] (tz [(0,true),(1,true),(2,true),(3,true),(4,true),(6,true),(9,true),(10,true),(11,true)] 10 (go 10 ?_))
  refine three 5 7 12 (by kernel_rfl) rfl rfl rfl rfl rfl rfl ?_ ?_ ?_
  ·refine way rfl (by decide) (aX [_,_] rfl rfl rfl isAgg26 sizeOf26 rfl (fun _ h=>by cases h)) ?_
   refine t2 7 12 rfl ?_ ?_
   ·refine (bDk bHf rfl (.cons rfl .nil) (aV dB dB (⟨bytes [103,UInt8.ofNat (48+k)],((zz:Nat):Int)-2⟩:aI) rfl rfl rfl) ?_)
    refine t2 8 12 rfl ?_ ?_
    ·refine (bDm [] bDn rfl rfl (by decide) (by unfold maxLen;omega) (by omega) (@length_append _ gs [(⟨bytes [103,UInt8.ofNat (48+k)],((zz:Nat):Int)-2⟩:aI)]).symm (fun hn b hb=>qW hn hb) (fun b hb=>by simp [hb]) (List.flatMap_append (f:=dB)).symm fun v4=>?_)
     refine ox 12 rfl rfl (bDk bT4 rfl (.cons rfl .nil) (r:=bP ([(⟨bytes [103,UInt8.ofNat (48+k)],((zz:Nat):Int)-2⟩:aI)].map aI.name)) rfl ?_)
     refine ox 13 rfl rfl (bDm [_] bWi rfl rfl (by decide) (by unfold maxLen;omega) (by omega) (@length_append _ gs [(⟨bytes [103,UInt8.ofNat (48+k)],((zz:Nat):Int)-2⟩:aI)]).symm (fun hn b hb=>qM (r:=⟨vv,9,1,gs.length,bP (gs.map aI.name)⟩) (by simp) hn hb) (fun b hb=>by simp [hb]) (show bP (gs.map aI.name)++bP ([(⟨bytes [103,UInt8.ofNat (48+k)],((zz:Nat):Int)-2⟩:aI)].map aI.name)=bP ((gs++[(⟨bytes [103,UInt8.ofNat (48+k)],((zz:Nat):Int)-2⟩:aI)]).map aI.name) by simp [bP]) fun v5=>?_)
     refine tz [(14,true),(15,true),(16,true),(17,false),(18,true)] 0 (go 6 ?_)
     refine ax (go 4 ?_)
     refine wyz rfl (dU (k:=1) rfl rfl rfl rfl (by omega)) (go 2 ?_)
     refine ⟨(k+1,v4,v5,gs++[(⟨bytes [103,UInt8.ofNat (48+k)],((zz:Nat):Int)-2⟩:aI)],i2),⟨by show k+1 <= z3;omega,by show List.length (gs++[(⟨bytes [103,UInt8.ofNat (48+k)],((zz:Nat):Int)-2⟩:aI)])=k+1;simp only [length_append,length_cons,length_nil];omega,hgs.snoc (by rw [hgk];exact ⟨rfl,by show -2 <= ((zz:Nat):Int)-2;omega,by show ((zz:Nat):Int)-2 <= 2;omega⟩),hi2⟩,by show z3-(k+1)<z3-k;omega,cA (.cons _ (.refl _)) (.refl _) (by grind) (sA rfl)⟩
    refine (bDk bT4 rfl (.cons rfl .nil) (r:=bP ([(⟨bytes [103,UInt8.ofNat (48+k)],((zz:Nat):Int)-2⟩:aI)].map aI.name)) rfl ?_)
    refine ox 8 rfl rfl (bDm [] bDn rfl rfl (by decide) (by unfold maxLen;omega) (by omega) (@length_append _ gs [(⟨bytes [103,UInt8.ofNat (48+k)],((zz:Nat):Int)-2⟩:aI)]).symm (fun hn b hb=>qW hn hb) (fun b hb=>by simp [hb]) (List.flatMap_append (f:=dB)).symm fun v4=>?_)
    refine ox 13 rfl rfl (bDm [_] bWi rfl rfl (by decide) (by unfold maxLen;omega) (by omega) (@length_append _ gs [(⟨bytes [103,UInt8.ofNat (48+k)],((zz:Nat):Int)-2⟩:aI)]).symm (fun hn b hb=>qM (r:=⟨vv,9,1,gs.length,bP (gs.map aI.name)⟩) (by simp) hn hb) (fun b hb=>by simp [hb]) (show bP (gs.map aI.name)++bP ([(⟨bytes [103,UInt8.ofNat (48+k)],((zz:Nat):Int)-2⟩:aI)].map aI.name)=bP ((gs++[(⟨bytes [103,UInt8.ofNat (48+k)],((zz:Nat):Int)-2⟩:aI)]).map aI.name) by simp [bP]) fun v5=>?_)
    refine tz [(14,true),(15,true),(16,true),(17,false),(18,true)] 0 (go 6 ?_)
    refine ax (go 4 ?_)
    refine wyz rfl (dU (k:=1) rfl rfl rfl rfl (by omega)) (go 2 ?_)
    refine ⟨(k+1,v4,v5,gs++[(⟨bytes [103,UInt8.ofNat (48+k)],((zz:Nat):Int)-2⟩:aI)],i2),⟨by show k+1 <= z3;omega,by show List.length (gs++[(⟨bytes [103,UInt8.ofNat (48+k)],((zz:Nat):Int)-2⟩:aI)])=k+1;simp only [length_append,length_cons,length_nil];omega,hgs.snoc (by rw [hgk];exact ⟨rfl,by show -2 <= ((zz:Nat):Int)-2;omega,by show ((zz:Nat):Int)-2 <= 2;omega⟩),hi2⟩,by show z3-(k+1)<z3-k;omega,cA (.cons _ (.refl _)) (.refl _) (by grind) (sA rfl)⟩
   refine (bDk bT4 rfl (.cons rfl .nil) (r:=bP ([(⟨bytes [103,UInt8.ofNat (48+k)],((zz:Nat):Int)-2⟩:aI)].map aI.name)) rfl ?_)
   refine ox 7 rfl rfl (bDk bHf rfl (.cons rfl .nil) (aV dB dB (⟨bytes [103,UInt8.ofNat (48+k)],((zz:Nat):Int)-2⟩:aI) rfl rfl rfl) ?_)
   refine ox 8 rfl rfl (bDm [] bDn rfl rfl (by decide) (by unfold maxLen;omega) (by omega) (@length_append _ gs [(⟨bytes [103,UInt8.ofNat (48+k)],((zz:Nat):Int)-2⟩:aI)]).symm (fun hn b hb=>qW hn hb) (fun b hb=>by simp [hb]) (List.flatMap_append (f:=dB)).symm fun v4=>?_)
   refine ox 13 rfl rfl (bDm [_] bWi rfl rfl (by decide) (by unfold maxLen;omega) (by omega) (@length_append _ gs [(⟨bytes [103,UInt8.ofNat (48+k)],((zz:Nat):Int)-2⟩:aI)]).symm (fun hn b hb=>qM (r:=⟨vv,9,1,gs.length,bP (gs.map aI.name)⟩) (by simp) hn hb) (fun b hb=>by simp [hb]) (show bP (gs.map aI.name)++bP ([(⟨bytes [103,UInt8.ofNat (48+k)],((zz:Nat):Int)-2⟩:aI)].map aI.name)=bP ((gs++[(⟨bytes [103,UInt8.ofNat (48+k)],((zz:Nat):Int)-2⟩:aI)]).map aI.name) by simp [bP]) fun v5=>?_)
   refine tz [(14,true),(15,true),(16,true),(17,false),(18,true)] 0 (go 6 ?_)
   refine ax (go 4 ?_)
   refine wyz rfl (dU (k:=1) rfl rfl rfl rfl (by omega)) (go 2 ?_)
   refine ⟨(k+1,v4,v5,gs++[(⟨bytes [103,UInt8.ofNat (48+k)],((zz:Nat):Int)-2⟩:aI)],i2),⟨by show k+1 <= z3;omega,by show List.length (gs++[(⟨bytes [103,UInt8.ofNat (48+k)],((zz:Nat):Int)-2⟩:aI)])=k+1;simp only [length_append,length_cons,length_nil];omega,hgs.snoc (by rw [hgk];exact ⟨rfl,by show -2 <= ((zz:Nat):Int)-2;omega,by show ((zz:Nat):Int)-2 <= 2;omega⟩),hi2⟩,by show z3-(k+1)<z3-k;omega,cA (.cons _ (.refl _)) (.refl _) (by grind) (sA rfl)⟩
  ·refine (bDk bHf rfl (.cons rfl .nil) (aV dB dB (⟨bytes [103,UInt8.ofNat (48+k)],((zz:Nat):Int)-2⟩:aI) rfl rfl rfl) ?_)
   refine t2 5 12 rfl ?_ ?_
   ·refine way rfl (by decide) (aX [_,_] rfl rfl rfl isAgg26 sizeOf26 rfl (fun _ h=>by cases h)) ?_
    refine t2 8 12 rfl ?_ ?_
    ·refine (bDm [] bDn rfl rfl (by decide) (by unfold maxLen;omega) (by omega) (@length_append _ gs [(⟨bytes [103,UInt8.ofNat (48+k)],((zz:Nat):Int)-2⟩:aI)]).symm (fun hn b hb=>qW hn hb) (fun b hb=>by simp [hb]) (List.flatMap_append (f:=dB)).symm fun v4=>?_)
     refine ox 12 rfl rfl (bDk bT4 rfl (.cons rfl .nil) (r:=bP ([(⟨bytes [103,UInt8.ofNat (48+k)],((zz:Nat):Int)-2⟩:aI)].map aI.name)) rfl ?_)
     refine ox 13 rfl rfl (bDm [_] bWi rfl rfl (by decide) (by unfold maxLen;omega) (by omega) (@length_append _ gs [(⟨bytes [103,UInt8.ofNat (48+k)],((zz:Nat):Int)-2⟩:aI)]).symm (fun hn b hb=>qM (r:=⟨vv,9,1,gs.length,bP (gs.map aI.name)⟩) (by simp) hn hb) (fun b hb=>by simp [hb]) (show bP (gs.map aI.name)++bP ([(⟨bytes [103,UInt8.ofNat (48+k)],((zz:Nat):Int)-2⟩:aI)].map aI.name)=bP ((gs++[(⟨bytes [103,UInt8.ofNat (48+k)],((zz:Nat):Int)-2⟩:aI)]).map aI.name) by simp [bP]) fun v5=>?_)
     refine tz [(14,true),(15,true),(16,true),(17,false),(18,true)] 0 (go 6 ?_)
     refine ax (go 4 ?_)
     refine wyz rfl (dU (k:=1) rfl rfl rfl rfl (by omega)) (go 2 ?_)
     refine ⟨(k+1,v4,v5,gs++[(⟨bytes [103,UInt8.ofNat (48+k)],((zz:Nat):Int)-2⟩:aI)],i2),⟨by show k+1 <= z3;omega,by show List.length (gs++[(⟨bytes [103,UInt8.ofNat (48+k)],((zz:Nat):Int)-2⟩:aI)])=k+1;simp only [length_append,length_cons,length_nil];omega,hgs.snoc (by rw [hgk];exact ⟨rfl,by show -2 <= ((zz:Nat):Int)-2;omega,by show ((zz:Nat):Int)-2 <= 2;omega⟩),hi2⟩,by show z3-(k+1)<z3-k;omega,cA (.cons _ (.refl _)) (.refl _) (by grind) (sA rfl)⟩
    refine (bDk bT4 rfl (.cons rfl .nil) (r:=bP ([(⟨bytes [103,UInt8.ofNat (48+k)],((zz:Nat):Int)-2⟩:aI)].map aI.name)) rfl ?_)
    refine ox 8 rfl rfl (bDm [] bDn rfl rfl (by decide) (by unfold maxLen;omega) (by omega) (@length_append _ gs [(⟨bytes [103,UInt8.ofNat (48+k)],((zz:Nat):Int)-2⟩:aI)]).symm (fun hn b hb=>qW hn hb) (fun b hb=>by simp [hb]) (List.flatMap_append (f:=dB)).symm fun v4=>?_)
    refine ox 13 rfl rfl (bDm [_] bWi rfl rfl (by decide) (by unfold maxLen;omega) (by omega) (@length_append _ gs [(⟨bytes [103,UInt8.ofNat (48+k)],((zz:Nat):Int)-2⟩:aI)]).symm (fun hn b hb=>qM (r:=⟨vv,9,1,gs.length,bP (gs.map aI.name)⟩) (by simp) hn hb) (fun b hb=>by simp [hb]) (show bP (gs.map aI.name)++bP ([(⟨bytes [103,UInt8.ofNat (48+k)],((zz:Nat):Int)-2⟩:aI)].map aI.name)=bP ((gs++[(⟨bytes [103,UInt8.ofNat (48+k)],((zz:Nat):Int)-2⟩:aI)]).map aI.name) by simp [bP]) fun v5=>?_)
    refine tz [(14,true),(15,true),(16,true),(17,false),(18,true)] 0 (go 6 ?_)
    refine ax (go 4 ?_)
    refine wyz rfl (dU (k:=1) rfl rfl rfl rfl (by omega)) (go 2 ?_)
    refine ⟨(k+1,v4,v5,gs++[(⟨bytes [103,UInt8.ofNat (48+k)],((zz:Nat):Int)-2⟩:aI)],i2),⟨by show k+1 <= z3;omega,by show List.length (gs++[(⟨bytes [103,UInt8.ofNat (48+k)],((zz:Nat):Int)-2⟩:aI)])=k+1;simp only [length_append,length_cons,length_nil];omega,hgs.snoc (by rw [hgk];exact ⟨rfl,by show -2 <= ((zz:Nat):Int)-2;omega,by show ((zz:Nat):Int)-2 <= 2;omega⟩),hi2⟩,by show z3-(k+1)<z3-k;omega,cA (.cons _ (.refl _)) (.refl _) (by grind) (sA rfl)⟩
   refine (bDk bT4 rfl (.cons rfl .nil) (r:=bP ([(⟨bytes [103,UInt8.ofNat (48+k)],((zz:Nat):Int)-2⟩:aI)].map aI.name)) rfl ?_)
   refine ox 5 rfl rfl (way rfl (by decide) (aX [_,_] rfl rfl rfl isAgg26 sizeOf26 rfl (fun _ h=>by cases h)) ?_)
   refine ox 8 rfl rfl (bDm [] bDn rfl rfl (by decide) (by unfold maxLen;omega) (by omega) (@length_append _ gs [(⟨bytes [103,UInt8.ofNat (48+k)],((zz:Nat):Int)-2⟩:aI)]).symm (fun hn b hb=>qW hn hb) (fun b hb=>by simp [hb]) (List.flatMap_append (f:=dB)).symm fun v4=>?_)
   refine ox 13 rfl rfl (bDm [_] bWi rfl rfl (by decide) (by unfold maxLen;omega) (by omega) (@length_append _ gs [(⟨bytes [103,UInt8.ofNat (48+k)],((zz:Nat):Int)-2⟩:aI)]).symm (fun hn b hb=>qM (r:=⟨vv,9,1,gs.length,bP (gs.map aI.name)⟩) (by simp) hn hb) (fun b hb=>by simp [hb]) (show bP (gs.map aI.name)++bP ([(⟨bytes [103,UInt8.ofNat (48+k)],((zz:Nat):Int)-2⟩:aI)].map aI.name)=bP ((gs++[(⟨bytes [103,UInt8.ofNat (48+k)],((zz:Nat):Int)-2⟩:aI)]).map aI.name) by simp [bP]) fun v5=>?_)
   refine tz [(14,true),(15,true),(16,true),(17,false),(18,true)] 0 (go 6 ?_)
   refine ax (go 4 ?_)
   refine wyz rfl (dU (k:=1) rfl rfl rfl rfl (by omega)) (go 2 ?_)
   refine ⟨(k+1,v4,v5,gs++[(⟨bytes [103,UInt8.ofNat (48+k)],((zz:Nat):Int)-2⟩:aI)],i2),⟨by show k+1 <= z3;omega,by show List.length (gs++[(⟨bytes [103,UInt8.ofNat (48+k)],((zz:Nat):Int)-2⟩:aI)])=k+1;simp only [length_append,length_cons,length_nil];omega,hgs.snoc (by rw [hgk];exact ⟨rfl,by show -2 <= ((zz:Nat):Int)-2;omega,by show ((zz:Nat):Int)-2 <= 2;omega⟩),hi2⟩,by show z3-(k+1)<z3-k;omega,cA (.cons _ (.refl _)) (.refl _) (by grind) (sA rfl)⟩
  refine (bDk bT4 rfl (.cons rfl .nil) (r:=bP ([(⟨bytes [103,UInt8.ofNat (48+k)],((zz:Nat):Int)-2⟩:aI)].map aI.name)) rfl ?_)
  refine t2 5 7 rfl ?_ ?_
  ·refine way rfl (by decide) (aX [_,_] rfl rfl rfl isAgg26 sizeOf26 rfl (fun _ h=>by cases h)) ?_
   refine ox 7 rfl rfl (bDk bHf rfl (.cons rfl .nil) (aV dB dB (⟨bytes [103,UInt8.ofNat (48+k)],((zz:Nat):Int)-2⟩:aI) rfl rfl rfl) ?_)
   refine ox 8 rfl rfl (bDm [] bDn rfl rfl (by decide) (by unfold maxLen;omega) (by omega) (@length_append _ gs [(⟨bytes [103,UInt8.ofNat (48+k)],((zz:Nat):Int)-2⟩:aI)]).symm (fun hn b hb=>qW hn hb) (fun b hb=>by simp [hb]) (List.flatMap_append (f:=dB)).symm fun v4=>?_)
   refine ox 13 rfl rfl (bDm [_] bWi rfl rfl (by decide) (by unfold maxLen;omega) (by omega) (@length_append _ gs [(⟨bytes [103,UInt8.ofNat (48+k)],((zz:Nat):Int)-2⟩:aI)]).symm (fun hn b hb=>qM (r:=⟨vv,9,1,gs.length,bP (gs.map aI.name)⟩) (by simp) hn hb) (fun b hb=>by simp [hb]) (show bP (gs.map aI.name)++bP ([(⟨bytes [103,UInt8.ofNat (48+k)],((zz:Nat):Int)-2⟩:aI)].map aI.name)=bP ((gs++[(⟨bytes [103,UInt8.ofNat (48+k)],((zz:Nat):Int)-2⟩:aI)]).map aI.name) by simp [bP]) fun v5=>?_)
   refine tz [(14,true),(15,true),(16,true),(17,false),(18,true)] 0 (go 6 ?_)
   refine ax (go 4 ?_)
   refine wyz rfl (dU (k:=1) rfl rfl rfl rfl (by omega)) (go 2 ?_)
   refine ⟨(k+1,v4,v5,gs++[(⟨bytes [103,UInt8.ofNat (48+k)],((zz:Nat):Int)-2⟩:aI)],i2),⟨by show k+1 <= z3;omega,by show List.length (gs++[(⟨bytes [103,UInt8.ofNat (48+k)],((zz:Nat):Int)-2⟩:aI)])=k+1;simp only [length_append,length_cons,length_nil];omega,hgs.snoc (by rw [hgk];exact ⟨rfl,by show -2 <= ((zz:Nat):Int)-2;omega,by show ((zz:Nat):Int)-2 <= 2;omega⟩),hi2⟩,by show z3-(k+1)<z3-k;omega,cA (.cons _ (.refl _)) (.refl _) (by grind) (sA rfl)⟩
  refine (bDk bHf rfl (.cons rfl .nil) (aV dB dB (⟨bytes [103,UInt8.ofNat (48+k)],((zz:Nat):Int)-2⟩:aI) rfl rfl rfl) ?_)
  refine ox 5 rfl rfl (way rfl (by decide) (aX [_,_] rfl rfl rfl isAgg26 sizeOf26 rfl (fun _ h=>by cases h)) ?_)
  refine ox 8 rfl rfl (bDm [] bDn rfl rfl (by decide) (by unfold maxLen;omega) (by omega) (@length_append _ gs [(⟨bytes [103,UInt8.ofNat (48+k)],((zz:Nat):Int)-2⟩:aI)]).symm (fun hn b hb=>qW hn hb) (fun b hb=>by simp [hb]) (List.flatMap_append (f:=dB)).symm fun v4=>?_)
  refine ox 13 rfl rfl (bDm [_] bWi rfl rfl (by decide) (by unfold maxLen;omega) (by omega) (@length_append _ gs [(⟨bytes [103,UInt8.ofNat (48+k)],((zz:Nat):Int)-2⟩:aI)]).symm (fun hn b hb=>qM (r:=⟨vv,9,1,gs.length,bP (gs.map aI.name)⟩) (by simp) hn hb) (fun b hb=>by simp [hb]) (show bP (gs.map aI.name)++bP ([(⟨bytes [103,UInt8.ofNat (48+k)],((zz:Nat):Int)-2⟩:aI)].map aI.name)=bP ((gs++[(⟨bytes [103,UInt8.ofNat (48+k)],((zz:Nat):Int)-2⟩:aI)]).map aI.name) by simp [bP]) fun v5=>?_)
  refine tz [(14,true),(15,true),(16,true),(17,false),(18,true)] 0 (go 6 ?_)
  refine ax (go 4 ?_)
  refine wyz rfl (dU (k:=1) rfl rfl rfl rfl (by omega)) (go 2 ?_)
  refine ⟨(k+1,v4,v5,gs++[(⟨bytes [103,UInt8.ofNat (48+k)],((zz:Nat):Int)-2⟩:aI)],i2),⟨by show k+1 <= z3;omega,by show List.length (gs++[(⟨bytes [103,UInt8.ofNat (48+k)],((zz:Nat):Int)-2⟩:aI)])=k+1;simp only [length_append,length_cons,length_nil];omega,hgs.snoc (by rw [hgk];exact ⟨rfl,by show -2 <= ((zz:Nat):Int)-2;omega,by show ((zz:Nat):Int)-2 <= 2;omega⟩),hi2⟩,by show z3-(k+1)<z3-k;omega,cA (.cons _ (.refl _)) (.refl _) (by grind) (sA rfl)⟩
 refine wcp false rfl (by first|exact eE (by omega)|(simp [bC]<;>omega)) (go 10 ?_)
 have hgN:gs.length <= 2:=by omega
 refine aAg [_] 1 rfl rfl ?_
 refine go 4 ?_
 refine wo rfl (bD [S] rfl rfl (by decide) call45 rfl (eC [] _ _ _ l ik _ hik hl (by decide) (by decide)) (bDj (by simp)) (bDj (by simp [Sto.bl])) (fun _=>bDj (by simp)) ?_)
 rintro r4 s4 ⟨z4,i4,rfl,hy4,hi4,rfl⟩
 refine go 10 ?_
 refine qR 58 3 ?_
 refine fM (fun g:Nat×Value×List (ByteArray×List aS)×Nat=>(⟨264,(aY g.2.1++(aY vv++[W,S,b1])),⟨⟨S,102,[.sl l.length (l.map fun i=>.val (.int .i64 i)),nC g.2.2.2]⟩::⟨W,104,[.val (.pointer (some ⟨S,0,none⟩)),(.sl gs.length (gs.flatMap dB)),(.sl ms.length (ms.flatMap bT)),.val g.2.1,.val (.int .i64 24),.val (.bool ar)]⟩::⟨b1,30,[.val (.slice none 0 0),.val (.slice none 0 0),.val (.slice none 0 0)]⟩::bx,⟨g.2.1,58,3,g.2.2.1.length,(g.2.2.1.map e0).flatMap cQ⟩::⟨vv,9,1,gs.length,bP (gs.map aI.name)⟩::rw⟩,[(12,nI g.1),(11,nI z4),(7,.c (.val vv)),(3,pP W),(2,pP b1)]⟩:AS)) (fun g=>g.1 <= z4+1 /\ g.2.2.1.length=g.1 /\ oE aRd g.2.2.1 /\ g.2.2.2 <= l.length) (fun g=>z4+1-g.1) (0,.slice none 0 0,[],i4) (cA (.refl _) (.refl _) (by intro x hx;simp [aY,Value.ownBlock] at hx⊢;rcases hx with h|h|h|h<;>simp [h]) (sA rfl)) ⟨Nat.zero_le _,rfl,.nil _,hi4⟩ ?_
 clear hik hk hgk
 rintro ⟨q,vF,sg,ik⟩ ⟨hq,hsq,hsg,hik⟩
 dsimp only at hq hsq hsg hik
 show AWp prog _ (⟨264,(aY vF++(aY vv++[W,S,b1])),⟨⟨S,102,[.sl l.length (l.map fun i=>.val (.int .i64 i)),nC ik]⟩::⟨W,104,[.val (.pointer (some ⟨S,0,none⟩)),(.sl gs.length (gs.flatMap dB)),(.sl ms.length (ms.flatMap bT)),.val vF,.val (.int .i64 24),.val (.bool ar)]⟩::⟨b1,30,[.val (.slice none 0 0),.val (.slice none 0 0),.val (.slice none 0 0)]⟩::bx,⟨vF,58,3,sg.length,(sg.map e0).flatMap cQ⟩::⟨vv,9,1,gs.length,bP (gs.map aI.name)⟩::rw⟩,[(12,nI q),(11,nI z4),(7,.c (.val vv)),(3,pP W),(2,pP b1)]⟩:AS) _
 refine go 5 ?_
 by_cases hlt3:q <= z4
 ·refine wcp true rfl (by first|exact eU (by omega)|(simp [bC]<;>omega)) (go 10 ?_)
  refine wyz rfl (dU (m:=48) rfl rfl rfl rfl (by omega)) ?_
  refine wyz rfl (aBf rfl rfl (by omega) rfl rfl rfl) ?_
  refine wo rfl (bDk zb6 rfl (.cons rfl .nil) (r:=iF [UInt8.ofNat (48+q)]) rfl ?_)
  refine wyz rfl (hX rfl rfl rfl) ?_
  refine wyz rfl (lB (c:=102) (d:=UInt8.ofNat (48+q)) rfl rfl rfl rfl rfl rfl) (go 9 fun fb=>?_)
  refine wyz rfl (bO (decide (q=0)) rfl rfl rfl (aPr q)) (go 2 ?_)
  refine aCq (fun NM:ByteArray=>(⟨264,fb::(aY vF++(aY vv++[W,S,b1])),⟨⟨fb,58,[.val (.string NM),.val (.slice none 0 0),.val (.slice none 0 0)]⟩::⟨S,102,[.sl l.length (l.map fun i=>.val (.int .i64 i)),nC ik]⟩::⟨W,104,[.val (.pointer (some ⟨S,0,none⟩)),(.sl gs.length (gs.flatMap dB)),(.sl ms.length (ms.flatMap bT)),.val vF,.val (.int .i64 24),.val (.bool ar)]⟩::⟨b1,30,[.val (.slice none 0 0),.val (.slice none 0 0),.val (.slice none 0 0)]⟩::bx,⟨vF,58,3,sg.length,(sg.map e0).flatMap cQ⟩::⟨vv,9,1,gs.length,bP (gs.map aI.name)⟩::rw⟩,[(13,pP fb),(12,nI q),(11,nI z4),(7,.c (.val vv)),(3,pP W),(2,pP b1)]⟩:AS)) (fun NM=>NM=fnm q) ?_ ?_
  ·refine gY rfl (fun hc10=>?_) (fun hc10=>?_)
   ·have hq00:q=0:=of_decide_eq_true hc10
    refine go 4 ?_
    exact ⟨rfl,(bytes [109,97,105,110]),by simp [fnm,hq00],cA (.refl _) (.refl _) (fun _ h=>h) (sA rfl)⟩
   have hq00:¬q=0:=of_decide_eq_false hc10
   refine go 1 ?_
   exact ⟨rfl,(bytes [102,UInt8.ofNat (48+q)]),by simp [fnm,hq00],cA (.refl _) (.refl _) (fun _ h=>h) (sA rfl)⟩
  rintro nm hnm
  show AWp prog _ (⟨264,fb::(aY vF++(aY vv++[W,S,b1])),⟨⟨fb,58,[.val (.string nm),.val (.slice none 0 0),.val (.slice none 0 0)]⟩::⟨S,102,[.sl l.length (l.map fun i=>.val (.int .i64 i)),nC ik]⟩::⟨W,104,[.val (.pointer (some ⟨S,0,none⟩)),(.sl gs.length (gs.flatMap dB)),(.sl ms.length (ms.flatMap bT)),.val vF,.val (.int .i64 24),.val (.bool ar)]⟩::⟨b1,30,[.val (.slice none 0 0),.val (.slice none 0 0),.val (.slice none 0 0)]⟩::bx,⟨vF,58,3,sg.length,(sg.map e0).flatMap cQ⟩::⟨vv,9,1,gs.length,bP (gs.map aI.name)⟩::rw⟩,[(13,pP fb),(12,nI q),(11,nI z4),(7,.c (.val vv)),(3,pP W),(2,pP b1)]⟩:AS) _
  refine go 7 ?_
  refine wo rfl (bD [S] rfl rfl (by decide) call45 rfl (eC [_] _ _ _ l ik _ hik hl (by decide) (by decide)) (bDj (by simp)) (bDj (by simp [Sto.bl])) (fun _=>bDj (by simp)) ?_)
  rintro r5 s5 ⟨z5,i5,rfl,hy5,hi5,rfl⟩
  refine go 3 ?_
  refine aCq (fun g:Value×List aS×Nat=>(⟨264,aY g.1++(fb::(aY vF++(aY vv++[W,S,b1]))),⟨⟨fb,58,[.val (.string nm),.val g.1,.val (.slice none 0 0)]⟩::⟨S,102,[.sl l.length (l.map fun i=>.val (.int .i64 i)),nC g.2.2]⟩::⟨W,104,[.val (.pointer (some ⟨S,0,none⟩)),(.sl gs.length (gs.flatMap dB)),(.sl ms.length (ms.flatMap bT)),.val vF,.val (.int .i64 24),.val (.bool ar)]⟩::⟨b1,30,[.val (.slice none 0 0),.val (.slice none 0 0),.val (.slice none 0 0)]⟩::bx,⟨g.1,89,2,g.2.1.length,g.2.1.flatMap cP⟩::⟨vF,58,3,sg.length,(sg.map e0).flatMap cQ⟩::⟨vv,9,1,gs.length,bP (gs.map aI.name)⟩::rw⟩,[(13,pP fb),(12,nI q),(11,nI z4),(7,.c (.val vv)),(3,pP W),(2,pP b1)]⟩:AS)) (fun g=>pM g.2.1 /\ (q=0 -> g.2.1=[]) /\ g.2.2 <= l.length) ?_ ?_
  ·refine go 1 ?_
   refine qR 89 2 ?_
   refine fM (fun g:Nat×Value×List aS×Nat=>(⟨264,aY g.2.1++(fb::(aY vF++(aY vv++[W,S,b1]))),⟨⟨fb,58,[.val (.string nm),.val g.2.1,.val (.slice none 0 0)]⟩::⟨S,102,[.sl l.length (l.map fun i=>.val (.int .i64 i)),nC g.2.2.2]⟩::⟨W,104,[.val (.pointer (some ⟨S,0,none⟩)),(.sl gs.length (gs.flatMap dB)),(.sl ms.length (ms.flatMap bT)),.val vF,.val (.int .i64 24),.val (.bool ar)]⟩::⟨b1,30,[.val (.slice none 0 0),.val (.slice none 0 0),.val (.slice none 0 0)]⟩::bx,⟨g.2.1,89,2,g.2.2.1.length,g.2.2.1.flatMap cP⟩::⟨vF,58,3,sg.length,(sg.map e0).flatMap cQ⟩::⟨vv,9,1,gs.length,bP (gs.map aI.name)⟩::rw⟩,[(14,nI g.1),(13,pP fb),(12,nI q),(11,nI z4),(7,.c (.val vv)),(3,pP W),(2,pP b1)]⟩:AS)) (fun g=>g.1+g.2.2.1.length=z5 /\ (q=0 -> g.2.2.1=[]) /\ oE (fun k x=>x.name=bytes [112,UInt8.ofNat (48+(z5-k))]) g.2.2.1 /\ g.2.2.2 <= l.length) (fun g=>g.1) (z5,.slice none 0 0,[],i5) (cA (.refl _) (.refl _) (by intro x hx;simpa [aY,Value.ownBlock] using hx) (sA rfl)) ⟨rfl,fun _=>rfl,.nil _,hi5⟩ ?_
   rintro ⟨m,vP,qs,iq⟩ ⟨hm,hq0,hqs,hiq⟩
   dsimp only at hm hq0 hqs hiq
   show AWp prog _ (⟨264,aY vP++(fb::(aY vF++(aY vv++[W,S,b1]))),⟨⟨fb,58,[.val (.string nm),.val vP,.val (.slice none 0 0)]⟩::⟨S,102,[.sl l.length (l.map fun i=>.val (.int .i64 i)),nC iq]⟩::⟨W,104,[.val (.pointer (some ⟨S,0,none⟩)),(.sl gs.length (gs.flatMap dB)),(.sl ms.length (ms.flatMap bT)),.val vF,.val (.int .i64 24),.val (.bool ar)]⟩::⟨b1,30,[.val (.slice none 0 0),.val (.slice none 0 0),.val (.slice none 0 0)]⟩::bx,⟨vP,89,2,qs.length,qs.flatMap cP⟩::⟨vF,58,3,sg.length,(sg.map e0).flatMap cQ⟩::⟨vv,9,1,gs.length,bP (gs.map aI.name)⟩::rw⟩,[(14,nI m),(13,pP fb),(12,nI q),(11,nI z4),(7,.c (.val vv)),(3,pP W),(2,pP b1)]⟩:AS) _
   refine go 4 ?_
   by_cases hm0:0<m
   ·refine wcp true rfl (by first|exact eU (by omega)|(simp [bC]<;>omega)) (go 2 ?_)
    by_cases hq1:0<q
    ·refine wcp true rfl (by first|exact eU (by omega)|(simp [bC]<;>omega)) (go 9 ?_)
     refine aCq (fun g:Nat×Bool×Nat=>(⟨264,g.1::(aY vP++(fb::(aY vF++(aY vv++[W,S,b1])))),⟨⟨g.1,89,[.val (.string (bytes [112,UInt8.ofNat (48+m)])),.val (.bool g.2.1)]⟩::⟨fb,58,[.val (.string nm),.val vP,.val (.slice none 0 0)]⟩::⟨S,102,[.sl l.length (l.map fun i=>.val (.int .i64 i)),nC g.2.2]⟩::⟨W,104,[.val (.pointer (some ⟨S,0,none⟩)),(.sl gs.length (gs.flatMap dB)),(.sl ms.length (ms.flatMap bT)),.val vF,.val (.int .i64 24),.val (.bool ar)]⟩::⟨b1,30,[.val (.slice none 0 0),.val (.slice none 0 0),.val (.slice none 0 0)]⟩::bx,⟨vP,89,2,qs.length,qs.flatMap cP⟩::⟨vF,58,3,sg.length,(sg.map e0).flatMap cQ⟩::⟨vv,9,1,gs.length,bP (gs.map aI.name)⟩::rw⟩,[(15,.c (.val (.pointer (some ⟨g.1,0,none⟩)))),(14,nI m),(13,pP fb),(12,nI q),(11,nI z4),(7,.c (.val vv)),(3,pP W),(2,pP b1)]⟩:AS)) (fun g=>g.2.2 <= l.length) ?_ ?_
     ·refine dx [fb,W,b1] (tz [(0,true)] 14 (go 2 ?_))
      refine tx 1 rfl (dU (m:=48) rfl rfl rfl rfl (by omega)) ?_
      refine tx 2 rfl (aBf rfl rfl (by omega) rfl rfl rfl) (tz [(6,true),(7,true),(8,true),(9,true)] 8 (go 5 ?_))
      refine three 3 10 13 (by kernel_rfl) rfl rfl rfl rfl rfl rfl ?_ ?_ ?_
      ·refine (bDk zb6 rfl (.cons rfl .nil) (r:=iF [UInt8.ofNat (48+m)]) rfl ?_)
       refine tx 4 rfl (hX rfl rfl rfl) ?_
       refine tx 5 rfl (lB (c:=112) (d:=UInt8.ofNat (48+m)) rfl rfl rfl rfl rfl rfl) ?_
       refine t2 10 13 rfl ?_ ?_
       ·refine (bD [S] rfl rfl (by decide) call45 rfl (eC [_] _ _ _ l iq _ hiq hl (by decide) (by decide)) (by intro b hb;simp at hb;subst hb;simp) (by intro b hb;simp at hb;subst hb;simp [Sto.bl]) (fun hn b hb=>by simp at hb;subst hb<;>exact jJ hn) ?_)
        rintro r6 s6 ⟨z6,i6,rfl,hy6,hi6,rfl⟩
        refine tx 11 rfl (bO (decide (0<z6)) rfl rfl rfl (by simp [bC])) (tz [(12,true),(13,false),(14,false)] 0 (go 4 fun b8=>?_))
        refine ax ?_
        exact ⟨rfl,(b8,decide (0<z6),i6),hi6,cA (.refl _) (.refl _) (fun _ h=>h) (sA rfl)⟩
       refine (jK rfl rfl (by decide) zeroValue89 rfl fun b9=>?_)
       refine ox 10 rfl rfl (bD [S] rfl rfl (by decide) call45 rfl (eC [_,_] _ _ _ l iq _ hiq hl (by decide) (by decide)) (by intro b hb;simp at hb;subst hb;simp) (by intro b hb;simp at hb;subst hb;simp [Sto.bl]) (fun hn b hb=>by simp at hb;subst hb<;>exact jJ hn) ?_)
       rintro r6 s6 ⟨z6,i6,rfl,hy6,hi6,rfl⟩
       refine tx 11 rfl (bO (decide (0<z6)) rfl rfl rfl (by simp [bC])) (tz [(12,true),(14,false)] 0 (go 3 ?_))
       refine ax ?_
       exact ⟨rfl,(b9,decide (0<z6),i6),hi6,cA (.refl _) (.refl _) (fun _ h=>h) (sA rfl)⟩
      ·refine (bD [S] rfl rfl (by decide) call45 rfl (eC [_] _ _ _ l iq _ hiq hl (by decide) (by decide)) (by intro b hb;simp at hb;subst hb;simp) (by intro b hb;simp at hb;subst hb;simp [Sto.bl]) (fun hn b hb=>by simp at hb;subst hb<;>exact jJ hn) ?_)
       rintro r6 s6 ⟨z6,i6,rfl,hy6,hi6,rfl⟩
       refine tx 11 rfl (bO (decide (0<z6)) rfl rfl rfl (by simp [bC])) ?_
       refine t2 3 13 rfl ?_ ?_
       ·refine (bDk zb6 rfl (.cons rfl .nil) (r:=iF [UInt8.ofNat (48+m)]) rfl ?_)
        refine tx 4 rfl (hX rfl rfl rfl) ?_
        refine tx 5 rfl (lB (c:=112) (d:=UInt8.ofNat (48+m)) rfl rfl rfl rfl rfl rfl) (tz [(12,true),(13,false),(14,false)] 0 (go 4 fun b10=>?_))
        refine ax ?_
        exact ⟨rfl,(b10,decide (0<z6),i6),hi6,cA (.refl _) (.refl _) (fun _ h=>h) (sA rfl)⟩
       refine (jK rfl rfl (by decide) zeroValue89 rfl fun b11=>?_)
       refine ox 3 rfl rfl (bDk zb6 rfl (.cons rfl .nil) (r:=iF [UInt8.ofNat (48+m)]) rfl ?_)
       refine tx 4 rfl (hX rfl rfl rfl) ?_
       refine tx 5 rfl (lB (c:=112) (d:=UInt8.ofNat (48+m)) rfl rfl rfl rfl rfl rfl) (tz [(12,true),(14,false)] 0 (go 3 ?_))
       refine ax ?_
       exact ⟨rfl,(b11,decide (0<z6),i6),hi6,cA (.refl _) (.refl _) (fun _ h=>h) (sA rfl)⟩
      refine (jK rfl rfl (by decide) zeroValue89 rfl fun b12=>?_)
      refine t2 3 10 rfl ?_ ?_
      ·refine (bDk zb6 rfl (.cons rfl .nil) (r:=iF [UInt8.ofNat (48+m)]) rfl ?_)
       refine tx 4 rfl (hX rfl rfl rfl) ?_
       refine tx 5 rfl (lB (c:=112) (d:=UInt8.ofNat (48+m)) rfl rfl rfl rfl rfl rfl) ?_
       refine ox 10 rfl rfl (bD [S] rfl rfl (by decide) call45 rfl (eC [_,_] _ _ _ l iq _ hiq hl (by decide) (by decide)) (by intro b hb;simp at hb;subst hb;simp) (by intro b hb;simp at hb;subst hb;simp [Sto.bl]) (fun hn b hb=>by simp at hb;subst hb<;>exact jJ hn) ?_)
       rintro r6 s6 ⟨z6,i6,rfl,hy6,hi6,rfl⟩
       refine tx 11 rfl (bO (decide (0<z6)) rfl rfl rfl (by simp [bC])) (tz [(12,true),(14,false)] 0 (go 3 ?_))
       refine ax ?_
       exact ⟨rfl,(b12,decide (0<z6),i6),hi6,cA (.refl _) (.refl _) (fun _ h=>h) (sA rfl)⟩
      refine (bD [S] rfl rfl (by decide) call45 rfl (eC [_,_] _ _ _ l iq _ hiq hl (by decide) (by decide)) (by intro b hb;simp at hb;subst hb;simp) (by intro b hb;simp at hb;subst hb;simp [Sto.bl]) (fun hn b hb=>by simp at hb;subst hb<;>exact jJ hn) ?_)
      rintro r6 s6 ⟨z6,i6,rfl,hy6,hi6,rfl⟩
      refine tx 11 rfl (bO (decide (0<z6)) rfl rfl rfl (by simp [bC])) ?_
      refine ox 3 rfl rfl (bDk zb6 rfl (.cons rfl .nil) (r:=iF [UInt8.ofNat (48+m)]) rfl ?_)
      refine tx 4 rfl (hX rfl rfl rfl) ?_
      refine tx 5 rfl (lB (c:=112) (d:=UInt8.ofNat (48+m)) rfl rfl rfl rfl rfl rfl) (tz [(12,true),(14,false)] 0 (go 3 ?_))
      refine ax ?_
      exact ⟨rfl,(b12,decide (0<z6),i6),hi6,cA (.refl _) (.refl _) (fun _ h=>h) (sA rfl)⟩
     rintro ⟨pb,mx,i2⟩ hi2
     dsimp only at hi2
     show AWp prog _ (⟨264,pb::(aY vP++(fb::(aY vF++(aY vv++[W,S,b1])))),⟨⟨pb,89,[.val (.string (bytes [112,UInt8.ofNat (48+m)])),.val (.bool mx)]⟩::⟨fb,58,[.val (.string nm),.val vP,.val (.slice none 0 0)]⟩::⟨S,102,[.sl l.length (l.map fun i=>.val (.int .i64 i)),nC i2]⟩::⟨W,104,[.val (.pointer (some ⟨S,0,none⟩)),(.sl gs.length (gs.flatMap dB)),(.sl ms.length (ms.flatMap bT)),.val vF,.val (.int .i64 24),.val (.bool ar)]⟩::⟨b1,30,[.val (.slice none 0 0),.val (.slice none 0 0),.val (.slice none 0 0)]⟩::bx,⟨vP,89,2,qs.length,qs.flatMap cP⟩::⟨vF,58,3,sg.length,(sg.map e0).flatMap cQ⟩::⟨vv,9,1,gs.length,bP (gs.map aI.name)⟩::rw⟩,[(15,pP pb),(14,nI m),(13,pP fb),(12,nI q),(11,nI z4),(7,.c (.val vv)),(3,pP W),(2,pP b1)]⟩:AS) _
     refine go 4 ?_
     refine wo rfl (bDk bLv rfl (.cons rfl .nil) (aV cP cP ⟨bytes [112,UInt8.ofNat (48+m)],mx⟩ rfl rfl rfl) ?_)
     refine wo rfl (bDm [] bDt rfl rfl (by decide) (by unfold maxLen;omega) (by omega) (@length_append _ qs [⟨bytes [112,UInt8.ofNat (48+m)],mx⟩]).symm (fun _ b hb=>by simp [hb]) (fun b hb=>by simp [hb]) (List.flatMap_append (f:=cP)).symm fun v6=>?_)
     refine go 7 ?_
     refine wyz rfl (cI ((m-1:Nat):Int) rfl rfl rfl (by omega) (by omega) (by omega)) (go 2 ?_)
     refine ⟨(m-1,v6,qs++[⟨bytes [112,UInt8.ofNat (48+m)],mx⟩],i2),⟨by show m-1+List.length (qs++[⟨bytes [112,UInt8.ofNat (48+m)],mx⟩])=z5;simp only [length_append,length_cons,length_nil];omega,fun h=>absurd h (by omega),hqs.snoc (by show bytes [112,UInt8.ofNat (48+m)]=_;rw [show z5-qs.length=m by omega]),hi2⟩,by show m-1<m;omega,cA (.cons _ (.refl _)) (.refl _) (by grind) (sA rfl)⟩
    refine wcp false rfl (by first|exact eE (by omega)|(simp [bC]<;>omega)) (go 8 ?_)
    exact ⟨rfl,(vP,qs,iq),⟨⟨by show qs.length <= 2;omega,fun k h=>by rw [hq0 (by omega)] at h;simp at h⟩,hq0,hiq⟩,cA (.refl _) (.refl _) (fun _ h=>h) (sA rfl)⟩
   refine wcp false rfl (by first|exact eE (by omega)|(simp [bC]<;>omega)) (go 11 ?_)
   exact ⟨rfl,(vP,qs,iq),⟨⟨by show qs.length <= 2;omega,fun k h=>by rw [hqs k h,show z5-k=qs.length-k by omega]⟩,hq0,hiq⟩,cA (.refl _) (.refl _) (fun _ h=>h) (sA rfl)⟩
  rintro ⟨vP,qs,iq⟩ ⟨hqs,hq0,hiq⟩
  dsimp only at hqs hq0 hiq
  show AWp prog _ (⟨264,aY vP++(fb::(aY vF++(aY vv++[W,S,b1]))),⟨⟨fb,58,[.val (.string nm),.val vP,.val (.slice none 0 0)]⟩::⟨S,102,[.sl l.length (l.map fun i=>.val (.int .i64 i)),nC iq]⟩::⟨W,104,[.val (.pointer (some ⟨S,0,none⟩)),(.sl gs.length (gs.flatMap dB)),(.sl ms.length (ms.flatMap bT)),.val vF,.val (.int .i64 24),.val (.bool ar)]⟩::⟨b1,30,[.val (.slice none 0 0),.val (.slice none 0 0),.val (.slice none 0 0)]⟩::bx,⟨vP,89,2,qs.length,qs.flatMap cP⟩::⟨vF,58,3,sg.length,(sg.map e0).flatMap cQ⟩::⟨vv,9,1,gs.length,bP (gs.map aI.name)⟩::rw⟩,[(13,pP fb),(12,nI q),(11,nI z4),(7,.c (.val vv)),(3,pP W),(2,pP b1)]⟩:AS) _
  refine aQ7 [] 1 rfl rfl ?_
  refine dx [fb,S,b1] (tz [(0,true),(1,true),(2,true),(3,true),(4,true),(6,true)] 7 (go 7 ?_))
  refine t2 5 7 rfl ?_ ?_
  ·refine way rfl (by decide) (aX [_,_] rfl rfl rfl isAgg28 sizeOf28 rfl (fun _ h=>by cases h)) ?_
   refine ox 7 rfl rfl (bDk zb7 rfl (.cons rfl .nil) (aV cQ cQ (e0 (nm,qs)) rfl rfl rfl) ?_)
   refine ox 8 rfl rfl (bDm [] bWk rfl rfl (by decide) (by unfold maxLen;omega) (by omega) (@length_append _ sg [(nm,qs)]).symm (fun hn b hb=>qW hn hb) (fun b hb=>by simp [hb]) (show (sg.map e0).flatMap cQ++[e0 (nm,qs)].flatMap cQ=((sg++[(nm,qs)]).map e0).flatMap cQ by simp) fun v6=>?_)
   refine tz [(9,true),(10,true),(11,true),(12,false)] 0 (go 5 ?_)
   refine ax (go 4 ?_)
   refine wyz rfl (dU (k:=1) rfl rfl rfl rfl (by omega)) (go 2 ?_)
   refine ⟨(q+1,v6,sg++[(nm,qs)],iq),⟨by show q+1 <= z4+1;omega,by show List.length (sg++[(nm,qs)])=q+1;simp only [length_append,length_cons,length_nil];omega,hsg.snoc (by rw [hsq];exact ⟨hnm,hq0,hqs⟩),hiq⟩,by show z4+1-(q+1)<z4+1-q;omega,cA (.cons _ (.refl _)) (.refl _) (by grind) (sA rfl)⟩
  refine (bDk zb7 rfl (.cons rfl .nil) (aV cQ cQ (e0 (nm,qs)) rfl rfl rfl) ?_)
  refine ox 5 rfl rfl (way rfl (by decide) (aX [_,_] rfl rfl rfl isAgg28 sizeOf28 rfl (fun _ h=>by cases h)) ?_)
  refine ox 8 rfl rfl (bDm [] bWk rfl rfl (by decide) (by unfold maxLen;omega) (by omega) (@length_append _ sg [(nm,qs)]).symm (fun hn b hb=>qW hn hb) (fun b hb=>by simp [hb]) (show (sg.map e0).flatMap cQ++[e0 (nm,qs)].flatMap cQ=((sg++[(nm,qs)]).map e0).flatMap cQ by simp) fun v6=>?_)
  refine tz [(9,true),(10,true),(11,true),(12,false)] 0 (go 5 ?_)
  refine ax (go 4 ?_)
  refine wyz rfl (dU (k:=1) rfl rfl rfl rfl (by omega)) (go 2 ?_)
  refine ⟨(q+1,v6,sg++[(nm,qs)],iq),⟨by show q+1 <= z4+1;omega,by show List.length (sg++[(nm,qs)])=q+1;simp only [length_append,length_cons,length_nil];omega,hsg.snoc (by rw [hsq];exact ⟨hnm,hq0,hqs⟩),hiq⟩,by show z4+1-(q+1)<z4+1-q;omega,cA (.cons _ (.refl _)) (.refl _) (by grind) (sA rfl)⟩
 refine wcp false rfl (by first|exact eE (by omega)|(simp [bC]<;>omega)) (go 11 ?_)
 have hs1:1 <= sg.length /\ sg.length <= 4:=by omega
 refine go 4 ?_
 refine aEw [] (by omega) fun gF capF hgF=>?_
 subst hgF
 refine fM (fun g:Nat×Nat×Nat×List bS=>(⟨264,(gF::(aY vv++[W,S,b1])),⟨⟨S,102,[.sl l.length (l.map fun i=>.val (.int .i64 i)),nC g.2.2.1]⟩::⟨W,104,[.val (.pointer (some ⟨S,0,none⟩)),(.sl gs.length (gs.flatMap dB)),(.sl ms.length (ms.flatMap bT)),(.val (.slice (some ⟨gF,0,none⟩) sg.length capF)),nC g.2.1,.val (.bool ar)]⟩::⟨b1,30,[.val (.slice none 0 0),.val (.slice none 0 0),.val (.slice none 0 0)]⟩::bx,⟨.slice (some ⟨gF,0,none⟩) sg.length capF,58,3,sg.length,(bXt sg g.2.2.2).flatMap cQ⟩::⟨vv,9,1,gs.length,bP (gs.map aI.name)⟩::rw⟩,[(16,nI g.1),(7,.c (.val vv)),(3,pP W),(2,pP b1)]⟩:AS)) (fun g=>g.1 <= sg.length /\ g.2.2.2.length=g.1 /\ g.2.2.2.map bS.sig=sg.take g.1 /\ aPv ms sg gs g.2.1 g.2.2.2 /\ g.2.1 <= 24 /\ g.2.2.1 <= l.length) (fun g=>sg.length-g.1) (0,24,ik,[]) (cA (.refl _) (.refl _) (by intro x hx;simp [aY,Value.ownBlock] at hx⊢;rcases hx with h|h|h|h|h<;>simp [h]) (sA rfl)) ⟨Nat.zero_le _,rfl,by simp,fun _ h=>h,Nat.le_refl _,hik⟩ ?_
 clear hik hq
 rintro ⟨i4,lf,iw,ds⟩ ⟨hi4,hds,hdm,hbt,hlf,hiw⟩
 dsimp only at hi4 hds hdm hbt hlf hiw
 subst hds
 show AWp prog _ (⟨264,(gF::(aY vv++[W,S,b1])),⟨⟨S,102,[.sl l.length (l.map fun i=>.val (.int .i64 i)),nC iw]⟩::⟨W,104,[.val (.pointer (some ⟨S,0,none⟩)),(.sl gs.length (gs.flatMap dB)),(.sl ms.length (ms.flatMap bT)),(.val (.slice (some ⟨gF,0,none⟩) sg.length capF)),nC lf,.val (.bool ar)]⟩::⟨b1,30,[.val (.slice none 0 0),.val (.slice none 0 0),.val (.slice none 0 0)]⟩::bx,⟨.slice (some ⟨gF,0,none⟩) sg.length capF,58,3,sg.length,(bXt sg ds).flatMap cQ⟩::⟨vv,9,1,gs.length,bP (gs.map aI.name)⟩::rw⟩,[(16,nI ds.length),(7,.c (.val vv)),(3,pP W),(2,pP b1)]⟩:AS) _
 refine go 10 ?_
 by_cases hlt4:ds.length<sg.length
 ·have hmz:=aP2 hms
  have hfp:=aQm hsg hdm
  have hps:sg[ds.length].2.length <= 2:=(hsg _ hlt4).2.2.1
  refine wcp true rfl (by first|exact eU (by omega)|(simp [bC]<;>omega)) (go 9 ?_)
  refine wo rfl (aTr rfl rfl (by decide) underlying50 sizeOf9 fun g0=>?_)
  refine go 1 ?_
  refine wo rfl (aSk (ds:=bP (gs.map aI.name)) (m:=gs.length) [] Tryz.t9 16 rfl rfl (by decide) rfl rfl (by simp) underlying50 (by kernel_rfl) rfl rfl rfl rfl (by decide) (by unfold maxLen;omega) (by omega) (show 0+gs.length=(aA4 gs (sg[ds.length].2.take 0)).length by simp [aA4]) (fun _ b hb=>by simp [aY,Value.ownBlock] at hb;simp [hb]) (fun b hb=>by simp [aY,Value.ownBlock] at hb;simp [hb]) (by simp) (show []++bP (gs.map aI.name)=bP (aA4 gs (sg[ds.length].2.take 0)) by simp [aA4]) fun u0=>?_)
  refine go 10 ?_
  refine fM (fun g:Nat×Value×List ByteArray=>(⟨264,aY g.2.1++(gF::(aY vv++[W,S,b1])),⟨⟨S,102,[.sl l.length (l.map fun i=>.val (.int .i64 i)),nC iw]⟩::⟨W,104,[.val (.pointer (some ⟨S,0,none⟩)),(.sl gs.length (gs.flatMap dB)),(.sl ms.length (ms.flatMap bT)),(.val (.slice (some ⟨gF,0,none⟩) sg.length capF)),nC lf,.val (.bool ar)]⟩::⟨b1,30,[.val (.slice none 0 0),.val (.slice none 0 0),.val (.slice none 0 0)]⟩::bx,⟨g.2.1,9,1,g.2.2.length,bP g.2.2⟩::⟨.slice (some ⟨gF,0,none⟩) sg.length capF,58,3,sg.length,(bXt sg ds).flatMap cQ⟩::⟨vv,9,1,gs.length,bP (gs.map aI.name)⟩::rw⟩,[(18,nI g.1),(17,.c (.val g.2.1)),(16,nI ds.length),(7,.c (.val vv)),(3,pP W),(2,pP b1)]⟩:AS)) (fun g=>g.1 <= sg[ds.length].2.length /\ g.2.2=aA4 gs (sg[ds.length].2.take g.1)) (fun g=>sg[ds.length].2.length-g.1) (0,u0,aA4 gs (sg[ds.length].2.take 0)) (cA (.refl _) (.refl _) (by intro x hx;simp at hx⊢;rcases hx with h|h|h|h|h|h<;>simp [h]) (sA rfl)) ⟨Nat.zero_le _,rfl⟩ ?_
  rintro ⟨j,u,us⟩ ⟨hj,hus⟩
  dsimp only at hj hus
  have hul:us.length <= 4:=by have h1:(sg[ds.length].2.take j).length <= 2:=(by rw [List.length_take];omega);have h2:=List.length_filter_le (fun x:aS=>!x.mutex) (sg[ds.length].2.take j);rw [hus,aA4,length_append,List.length_map,List.length_map];omega
  show AWp prog _ (⟨264,aY u++(gF::(aY vv++[W,S,b1])),⟨⟨S,102,[.sl l.length (l.map fun i=>.val (.int .i64 i)),nC iw]⟩::⟨W,104,[.val (.pointer (some ⟨S,0,none⟩)),(.sl gs.length (gs.flatMap dB)),(.sl ms.length (ms.flatMap bT)),(.val (.slice (some ⟨gF,0,none⟩) sg.length capF)),nC lf,.val (.bool ar)]⟩::⟨b1,30,[.val (.slice none 0 0),.val (.slice none 0 0),.val (.slice none 0 0)]⟩::bx,⟨u,9,1,us.length,bP us⟩::⟨.slice (some ⟨gF,0,none⟩) sg.length capF,58,3,sg.length,(bXt sg ds).flatMap cQ⟩::⟨vv,9,1,gs.length,bP (gs.map aI.name)⟩::rw⟩,[(18,nI j),(17,.c (.val u)),(16,nI ds.length),(7,.c (.val vv)),(3,pP W),(2,pP b1)]⟩:AS) _
  refine go 10 ?_
  refine wyz rfl (dH ds.length rfl rfl rfl rfl hlt4 runUnderlying28 sizeOf58) ?_
  refine wyz rfl (qD 1 (0+ds.length*3+1) rfl rfl runUnderlying58 rfl sizeOf55 (by decide) rfl) ?_
  refine wyz rfl (dT (g:=gF) (k:=sg.length) (cap:=capF) (E0:=58) (zz:=3) (cs:=(bXt sg ds).flatMap cQ) rfl rfl (by simp) isAgg55 sizeOf55 (aGt hlt4) (fun _ h=>by cases h)) (go 1 ?_)
  by_cases hltj:j<sg[ds.length].2.length
  ·refine wcp true rfl (by first|exact eU (by omega)|(simp [bC]<;>omega)) (go 15 ?_)
   refine wyz rfl (dH ds.length rfl rfl rfl rfl hlt4 runUnderlying28 sizeOf58) ?_
   refine wyz rfl (qD 1 (0+ds.length*3+1) rfl rfl runUnderlying58 rfl sizeOf55 (by decide) rfl) ?_
   refine wyz rfl (dT (g:=gF) (k:=sg.length) (cap:=capF) (E0:=58) (zz:=3) (cs:=(bXt sg ds).flatMap cQ) rfl rfl (by simp) isAgg55 sizeOf55 (aGt hlt4) (fun _ h=>by cases h)) (go 1 ?_)
   refine wyz rfl (bH cP cP sg[ds.length].2 gL (fun _=>rfl) j rfl rfl rfl rfl (by omega) (by decide) runUnderlying55 sizeOf89) (go 2 ?_)
   refine wyz rfl (lF  rfl rfl) (go 2 ?_)
   refine gY rfl (fun hc17=>?_) (fun hc17=>?_)
   ·have hmt:sg[ds.length].2[j].mutex=false:=by simpa using hc17
    refine go 8 ?_
    refine wyz rfl (dH ds.length rfl rfl rfl rfl hlt4 runUnderlying28 sizeOf58) ?_
    refine wyz rfl (qD 1 (0+ds.length*3+1) rfl rfl runUnderlying58 rfl sizeOf55 (by decide) rfl) ?_
    refine wyz rfl (dT (g:=gF) (k:=sg.length) (cap:=capF) (E0:=58) (zz:=3) (cs:=(bXt sg ds).flatMap cQ) rfl rfl (by simp) isAgg55 sizeOf55 (aGt hlt4) (fun _ h=>by cases h)) (go 1 ?_)
    refine wyz rfl (bH cP cP sg[ds.length].2 gL (fun _=>rfl) j rfl rfl rfl rfl (by omega) (by decide) runUnderlying55 sizeOf89) (go 2 ?_)
    refine wo rfl (bDk bT4 rfl (.cons rfl .nil) (r:=bP [sg[ds.length].2[j].name]) rfl ?_)
    refine wo rfl (bDm [] bWi rfl rfl (by decide) (by unfold maxLen;omega) (by omega) (@length_append _ us [sg[ds.length].2[j].name]).symm (fun _ b hb=>by simp [hb]) (fun b hb=>by simp [hb]) (List.map_append (f:=fun x=>AC.val (.string x))).symm fun v5=>?_)
    refine go 6 ?_
    refine wyz rfl (dU (k:=1) rfl rfl rfl rfl (by omega)) (go 2 ?_)
    refine ⟨(j+1,v5,(us++[sg[ds.length].2[j].name])),⟨by show j+1 <= sg[ds.length].2.length;omega,by show (us++[sg[ds.length].2[j].name])=_;rw [aBt gs sg[ds.length].2 j hltj,hus,if_neg (by rw [hmt];decide)]⟩,by show sg[ds.length].2.length-(j+1)<sg[ds.length].2.length-j;omega,cA (.refl _) (.refl _) (by intro x hx;simp at hx⊢;rcases hx with h|h|h|h|h|h<;>simp [h]) (sA rfl)⟩
   have hmt:sg[ds.length].2[j].mutex=true:=by simpa using hc17
   refine go 5 ?_
   refine wyz rfl (dU (k:=1) rfl rfl rfl rfl (by omega)) (go 2 ?_)
   refine ⟨(j+1,u,us),⟨by show j+1 <= sg[ds.length].2.length;omega,by show us=_;rw [aBt gs sg[ds.length].2 j hltj,hus,if_pos hmt,List.append_nil]⟩,by show sg[ds.length].2.length-(j+1)<sg[ds.length].2.length-j;omega,cA (.refl _) (.refl _) (by intro x hx;simp at hx⊢;rcases hx with h|h|h|h|h|h<;>simp [h]) (sA rfl)⟩
  refine wcp false rfl (by first|exact eE (by omega)|(simp [bC]<;>omega)) (go 8 ?_)
  refine dx [b1] (tz [(0,true),(1,true),(2,true),(3,true),(5,true),(6,true),(7,true),(8,true),(9,true),(10,true),(12,true),(15,true)] 8 (go 13 ?_))
  refine t2 4 11 rfl ?_ ?_
  ·refine way rfl (by decide) (aX [_] rfl rfl rfl isAgg28 sizeOf28 rfl (fun _ h=>by cases h)) ?_
   refine ox 11 rfl rfl (way rfl (by decide) (aX [_] rfl rfl rfl isAgg28 sizeOf28 rfl (fun _ h=>by cases h)) ?_)
   refine tx 13 rfl (dH ds.length rfl rfl rfl rfl hlt4 runUnderlying28 sizeOf58) ?_
   refine ox 14 rfl rfl (way rfl (by decide) (dT (g:=gF) (k:=sg.length) (cap:=capF) (E0:=58) (zz:=3) (cs:=(bXt sg ds).flatMap cQ) rfl rfl (by simp) isAgg58 sizeOf58 (aMv hlt4) (fun _ h=>by cases h)) ?_)
   refine ox 16 rfl rfl (bD [S,W] rfl rfl (by decide) call46 rfl (vJ _ S W l ms sg[ds.length].2 sg[ds.length].1 _ _ ar (bXt sg ds) gF capF hl hmN.1 (by omega) hmz (by omega) (by rw [gO (by omega)];omega) (by rw [gO (by omega)];omega) hfp sg.length (gO (by omega)) lf [] [] _ _ us iw 2 6 hiw (by decide) (by decide) (by omega) (by simp)) (by intro b hb;simp at hb⊢;rcases hb with rfl|rfl<;>simp) (by intro b hb;simp at hb;rcases hb with rfl|rfl<;>simp [Sto.bl]) (fun hn b hb=>by simp at hb;rcases hb with rfl|rfl<;>exact jJ hn) ?_)
   rintro r5 s5 ⟨b5l,i5,l5,rfl,hm5,hi5,rfl⟩
   have hbm:=hm5
   rw [aAq sg ds hdm,hus,take_of_length_le (by omega)] at hbm
   refine tx 17 rfl (dH ds.length rfl rfl rfl rfl hlt4 runUnderlying28 sizeOf58) ?_
   refine tx 18 rfl (qD 2 (0+ds.length*3+2) rfl rfl runUnderlying58 rfl sizeOf56 (by decide) rfl) ?_
   refine ox 19 rfl rfl (aO0 [_] rfl rfl rfl rfl rfl sizeOf56 rfl (rI hlt4 b5l).2 (rI hlt4 b5l).1 (by simp) (fun hn=>qM (r:=(⟨.slice (some ⟨gF,0,none⟩) sg.length capF,58,3,sg.length,(bXt sg ds).flatMap cQ⟩:bA)) (by simp) hn (by simp [aY,Value.ownBlock])) ?_)
   refine ax (go 4 ?_)
   refine wyz rfl (dU (k:=1) rfl rfl rfl rfl (by omega)) (go 2 ?_)
   refine ⟨(ds.length+1,l5,i5,ds++[(⟨sg[ds.length].1,sg[ds.length].2,b5l⟩:bS)]),⟨by show ds.length+1 <= sg.length;omega,by show (ds++[(⟨sg[ds.length].1,sg[ds.length].2,b5l⟩:bS)]).length=ds.length+1;simp,by show (ds++[(⟨sg[ds.length].1,sg[ds.length].2,b5l⟩:bS)]).map bS.sig=sg.take (ds.length+1);rw [List.map_append,hdm,List.take_succ_eq_append_getElem hlt4];rfl,(fun rest hr=>by rw [append_assoc];exact hbt _ (.cons hbm hr)),by show l5 <= 24;have:=hm5.le;omega,hi5⟩,by show sg.length-(ds.length+1)<sg.length-ds.length;omega,cA (.refl _) (.cons _ (.refl _)) (by intro x hx;simp [aY,Value.ownBlock] at hx⊢;rcases hx with h|h|h|h|h<;>simp [h]) (sA rfl)⟩
  refine way rfl (by decide) (aX [_] rfl rfl rfl isAgg28 sizeOf28 rfl (fun _ h=>by cases h)) ?_
  refine tx 13 rfl (dH ds.length rfl rfl rfl rfl hlt4 runUnderlying28 sizeOf58) ?_
  refine t2 4 14 rfl ?_ ?_
  ·refine way rfl (by decide) (aX [_] rfl rfl rfl isAgg28 sizeOf28 rfl (fun _ h=>by cases h)) ?_
   refine ox 14 rfl rfl (way rfl (by decide) (dT (g:=gF) (k:=sg.length) (cap:=capF) (E0:=58) (zz:=3) (cs:=(bXt sg ds).flatMap cQ) rfl rfl (by simp) isAgg58 sizeOf58 (aMv hlt4) (fun _ h=>by cases h)) ?_)
   refine ox 16 rfl rfl (bD [S,W] rfl rfl (by decide) call46 rfl (vJ _ S W l ms sg[ds.length].2 sg[ds.length].1 _ _ ar (bXt sg ds) gF capF hl hmN.1 (by omega) hmz (by omega) (by rw [gO (by omega)];omega) (by rw [gO (by omega)];omega) hfp sg.length (gO (by omega)) lf [] [] _ _ us iw 2 6 hiw (by decide) (by decide) (by omega) (by simp)) (by intro b hb;simp at hb⊢;rcases hb with rfl|rfl<;>simp) (by intro b hb;simp at hb;rcases hb with rfl|rfl<;>simp [Sto.bl]) (fun hn b hb=>by simp at hb;rcases hb with rfl|rfl<;>exact jJ hn) ?_)
   rintro r5 s5 ⟨b5l,i5,l5,rfl,hm5,hi5,rfl⟩
   have hbm:=hm5
   rw [aAq sg ds hdm,hus,take_of_length_le (by omega)] at hbm
   refine tx 17 rfl (dH ds.length rfl rfl rfl rfl hlt4 runUnderlying28 sizeOf58) ?_
   refine tx 18 rfl (qD 2 (0+ds.length*3+2) rfl rfl runUnderlying58 rfl sizeOf56 (by decide) rfl) ?_
   refine ox 19 rfl rfl (aO0 [_] rfl rfl rfl rfl rfl sizeOf56 rfl (rI hlt4 b5l).2 (rI hlt4 b5l).1 (by simp) (fun hn=>qM (r:=(⟨.slice (some ⟨gF,0,none⟩) sg.length capF,58,3,sg.length,(bXt sg ds).flatMap cQ⟩:bA)) (by simp) hn (by simp [aY,Value.ownBlock])) ?_)
   refine ax (go 4 ?_)
   refine wyz rfl (dU (k:=1) rfl rfl rfl rfl (by omega)) (go 2 ?_)
   refine ⟨(ds.length+1,l5,i5,ds++[(⟨sg[ds.length].1,sg[ds.length].2,b5l⟩:bS)]),⟨by show ds.length+1 <= sg.length;omega,by show (ds++[(⟨sg[ds.length].1,sg[ds.length].2,b5l⟩:bS)]).length=ds.length+1;simp,by show (ds++[(⟨sg[ds.length].1,sg[ds.length].2,b5l⟩:bS)]).map bS.sig=sg.take (ds.length+1);rw [List.map_append,hdm,List.take_succ_eq_append_getElem hlt4];rfl,(fun rest hr=>by rw [append_assoc];exact hbt _ (.cons hbm hr)),by show l5 <= 24;have:=hm5.le;omega,hi5⟩,by show sg.length-(ds.length+1)<sg.length-ds.length;omega,cA (.refl _) (.cons _ (.refl _)) (by intro x hx;simp [aY,Value.ownBlock] at hx⊢;rcases hx with h|h|h|h|h<;>simp [h]) (sA rfl)⟩
  refine way rfl (by decide) (dT (g:=gF) (k:=sg.length) (cap:=capF) (E0:=58) (zz:=3) (cs:=(bXt sg ds).flatMap cQ) rfl rfl (by simp) isAgg58 sizeOf58 (aMv hlt4) (fun _ h=>by cases h)) ?_
  refine t2 4 16 rfl ?_ ?_
  ·refine way rfl (by decide) (aX [_] rfl rfl rfl isAgg28 sizeOf28 rfl (fun _ h=>by cases h)) ?_
   refine ox 16 rfl rfl (bD [S,W] rfl rfl (by decide) call46 rfl (vJ _ S W l ms sg[ds.length].2 sg[ds.length].1 _ _ ar (bXt sg ds) gF capF hl hmN.1 (by omega) hmz (by omega) (by rw [gO (by omega)];omega) (by rw [gO (by omega)];omega) hfp sg.length (gO (by omega)) lf [] [] _ _ us iw 2 6 hiw (by decide) (by decide) (by omega) (by simp)) (by intro b hb;simp at hb⊢;rcases hb with rfl|rfl<;>simp) (by intro b hb;simp at hb;rcases hb with rfl|rfl<;>simp [Sto.bl]) (fun hn b hb=>by simp at hb;rcases hb with rfl|rfl<;>exact jJ hn) ?_)
   rintro r5 s5 ⟨b5l,i5,l5,rfl,hm5,hi5,rfl⟩
   have hbm:=hm5
   rw [aAq sg ds hdm,hus,take_of_length_le (by omega)] at hbm
   refine tx 17 rfl (dH ds.length rfl rfl rfl rfl hlt4 runUnderlying28 sizeOf58) ?_
   refine tx 18 rfl (qD 2 (0+ds.length*3+2) rfl rfl runUnderlying58 rfl sizeOf56 (by decide) rfl) ?_
   refine ox 19 rfl rfl (aO0 [_] rfl rfl rfl rfl rfl sizeOf56 rfl (rI hlt4 b5l).2 (rI hlt4 b5l).1 (by simp) (fun hn=>qM (r:=(⟨.slice (some ⟨gF,0,none⟩) sg.length capF,58,3,sg.length,(bXt sg ds).flatMap cQ⟩:bA)) (by simp) hn (by simp [aY,Value.ownBlock])) ?_)
   refine ax (go 4 ?_)
   refine wyz rfl (dU (k:=1) rfl rfl rfl rfl (by omega)) (go 2 ?_)
   refine ⟨(ds.length+1,l5,i5,ds++[(⟨sg[ds.length].1,sg[ds.length].2,b5l⟩:bS)]),⟨by show ds.length+1 <= sg.length;omega,by show (ds++[(⟨sg[ds.length].1,sg[ds.length].2,b5l⟩:bS)]).length=ds.length+1;simp,by show (ds++[(⟨sg[ds.length].1,sg[ds.length].2,b5l⟩:bS)]).map bS.sig=sg.take (ds.length+1);rw [List.map_append,hdm,List.take_succ_eq_append_getElem hlt4];rfl,(fun rest hr=>by rw [append_assoc];exact hbt _ (.cons hbm hr)),by show l5 <= 24;have:=hm5.le;omega,hi5⟩,by show sg.length-(ds.length+1)<sg.length-ds.length;omega,cA (.refl _) (.cons _ (.refl _)) (by intro x hx;simp [aY,Value.ownBlock] at hx⊢;rcases hx with h|h|h|h|h<;>simp [h]) (sA rfl)⟩
  refine (bD [S,W] rfl rfl (by decide) call46 rfl (vJ _ S W l ms sg[ds.length].2 sg[ds.length].1 _ _ ar (bXt sg ds) gF capF hl hmN.1 (by omega) hmz (by omega) (by rw [gO (by omega)];omega) (by rw [gO (by omega)];omega) hfp sg.length (gO (by omega)) lf [] [] _ _ us iw 2 6 hiw (by decide) (by decide) (by omega) (by simp)) (by intro b hb;simp at hb⊢;rcases hb with rfl|rfl<;>simp) (by intro b hb;simp at hb;rcases hb with rfl|rfl<;>simp [Sto.bl]) (fun hn b hb=>by simp at hb;rcases hb with rfl|rfl<;>exact jJ hn) ?_)
  rintro r5 s5 ⟨b5l,i5,l5,rfl,hm5,hi5,rfl⟩
  have hbm:=hm5
  rw [aAq sg ds hdm,hus,take_of_length_le (by omega)] at hbm
  refine ox 4 rfl rfl (way rfl (by decide) (aX [_] rfl rfl rfl isAgg28 sizeOf28 rfl (fun _ h=>by cases h)) ?_)
  refine tx 17 rfl (dH ds.length rfl rfl rfl rfl hlt4 runUnderlying28 sizeOf58) ?_
  refine tx 18 rfl (qD 2 (0+ds.length*3+2) rfl rfl runUnderlying58 rfl sizeOf56 (by decide) rfl) ?_
  refine ox 19 rfl rfl (aO0 [_] rfl rfl rfl rfl rfl sizeOf56 rfl (rI hlt4 b5l).2 (rI hlt4 b5l).1 (by simp) (fun hn=>qM (r:=(⟨.slice (some ⟨gF,0,none⟩) sg.length capF,58,3,sg.length,(bXt sg ds).flatMap cQ⟩:bA)) (by simp) hn (by simp [aY,Value.ownBlock])) ?_)
  refine ax (go 4 ?_)
  refine wyz rfl (dU (k:=1) rfl rfl rfl rfl (by omega)) (go 2 ?_)
  refine ⟨(ds.length+1,l5,i5,ds++[(⟨sg[ds.length].1,sg[ds.length].2,b5l⟩:bS)]),⟨by show ds.length+1 <= sg.length;omega,by show (ds++[(⟨sg[ds.length].1,sg[ds.length].2,b5l⟩:bS)]).length=ds.length+1;simp,by show (ds++[(⟨sg[ds.length].1,sg[ds.length].2,b5l⟩:bS)]).map bS.sig=sg.take (ds.length+1);rw [List.map_append,hdm,List.take_succ_eq_append_getElem hlt4];rfl,(fun rest hr=>by rw [append_assoc];exact hbt _ (.cons hbm hr)),by show l5 <= 24;have:=hm5.le;omega,hi5⟩,by show sg.length-(ds.length+1)<sg.length-ds.length;omega,cA (.refl _) (.cons _ (.refl _)) (by intro x hx;simp [aY,Value.ownBlock] at hx⊢;rcases hx with h|h|h|h|h<;>simp [h]) (sA rfl)⟩
 refine wcp false rfl (by first|exact eE (by omega)|(simp [bC]<;>omega)) (go 10 ?_)
 have hdl:ds.length=sg.length:=by omega
 have hmp:=aNr hmN hms hgN hgs hs1 hsg hdl hdm ⟨_,hbt⟩
 refine aAg [_] 3 rfl rfl ?_
 rw [aL3 hdl,←hdl]
 refine go 8 ?_
 exact ⟨.inr rfl,_,⟨bx,rw⟩,aR rfl (aO [_,_] rfl rfl isAgg30 sizeOf30 (bK rfl rfl)),aA (.cons _ (.cons _ (.cons _ (.refl _)))) (.cons _ (.refl _)),⟨⟨gs,ms,ds⟩,rfl,hmp,rfl⟩⟩
end
end Go.Proofs.YtojinfngbbajgaaGreatDoor
