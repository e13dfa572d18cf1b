import Derived.Test.YtojinfngbbajgaaGreatDoorK5J
import Derived.Test.YtojinfngbbajgaaGreatDoorK29J
set_option linter.all false
set_option synthInstance.maxHeartbeats 1000000
set_option synthInstance.maxSize 1000000
set_option maxHeartbeats 1600000
set_option maxRecDepth 100000
namespace Go.Proofs.YtojinfngbbajgaaGreatDoor
open Go.Proofs.Tryz
open List (length_append length_cons length_nil mem_append mem_cons not_mem_nil append_assoc getElem_mem take_of_length_le)
section
open Go.RowKit
theorem iJ{P:Program}{U:List Nat}{o:Oper}{st:AS}{x:Operand}{t e E:TypeId}{v:Value}{z n:Nat}{cs:List AC}(A:List bA){B:List bA}(ho:o.op=.call {callee:=.builtin .len,args:=#[x],argTypes:=#[t]})(hx:evA st x=some (.c (.val v)))(hrow:st.s.rows=A++⟨v,E,z,n,cs⟩::B)(hu:∀w,(underlying t).run P w=.ok (.slice e) w)(hz:0<z:=by decide):AY P U o st (.c (.val (.int .i64 n))):=
 fW rfl fun a w hs w'=>by
  obtain ⟨us,hownR,-⟩:=hs.mem.row ⟨v,E,z,n,cs⟩ (by rw [hrow];simp)
  have hown:=hownR.row hz
  have hv:∃p c,v=.slice p n c:=by
   rcases hown.2 with ⟨h1,h2⟩|⟨g,cap,cur,h1,-⟩
   ·dsimp only at h1 h2;subst h2;exact ⟨_,_,h1⟩
   exact ⟨_,_,h1⟩
  obtain ⟨p,c,rfl⟩:=hv
  simp only [execOp,ho,resolve,List.map_toArray,List.map_cons,List.map_nil,hs.val hx]
  simp [go_sem,invoke,builtin,Builtin.len_,hu,goInt]
theorem aMa(A B:List Box)(rw:List bA)(P:Nat)(l:List Tok)(k dp kk e:Nat)(sg:ByteArray)(hk:k<l.length)(he0:e≠0):aL prog 65 [pP P,.c (.val (.int .i64 (kk:Int))),.c (.val (.string sg))] [] (PSt A B rw P l k dp e) fun t s=>t=.c (.val (.bool false)) /\ s=PSt A B rw P l k dp e:=by
 refine acB func65 rfl ?_
 show AWp prog _ ⟨42,[],⟨A++⟨P,64,[.sl l.length (l.flatMap aW),nC k,nC dp,nC e]⟩::B,rw⟩,[(0,pP P),(1,.c (.val (.int .i64 (kk:Int)))),(2,.c (.val (.string sg)))]⟩ _
 refine go 6 ?_
 refine aB [P] (by kernel_rfl) ?_
 refine tks [(0,true),(1,true),(2,true),(3,true)] 32 (by kernel_rfl) ?_
 refine go 5 ?_
 refine tr 4 (by kernel_rfl) rfl (bO false rfl rfl rfl (lA he0)) ?_
 refine tks [(5,true),(6,true),(7,true),(8,true),(9,true),(10,true),(11,true),(12,true),(13,true),(14,true),(15,true),(16,true),(17,true),(18,true),(19,true),(20,true),(21,true),(22,true),(23,true),(24,true),(25,true),(26,true),(27,true),(28,true),(29,true),(30,true),(31,true),(32,true),(33,true),(34,true),(35,true)] 0 (by kernel_rfl) ?_
 refine go 32 ?_
 refine aE (by kernel_rfl) ?_
 refine go 2 ?_
 exact bHe (s':=(PSt A B rw P l (k) (dp) (e))) rfl sb0 ⟨rfl,rfl⟩
theorem aK9(A B:List Box)(rw:List bA)(P:Nat)(l:List Tok)(k dp kk:Nat)(sg:ByteArray)(hk:k<l.length)(h4:¬l[k].kind=kk):aL prog 65 [pP P,.c (.val (.int .i64 (kk:Int))),.c (.val (.string sg))] [] (PSt A B rw P l k dp 0) fun t s=>t=.c (.val (.bool false)) /\ s=PSt A B rw P l k dp 0:=by
 refine acB func65 rfl ?_
 show AWp prog _ ⟨42,[],⟨A++⟨P,64,[.sl l.length (l.flatMap aW),nC k,nC dp,nC 0]⟩::B,rw⟩,[(0,pP P),(1,.c (.val (.int .i64 (kk:Int)))),(2,.c (.val (.string sg)))]⟩ _
 refine go 6 ?_
 refine aB [P] (by kernel_rfl) ?_
 refine tks [(0,true),(1,true),(2,true),(3,true)] 32 (by kernel_rfl) ?_
 refine go 5 ?_
 refine tr 4 (by kernel_rfl) rfl (bO true rfl rfl rfl (by rfl)) ?_
 refine tks [(5,true),(6,true),(7,true),(8,true),(9,true),(10,true),(11,true),(12,true),(13,true)] 22 (by kernel_rfl) ?_
 refine go 10 ?_
 refine tr 14 (by kernel_rfl) rfl (bH aW aW l bJ (fun _=>rfl) (k) rfl rfl rfl rfl hk (by decide) runUnderlying36 sizeOf66) ?_
 refine tks [(15,true),(16,true),(17,true)] 18 (by kernel_rfl) ?_
 refine go 4 ?_
 refine tr 18 (by kernel_rfl) rfl (bO false rfl rfl rfl (by rw [show bC .eql ((l[k].kind:Nat):Int) ((kk:Nat):Int)=some (decide (l[k].kind=kk)) from jS,decide_eq_false h4])) ?_
 refine tks [(19,true),(20,true),(21,true),(22,true),(23,true),(24,true),(25,true),(26,true),(27,true),(28,true),(29,true),(30,true),(31,true),(32,true),(33,true),(34,true),(35,true)] 0 (by kernel_rfl) ?_
 refine go 18 ?_
 refine aE (by kernel_rfl) ?_
 refine go 2 ?_
 exact bHe (s':=(PSt A B rw P l (k) (dp) (0))) rfl sb0 ⟨rfl,rfl⟩
theorem aMk(A B:List Box)(rw:List bA)(P:Nat)(l:List Tok)(k dp kk:Nat)(sg:ByteArray)(hk:k<l.length)(h4:l[k].kind=kk)(ht:l[k].text=sg):aL prog 65 [pP P,.c (.val (.int .i64 (kk:Int))),.c (.val (.string sg))] [] (PSt A B rw P l k dp 0) fun t s=>t=.c (.val (.bool true)) /\ s=PSt A B rw P l k dp 0:=by
 refine acB func65 rfl ?_
 show AWp prog _ ⟨42,[],⟨A++⟨P,64,[.sl l.length (l.flatMap aW),nC k,nC dp,nC 0]⟩::B,rw⟩,[(0,pP P),(1,.c (.val (.int .i64 (kk:Int)))),(2,.c (.val (.string sg)))]⟩ _
 refine go 6 ?_
 refine aB [P] (by kernel_rfl) ?_
 refine tks [(0,true),(1,true),(2,true),(3,true)] 32 (by kernel_rfl) ?_
 refine go 5 ?_
 refine tr 4 (by kernel_rfl) rfl (bO true rfl rfl rfl (by rfl)) ?_
 refine tks [(5,true),(6,true),(7,true),(8,true),(9,true),(10,true),(11,true),(12,true),(13,true)] 22 (by kernel_rfl) ?_
 refine go 10 ?_
 refine tr 14 (by kernel_rfl) rfl (bH aW aW l bJ (fun _=>rfl) (k) rfl rfl rfl rfl hk (by decide) runUnderlying36 sizeOf66) ?_
 refine tks [(15,true),(16,true),(17,true)] 18 (by kernel_rfl) ?_
 refine go 4 ?_
 refine tr 18 (by kernel_rfl) rfl (bO true rfl rfl rfl (by rw [h4];simp [bC])) ?_
 refine tks [(19,true),(20,true),(21,true),(22,true),(23,true),(24,true),(25,true),(26,true),(27,true),(28,true)] 7 (by kernel_rfl) ?_
 refine go 11 ?_
 refine tr 29 (by kernel_rfl) rfl (bH aW aW l bJ (fun _=>rfl) (k) rfl rfl rfl rfl hk (by decide) runUnderlying36 sizeOf66) ?_
 refine tks [(30,true),(31,true),(32,true)] 3 (by kernel_rfl) ?_
 refine go 4 ?_
 refine tr 33 (by kernel_rfl) rfl (aZ true rfl rfl rfl (by rw [ht];simp [oM])) ?_
 refine tks [(34,true),(35,true)] 0 (by kernel_rfl) ?_
 refine go 3 ?_
 refine aE (by kernel_rfl) ?_
 refine go 2 ?_
 exact bHe (s':=(PSt A B rw P l (k) (dp) (0))) rfl sb0 ⟨rfl,rfl⟩
theorem aNd(A B:List Box)(rw:List bA)(P:Nat)(l:List Tok)(k dp kk:Nat)(sg:ByteArray)(hk:k<l.length)(h4:l[k].kind=kk)(ht:¬l[k].text=sg):aL prog 65 [pP P,.c (.val (.int .i64 (kk:Int))),.c (.val (.string sg))] [] (PSt A B rw P l k dp 0) fun t s=>t=.c (.val (.bool false)) /\ s=PSt A B rw P l k dp 0:=by
 refine acB func65 rfl ?_
 show AWp prog _ ⟨42,[],⟨A++⟨P,64,[.sl l.length (l.flatMap aW),nC k,nC dp,nC 0]⟩::B,rw⟩,[(0,pP P),(1,.c (.val (.int .i64 (kk:Int)))),(2,.c (.val (.string sg)))]⟩ _
 refine go 6 ?_
 refine aB [P] (by kernel_rfl) ?_
 refine tks [(0,true),(1,true),(2,true),(3,true)] 32 (by kernel_rfl) ?_
 refine go 5 ?_
 refine tr 4 (by kernel_rfl) rfl (bO true rfl rfl rfl (by rfl)) ?_
 refine tks [(5,true),(6,true),(7,true),(8,true),(9,true),(10,true),(11,true),(12,true),(13,true)] 22 (by kernel_rfl) ?_
 refine go 10 ?_
 refine tr 14 (by kernel_rfl) rfl (bH aW aW l bJ (fun _=>rfl) (k) rfl rfl rfl rfl hk (by decide) runUnderlying36 sizeOf66) ?_
 refine tks [(15,true),(16,true),(17,true)] 18 (by kernel_rfl) ?_
 refine go 4 ?_
 refine tr 18 (by kernel_rfl) rfl (bO true rfl rfl rfl (by rw [h4];simp [bC])) ?_
 refine tks [(19,true),(20,true),(21,true),(22,true),(23,true),(24,true),(25,true),(26,true),(27,true),(28,true)] 7 (by kernel_rfl) ?_
 refine go 11 ?_
 refine tr 29 (by kernel_rfl) rfl (bH aW aW l bJ (fun _=>rfl) (k) rfl rfl rfl rfl hk (by decide) runUnderlying36 sizeOf66) ?_
 refine tks [(30,true),(31,true),(32,true)] 3 (by kernel_rfl) ?_
 refine go 4 ?_
 refine tr 33 (by kernel_rfl) rfl (aZ false rfl rfl rfl (by simp [oM,ht])) ?_
 refine tks [(34,true),(35,true)] 0 (by kernel_rfl) ?_
 refine go 3 ?_
 refine aE (by kernel_rfl) ?_
 refine go 2 ?_
 exact bHe (s':=(PSt A B rw P l (k) (dp) (0))) rfl sb0 ⟨rfl,rfl⟩
theorem aPa(A B:List Box)(rw:List bA)(P:Nat)(l:List Tok)(k dp e:Nat)(sg:List UInt8)(hk:k<l.length):aL prog 65 [pP P,.c (.val (.int .i64 3)),.c (.val (.string (bytes sg)))] [] (PSt A B rw P l k dp e) fun t s=>(e=0 /\ dN l k sg=true /\ t=.c (.val (.bool true)) /\ s=PSt A B rw P l k dp e)∨((e=0 -> dN l k sg=false) /\ t=.c (.val (.bool false)) /\ s=PSt A B rw P l k dp e):=by
 unfold dN
 rw [bG hk]
 by_cases he:e=0
 ·subst he
  by_cases h4:l[k].kind=3
  ·by_cases ht:l[k].text=bytes sg
   ·exact (aMk A B rw P l k dp 3 _ hk h4 ht).mono fun t s h=>.inl ⟨rfl,by simp [h4,ht],h⟩
   exact (aNd A B rw P l k dp 3 _ hk h4 ht).mono fun t s h=>.inr ⟨fun _=>by simp [ht],h⟩
  exact (aK9 A B rw P l k dp 3 _ hk h4).mono fun t s h=>.inr ⟨fun _=>by simp [h4],h⟩
 exact (aMa A B rw P l k dp 3 e _ hk he).mono fun t s h=>.inr ⟨fun h0=>absurd h0 he,h⟩
theorem aQi(A B:List Box)(rw:List bA)(P:Nat)(l:List Tok)(k dp c1 c2 c3:Nat)(T2:TypeId)(cs2:List AC)(nm:ByteArray)(v:Value)(acc:List aS)(hok:TOk l)(hk:k<l.length)(hal:acc.length <= 1000000)(h1:l[k].kind=1):aL prog 107 [pP c1,pP c3] (aY v++([c3]++[P])) (PSt (⟨c3,58,[.val (.string nm),.val v,.val (.slice none 0 0)]⟩::⟨c2,T2,cs2⟩::⟨c1,62,[.val (.pointer (some ⟨P,0,none⟩))]⟩::A) B (⟨v,89,2,(acc).length,(acc).flatMap cP⟩::rw) P l k dp 0) fun t s=>∃x v' k' e',t=.tup [] /\ Run 0 k (fQ l acc.length k) x k' e' /\ k'<l.length /\ e'<16 /\ s=PSt (⟨c3,58,[.val (.string nm),.val v',.val (.slice none 0 0)]⟩::⟨c2,T2,cs2⟩::⟨c1,62,[.val (.pointer (some ⟨P,0,none⟩))]⟩::A) B (⟨v',89,2,(acc++[x]).length,(acc++[x]).flatMap cP⟩::rw) P l k' dp e':=by
 have hlen:=hok.len
 have he:(0:Nat)<16:=by decide
 refine acB func107 rfl ?_
 show AWp prog _ ⟨36,aY v++([c3]++[P]),⟨⟨c3,58,[.val (.string nm),.val v,.val (.slice none 0 0)]⟩::⟨c2,T2,cs2⟩::⟨c1,62,[.val (.pointer (some ⟨P,0,none⟩))]⟩::(A++⟨P,64,[.sl l.length (l.flatMap aW),nC k,nC dp,nC 0]⟩::B),⟨v,89,2,(acc).length,(acc).flatMap cP⟩::rw⟩,[(0,pP c1),(1,pP c3)]⟩ _
 refine go 2 ?_
 refine aB [c3,c2,c1,P] (by kernel_rfl) ?_
 refine tks [(0,true),(1,true),(2,true),(3,true),(4,true),(5,true),(6,true),(7,true)] 8 (by kernel_rfl) ?_
 refine go 9 ?_
 refine tr 8 (by kernel_rfl) rfl (bH aW aW l bJ (fun _=>rfl) (k) rfl rfl rfl rfl hk (by decide) runUnderlying36 sizeOf66) ?_
 refine tks [(9,true),(10,true)] 5 (by kernel_rfl) ?_
 refine go 3 ?_
 refine tr 11 (by kernel_rfl) rfl (bO true rfl rfl rfl (by rw [h1];rfl)) ?_
 refine tks [(12,true),(13,true),(14,true),(15,true)] 0 (by kernel_rfl) ?_
 refine go 5 ?_
 refine aE (by kernel_rfl) ?_
 refine go 3 ?_
 by_cases h6:6 <= acc.length
 ·refine go 3 ?_
  refine wyz rfl (iJ [] rfl rfl rfl runUnderlying55) ?_
  refine wcQ rfl call66 rfl (mT (_::_::_::A) _ _ _ l k dp 0 acc.length 6 (by decide) h6) ?_
  rintro t2 s2 ⟨e2,hf2,rfl,rfl⟩
  obtain rfl:=hf2.1 rfl
  refine go 5 ?_
  refine wcQ rfl call108 rfl (tG (_::_::_::A) _ _ _ l k dp 3 [109,117,116,101,120] hok hk) ?_
  rintro t3 s3 (⟨hz3,-⟩|⟨ha3,rfl,rfl⟩)
  ·exact absurd hz3 (by decide)
  refine go 8 fun b1=>?_
  refine wcQ rfl call102 rfl (jD (_::_::_::_::A) _ _ _ l k dp 3 hok hk (by decide)) ?_
  rintro t4 s4 ⟨x4,k4,e4,rfl,hr4,hk4,he4,rfl⟩
  refine go 5 ?_
  have hel:Run 0 k (fQ l acc.length k) (aS.mk x4 false) k4 e4:=hr4.badP (by decide) (by unfold fQ;rw [if_pos ⟨h6,.inl (by rw [bG hk];exact h1)⟩]) k
  refine go 3 ?_
  refine wo rfl (bDk zb8 rfl (.cons rfl .nil) (aV cP cP (aS.mk x4 false) rfl rfl rfl) ?_)
  refine wo rfl (bDm [] bDt rfl rfl (by decide) (by unfold maxLen;skip;omega) (by skip;omega) (@length_append _ acc [(aS.mk x4 false)]).symm (fun _ b hb=>by simp [hb]) (fun b hb=>by simp [hb]) (List.flatMap_append (f:=cP)).symm fun v5=>?_)
  refine go 3 ?_
  exact ⟨.inl rfl,_,PSt (⟨c3,58,[.val (.string nm),.val v5,.val (.slice none 0 0)]⟩::⟨c2,T2,cs2⟩::⟨c1,62,[.val (.pointer (some ⟨P,0,none⟩))]⟩::A) B (⟨v5,89,2,(acc++[(aS.mk x4 false)]).length,(acc++[(aS.mk x4 false)]).flatMap cP⟩::rw) P l (k4) dp (e4),cH rfl,aA (.cons _ (.refl _)) (.refl _),⟨(aS.mk x4 false),v5,k4,e4,rfl,hel,hk4,he4,rfl⟩⟩
 refine go 3 ?_
 refine wyz rfl (iJ [] rfl rfl rfl runUnderlying55) ?_
 refine wcQ rfl call66 rfl (oQ (_::_::_::A) _ _ _ l k dp 0 acc.length 6 (by decide) (by omega)) ?_
 rintro t6 s6 ⟨rfl,rfl⟩
 refine go 5 ?_
 refine wcQ rfl call108 rfl (tG (_::_::_::A) _ _ _ l k dp 0 [109,117,116,101,120] hok hk) ?_
 rintro t7 s7 (⟨-,ha7,hm7,rfl,rfl⟩|⟨ha7,rfl,rfl⟩)
 ·refine go 8 fun b2=>?_
  refine wcQ rfl call102 rfl (jD (_::_::_::_::A) _ _ _ l (k+1) dp 0 hok hm7 (by decide)) ?_
  rintro t8 s8 ⟨x8,k8,e8,rfl,hr8,hk8,he8,rfl⟩
  refine go 5 ?_
  have hel:Run 0 k (fQ l acc.length k) (aS.mk x8 true) k8 e8:=(Run.from (hr8.map (f:=fun s=>aS.mk s true))).eq fun _=>by unfold fQ;rw [if_neg (fun hh=>absurd hh.1 h6),if_pos ha7]
  refine go 3 ?_
  refine wo rfl (bDk zb8 rfl (.cons rfl .nil) (aV cP cP (aS.mk x8 true) rfl rfl rfl) ?_)
  refine wo rfl (bDm [] bDt rfl rfl (by decide) (by unfold maxLen;skip;omega) (by skip;omega) (@length_append _ acc [(aS.mk x8 true)]).symm (fun _ b hb=>by simp [hb]) (fun b hb=>by simp [hb]) (List.flatMap_append (f:=cP)).symm fun v9=>?_)
  refine go 3 ?_
  exact ⟨.inl rfl,_,PSt (⟨c3,58,[.val (.string nm),.val v9,.val (.slice none 0 0)]⟩::⟨c2,T2,cs2⟩::⟨c1,62,[.val (.pointer (some ⟨P,0,none⟩))]⟩::A) B (⟨v9,89,2,(acc++[(aS.mk x8 true)]).length,(acc++[(aS.mk x8 true)]).flatMap cP⟩::rw) P l (k8) dp (e8),cH rfl,aA (.cons _ (.refl _)) (.refl _),⟨(aS.mk x8 true),v9,k8,e8,rfl,hel,hk8,he8,rfl⟩⟩
 refine go 8 fun b3=>?_
 refine wcQ rfl call102 rfl (jD (_::_::_::_::A) _ _ _ l k dp 0 hok hk he) ?_
 rintro t10 s10 ⟨x10,k10,e10,rfl,hr10,hk10,he10,rfl⟩
 refine go 5 ?_
 have hel:Run 0 k (fQ l acc.length k) (aS.mk x10 false) k10 e10:=(hr10.map (f:=fun s=>aS.mk s false)).eq fun _=>by unfold fQ;rw [if_neg (fun hh=>absurd hh.1 h6),if_neg (by rw [ha7 rfl];decide)]
 refine go 3 ?_
 refine wo rfl (bDk zb8 rfl (.cons rfl .nil) (aV cP cP (aS.mk x10 false) rfl rfl rfl) ?_)
 refine wo rfl (bDm [] bDt rfl rfl (by decide) (by unfold maxLen;skip;omega) (by skip;omega) (@length_append _ acc [(aS.mk x10 false)]).symm (fun _ b hb=>by simp [hb]) (fun b hb=>by simp [hb]) (List.flatMap_append (f:=cP)).symm fun v11=>?_)
 refine go 3 ?_
 exact ⟨.inl rfl,_,PSt (⟨c3,58,[.val (.string nm),.val v11,.val (.slice none 0 0)]⟩::⟨c2,T2,cs2⟩::⟨c1,62,[.val (.pointer (some ⟨P,0,none⟩))]⟩::A) B (⟨v11,89,2,(acc++[(aS.mk x10 false)]).length,(acc++[(aS.mk x10 false)]).flatMap cP⟩::rw) P l (k10) dp (e10),cH rfl,aA (.cons _ (.refl _)) (.refl _),⟨(aS.mk x10 false),v11,k10,e10,rfl,hel,hk10,he10,rfl⟩⟩
theorem aQ8(A B:List Box)(rw:List bA)(P:Nat)(l:List Tok)(k dp c1 c2 c3:Nat)(T2:TypeId)(cs2:List AC)(nm:ByteArray)(v:Value)(acc:List aS)(hok:TOk l)(hk:k<l.length)(hal:acc.length <= 1000000)(h1:¬l[k].kind=1):aL prog 107 [pP c1,pP c3] (aY v++([c3]++[P])) (PSt (⟨c3,58,[.val (.string nm),.val v,.val (.slice none 0 0)]⟩::⟨c2,T2,cs2⟩::⟨c1,62,[.val (.pointer (some ⟨P,0,none⟩))]⟩::A) B (⟨v,89,2,(acc).length,(acc).flatMap cP⟩::rw) P l k dp 0) fun t s=>∃x v' k' e',t=.tup [] /\ Run 0 k (fQ l acc.length k) x k' e' /\ k'<l.length /\ e'<16 /\ s=PSt (⟨c3,58,[.val (.string nm),.val v',.val (.slice none 0 0)]⟩::⟨c2,T2,cs2⟩::⟨c1,62,[.val (.pointer (some ⟨P,0,none⟩))]⟩::A) B (⟨v',89,2,(acc++[x]).length,(acc++[x]).flatMap cP⟩::rw) P l k' dp e':=by
 have hlen:=hok.len
 have he:(0:Nat)<16:=by decide
 refine acB func107 rfl ?_
 show AWp prog _ ⟨36,aY v++([c3]++[P]),⟨⟨c3,58,[.val (.string nm),.val v,.val (.slice none 0 0)]⟩::⟨c2,T2,cs2⟩::⟨c1,62,[.val (.pointer (some ⟨P,0,none⟩))]⟩::(A++⟨P,64,[.sl l.length (l.flatMap aW),nC k,nC dp,nC 0]⟩::B),⟨v,89,2,(acc).length,(acc).flatMap cP⟩::rw⟩,[(0,pP c1),(1,pP c3)]⟩ _
 refine go 2 ?_
 refine aB [c3,c2,c1,P] (by kernel_rfl) ?_
 refine tks [(0,true),(1,true),(2,true),(3,true),(4,true),(5,true),(6,true),(7,true)] 8 (by kernel_rfl) ?_
 refine go 9 ?_
 refine tr 8 (by kernel_rfl) rfl (bH aW aW l bJ (fun _=>rfl) (k) rfl rfl rfl rfl hk (by decide) runUnderlying36 sizeOf66) ?_
 refine tks [(9,true),(10,true)] 5 (by kernel_rfl) ?_
 refine go 3 ?_
 refine tr 11 (by kernel_rfl) rfl (bO false rfl rfl rfl (by rw [show bC .eql ((l[k].kind:Nat):Int) 1=some (decide (l[k].kind=1)) from jS (n:=1),decide_eq_false h1])) ?_
 refine tks [(12,true),(13,true)] 2 (by kernel_rfl) ?_
 refine go 3 ?_
 refine one 14 (by kernel_rfl) rfl rfl (bD [] rfl rfl (by decide) call65 rfl (aPa (_::_::_::A) _ _ _ l k dp 0 [109,117,116,101,120] hk) bDl bDl (fun _=>bDl) ?_)
 rintro t1 s1 (⟨-,ha1,rfl,rfl⟩|⟨ha1,rfl,rfl⟩)
 ·refine tks [(15,true)] 0 (by kernel_rfl) ?_
  refine go 2 ?_
  refine aE (by kernel_rfl) ?_
  refine go 3 ?_
  by_cases h6:6 <= acc.length
  ·refine go 3 ?_
   refine wyz rfl (iJ [] rfl rfl rfl runUnderlying55) ?_
   refine wcQ rfl call66 rfl (mT (_::_::_::A) _ _ _ l k dp 0 acc.length 6 (by decide) h6) ?_
   rintro t3 s3 ⟨e3,hf3,rfl,rfl⟩
   obtain rfl:=hf3.1 rfl
   refine go 5 ?_
   refine wcQ rfl call108 rfl (tG (_::_::_::A) _ _ _ l k dp 3 [109,117,116,101,120] hok hk) ?_
   rintro t4 s4 (⟨hz4,-⟩|⟨ha4,rfl,rfl⟩)
   ·exact absurd hz4 (by decide)
   refine go 8 fun b1=>?_
   refine wcQ rfl call102 rfl (jD (_::_::_::_::A) _ _ _ l k dp 3 hok hk (by decide)) ?_
   rintro t5 s5 ⟨x5,k5,e5,rfl,hr5,hk5,he5,rfl⟩
   refine go 5 ?_
   have hel:Run 0 k (fQ l acc.length k) (aS.mk x5 false) k5 e5:=hr5.badP (by decide) (by unfold fQ;rw [if_pos ⟨h6,.inr ha1⟩]) k
   refine go 3 ?_
   refine wo rfl (bDk zb8 rfl (.cons rfl .nil) (aV cP cP (aS.mk x5 false) rfl rfl rfl) ?_)
   refine wo rfl (bDm [] bDt rfl rfl (by decide) (by unfold maxLen;skip;omega) (by skip;omega) (@length_append _ acc [(aS.mk x5 false)]).symm (fun _ b hb=>by simp [hb]) (fun b hb=>by simp [hb]) (List.flatMap_append (f:=cP)).symm fun v6=>?_)
   refine go 3 ?_
   exact ⟨.inl rfl,_,PSt (⟨c3,58,[.val (.string nm),.val v6,.val (.slice none 0 0)]⟩::⟨c2,T2,cs2⟩::⟨c1,62,[.val (.pointer (some ⟨P,0,none⟩))]⟩::A) B (⟨v6,89,2,(acc++[(aS.mk x5 false)]).length,(acc++[(aS.mk x5 false)]).flatMap cP⟩::rw) P l (k5) dp (e5),cH rfl,aA (.cons _ (.refl _)) (.refl _),⟨(aS.mk x5 false),v6,k5,e5,rfl,hel,hk5,he5,rfl⟩⟩
  refine go 3 ?_
  refine wyz rfl (iJ [] rfl rfl rfl runUnderlying55) ?_
  refine wcQ rfl call66 rfl (oQ (_::_::_::A) _ _ _ l k dp 0 acc.length 6 (by decide) (by omega)) ?_
  rintro t7 s7 ⟨rfl,rfl⟩
  refine go 5 ?_
  refine wcQ rfl call108 rfl (tG (_::_::_::A) _ _ _ l k dp 0 [109,117,116,101,120] hok hk) ?_
  rintro t8 s8 (⟨-,ha8,hm8,rfl,rfl⟩|⟨ha8,rfl,rfl⟩)
  ·refine go 8 fun b2=>?_
   refine wcQ rfl call102 rfl (jD (_::_::_::_::A) _ _ _ l (k+1) dp 0 hok hm8 (by decide)) ?_
   rintro t9 s9 ⟨x9,k9,e9,rfl,hr9,hk9,he9,rfl⟩
   refine go 5 ?_
   have hel:Run 0 k (fQ l acc.length k) (aS.mk x9 true) k9 e9:=(Run.from (hr9.map (f:=fun s=>aS.mk s true))).eq fun _=>by unfold fQ;rw [if_neg (fun hh=>absurd hh.1 h6),if_pos ha8]
   refine go 3 ?_
   refine wo rfl (bDk zb8 rfl (.cons rfl .nil) (aV cP cP (aS.mk x9 true) rfl rfl rfl) ?_)
   refine wo rfl (bDm [] bDt rfl rfl (by decide) (by unfold maxLen;skip;omega) (by skip;omega) (@length_append _ acc [(aS.mk x9 true)]).symm (fun _ b hb=>by simp [hb]) (fun b hb=>by simp [hb]) (List.flatMap_append (f:=cP)).symm fun v10=>?_)
   refine go 3 ?_
   exact ⟨.inl rfl,_,PSt (⟨c3,58,[.val (.string nm),.val v10,.val (.slice none 0 0)]⟩::⟨c2,T2,cs2⟩::⟨c1,62,[.val (.pointer (some ⟨P,0,none⟩))]⟩::A) B (⟨v10,89,2,(acc++[(aS.mk x9 true)]).length,(acc++[(aS.mk x9 true)]).flatMap cP⟩::rw) P l (k9) dp (e9),cH rfl,aA (.cons _ (.refl _)) (.refl _),⟨(aS.mk x9 true),v10,k9,e9,rfl,hel,hk9,he9,rfl⟩⟩
  exact absurd (ha8 rfl) (by rw [ha1];decide)
 refine tks [(15,true)] 0 (by kernel_rfl) ?_
 refine go 2 ?_
 refine aE (by kernel_rfl) ?_
 refine go 7 ?_
 refine wcQ rfl call108 rfl (tG (_::_::_::A) _ _ _ l k dp 0 [109,117,116,101,120] hok hk) ?_
 rintro t12 s12 (⟨-,ha12,hm12,rfl,rfl⟩|⟨ha12,rfl,rfl⟩)
 ·exact absurd ha12 (by rw [(ha1 rfl)];decide)
 refine go 8 fun b3=>?_
 refine wcQ rfl call102 rfl (jD (_::_::_::_::A) _ _ _ l k dp 0 hok hk he) ?_
 rintro t13 s13 ⟨x13,k13,e13,rfl,hr13,hk13,he13,rfl⟩
 refine go 5 ?_
 have hel:Run 0 k (fQ l acc.length k) (aS.mk x13 false) k13 e13:=(hr13.map (f:=fun s=>aS.mk s false)).eq fun _=>by unfold fQ;rw [if_neg (fun hh=>hh.2.elim (by rw [bG hk];exact h1) (fun h=>absurd h (by rw [ha1 rfl];decide))),if_neg (by rw [ha12 rfl];decide)]
 refine go 3 ?_
 refine wo rfl (bDk zb8 rfl (.cons rfl .nil) (aV cP cP (aS.mk x13 false) rfl rfl rfl) ?_)
 refine wo rfl (bDm [] bDt rfl rfl (by decide) (by unfold maxLen;skip;omega) (by skip;omega) (@length_append _ acc [(aS.mk x13 false)]).symm (fun _ b hb=>by simp [hb]) (fun b hb=>by simp [hb]) (List.flatMap_append (f:=cP)).symm fun v14=>?_)
 refine go 3 ?_
 exact ⟨.inl rfl,_,PSt (⟨c3,58,[.val (.string nm),.val v14,.val (.slice none 0 0)]⟩::⟨c2,T2,cs2⟩::⟨c1,62,[.val (.pointer (some ⟨P,0,none⟩))]⟩::A) B (⟨v14,89,2,(acc++[(aS.mk x13 false)]).length,(acc++[(aS.mk x13 false)]).flatMap cP⟩::rw) P l (k13) dp (e13),cH rfl,aA (.cons _ (.refl _)) (.refl _),⟨(aS.mk x13 false),v14,k13,e13,rfl,hel,hk13,he13,rfl⟩⟩
theorem aQ1(A B:List Box)(rw:List bA)(P:Nat)(l:List Tok)(k dp c1 c2 c3:Nat)(T2:TypeId)(cs2:List AC)(nm:ByteArray)(v:Value)(acc:List aS)(hok:TOk l)(hk:k<l.length)(hal:acc.length <= 1000000):aL prog 107 [pP c1,pP c3] (aY v++([c3]++[P])) (PSt (⟨c3,58,[.val (.string nm),.val v,.val (.slice none 0 0)]⟩::⟨c2,T2,cs2⟩::⟨c1,62,[.val (.pointer (some ⟨P,0,none⟩))]⟩::A) B (⟨v,89,2,(acc).length,(acc).flatMap cP⟩::rw) P l k dp 0) fun t s=>∃x v' k' e',t=.tup [] /\ Run 0 k (fQ l acc.length k) x k' e' /\ k'<l.length /\ e'<16 /\ s=PSt (⟨c3,58,[.val (.string nm),.val v',.val (.slice none 0 0)]⟩::⟨c2,T2,cs2⟩::⟨c1,62,[.val (.pointer (some ⟨P,0,none⟩))]⟩::A) B (⟨v',89,2,(acc++[x]).length,(acc++[x]).flatMap cP⟩::rw) P l k' dp e':=by
 by_cases h1:l[k].kind=1
 ·exact aQi A B rw P l k dp c1 c2 c3 T2 cs2 nm v acc hok hk hal h1
 exact aQ8 A B rw P l k dp c1 c2 c3 T2 cs2 nm v acc hok hk hal h1
theorem aIu(A B:List Box)(rw:List bA)(P:Nat)(l:List Tok)(k e:Nat)(hok:TOk l)(hk:k<l.length)(he:e<16):aL prog 69 [pP P] [P] (PSt A B rw P l k 0 e) (PAn A B rw P l 0 (fun x=>.agg (fV x)) e k (sW l k)):=by
 have hlen:=hok.len
 refine acB func69 rfl ?_
 show AWp prog _ ⟨14,[P],⟨A++⟨P,64,[.sl l.length (l.flatMap aW),nC k,nC 0,nC e]⟩::B,rw⟩,[(0,pP P)]⟩ _
 refine go 9 fun b1 b2=>?_
 refine wcQ rfl call102 rfl (jD (_::_::A) _ _ _ l k 0 e hok hk he) ?_
 rintro t1 s1 ⟨x1,k1,e1,rfl,hr1,hk1,he1,rfl⟩
 refine go 6 fun b3=>?_
 refine qR 89 2 ?_
 refine go 2 ?_
 refine wyz rfl (xR rfl (vs:=[.pointer (some ⟨b1,0,none⟩),.pointer (some ⟨b3,0,none⟩)]) rfl) ?_
 refine wo rfl (bD ([b3]++[P]) rfl rfl (by decide) call106 rfl (aE0 (fun acc v=>⟨b3,58,[.val (.string x1),.val v,.val (.slice none 0 0)]⟩::⟨b2,58,[.val (.string ⟨#[]⟩),.val (.slice none 0 0),.val (.slice none 0 0)]⟩::⟨b1,62,[.val (.pointer (some ⟨P,0,none⟩))]⟩::A) B (fun acc v=>⟨v,89,2,acc.length,acc.flatMap cP⟩::rw) P l k1 0 e1 [b3] 107 #[] #[.pointer (some ⟨b1,0,none⟩),.pointer (some ⟨b3,0,none⟩)] (fQ l) hok hk1 he1 call107 (fun _ k hk=>sJ hok.last hk) (fun acc v k e b hb=>by simp [Sto.bl] at hb⊢;rcases hb with h|h|h<;>simp [h]) (fun acc v k e b hb=>by simp [Sto.bl];exact .inr (.inr (.inr (.inr (.inr (.inr (.inl hb))))))) (fun acc v k e acc' v' k' e' hn b hb hb2=>aFb (by simp) hn hb hb2) (fun acc v k hk ha=>aQ1 A B rw P l k 0 b1 b2 b3 _ _ x1 v acc hok hk (by omega))) (by intro b hb;simp at hb;rcases hb with rfl|rfl<;>simp) (by intro b hb;simp at hb;rcases hb with rfl|rfl<;>simp [Sto.bl]) (by intro _ b hb;simp at hb;rcases hb with rfl|rfl<;>simp) ?_)
 rintro t2 s2 ⟨acc,v0,k2,e2,rfl,hr2,hk2,he2,rfl⟩
 show eQ _ _ _ ⟨_,_,⟨⟨b3,58,[.val (.string x1),.val v0,.val (.slice none 0 0)]⟩::⟨b2,58,[.val (.string ⟨#[]⟩),.val (.slice none 0 0),.val (.slice none 0 0)]⟩::⟨b1,62,[.val (.pointer (some ⟨P,0,none⟩))]⟩::(A++⟨P,64,[.sl l.length (l.flatMap aW),.val (.int .i64 (((k2):Nat):Int)),.val (.int .i64 (((0):Nat):Int)),.val (.int .i64 (((e2):Nat):Int))]⟩::B),⟨v0,89,2,(acc).length,(acc).flatMap cP⟩::rw⟩,_⟩ _
 refine go 4 ?_
 refine aAg [] 1 rfl rfl ?_
 refine go 1 ?_
 refine wcQ rfl call109 rfl (zW l hok 24 (Nat.le_refl _) (_::_::_::A) _ _ _ k2 e2 hk2 he2) ?_
 rintro t3 s3 ⟨x3,k3,e3,rfl,hr3,hk3,he3,rfl⟩
 refine go 11 ?_
 exact ⟨.inr rfl,_,(PSt A B rw P l (k3) (0) (e3)),(aR rfl (aO [_] rfl rfl isAgg58 sizeOf58 (bK rfl rfl))),aA (.cons _ (.cons _ (.cons _ (.refl _)))) (.refl _),⟨⟨x1,acc,x3⟩,k3,e3,rfl,by unfold sW;exact hr1.bind (hr2.bind (hr3.map (f:=fun b=>bS.mk x1 acc b))),hk3,he3,rfl⟩⟩
end
end Go.Proofs.YtojinfngbbajgaaGreatDoor
