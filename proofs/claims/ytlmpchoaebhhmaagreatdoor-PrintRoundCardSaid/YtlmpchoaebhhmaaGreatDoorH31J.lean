import Derived.Test.YtlmpchoaebhhmaaGreatDoorH5J
import Derived.Test.YtlmpchoaebhhmaaGreatDoorH30J
import Derived.Test.YtlmpchoaebhhmaaGreatDoorH9J
import Derived.Test.YtlmpchoaebhhmaaGreatDoorH8J
import Derived.Test.YtlmpchoaebhhmaaGreatDoorH4J
set_option linter.all false
set_option synthInstance.maxHeartbeats 1000000
set_option synthInstance.maxSize 1000000
set_option maxHeartbeats 1600000
set_option maxRecDepth 100000
namespace Go.Proofs.YtlmpchoaebhhmaaGreatDoor
open Go.Proofs.Tryz
open List (length_append length_cons length_nil mem_append mem_cons not_mem_nil append_assoc getElem_mem take_of_length_le)
section
open Go.RowKit
abbrev ESt(A B:List Box)(rw:List bA)(P:Nat)(l:List Tok)(k d e:Nat):Sto:=⟨A++⟨P,274,[.sl l.length (l.flatMap aW),.val (.int .i64 (k:Int)),.val (.int .i64 (d:Int)),.val (.int .i64 (e:Int))]⟩::B,rw⟩
def EAn(A B:List Box)(rw:List bA)(P:Nat)(l:List Tok)(d k0:Nat)(r:bN aH)(t:AT)(s:Sto):Prop:=
 ∃x k1 d1 e1,t=.agg (cU x) /\ Run 0 k0 r x k1 e1 /\ k1<l.length /\ e1<16 /\ (e1=0 -> d1=d) /\ d <= d1 /\ d1 <= 24 /\ s=ESt A B rw P l k1 d1 e1
theorem aG4(op:Int)(r:bN aH):aKc op r=r.bind fun x k=>.ok (.mk op 0 aK [x]) k:=by cases r<;>rfl
theorem aI9{F:FuncId}{args:List Value}{s:Sto}{t:AT}{v:Value}(ht:∀w,dO w t v)(h:∀w,Calls prog F args.toArray w fun e w'=>e=.returned v /\ w=w'):aL prog F (args.map fun a=>.c (.val a)) [] s fun r s'=>r=t /\ s'=s:=by
 intro vs w hm _ hl hr
 have:vs=args:=by
  refine List.ext_getElem (by simpa using hl) fun i h1 h2=>?_
  have h3:=hr i (by simpa using h2) h1
  generalize hx:(args.map fun a=>AT.c (.val a))[i]'(by simpa using h2)=x at h3
  rw [List.getElem_map] at hx
  subst hx
  generalize vs[i]=u at h3
  cases h3 with|c _ _ h=>cases h;rfl
 subst this
 exact (h w).mono fun e w' ⟨h1,h2⟩=>by subst h2;exact ⟨t,v,s,h1,⟨rfl,rfl⟩,ht _,hm,cW.refl _ _,fun b hb=>.inl hb⟩
theorem aId(x:ByteArray)(s:Sto):aL prog 239 [.c (.val (.string x))] [] s fun r s'=>r=.tup [.c (.val (.int .i64 ((binOp x).1:Int))),.c (.val (.int .i64 ((binOp x).2:Int)))] /\ s'=s:=
 aI9 (args:=[.string x]) (fun w=>.tup _ [_,_] rfl fun i h h'=>by
  match i,h,h' with
  |0,_,_=>exact .c _ _ (.val _ rfl)
  |1,_,_=>exact .c _ _ (.val _ rfl)) fun w=>aDq x w
theorem aR3(A B:List Box)(rw:List bA)(P:Nat)(l:List Tok)(k d e:Nat)(sg:ByteArray)(hk:k<l.length)(h4:l[k].kind=4)(ht:l[k].text=sg):aL prog 247 [pP P,.c (.val (.string sg))] [P] (ESt A B rw P l k d e) fun t s=>t=.c (.val (.bool true)) /\ s=ESt A B rw P l k d e:=by
 refine acB func247 rfl ?_
 show AWp prog _ ⟨32,[P],⟨A++⟨P,274,[.sl l.length (l.flatMap aW),nC k,nC d,nC e]⟩::B,rw⟩,[(0,pP P),(1,.c (.val (.string sg)))]⟩ _
 refine go 6 ?_
 refine aB [P] (by kernel_rfl) ?_
 refine tks [(0,true),(1,true),(2,true),(3,true),(4,true),(5,true),(6,true),(7,true)] 20 (by kernel_rfl) ?_
 refine go 9 ?_
 refine tr 8 (by kernel_rfl) rfl (bH aW aW l bJ (fun _=>rfl) (k) rfl rfl rfl rfl hk (by decide) runUnderlying51 sizeOf99) ?_
 refine tks [(9,true),(10,true)] 17 (by kernel_rfl) ?_
 refine go 3 ?_
 refine tr 11 (by kernel_rfl) rfl (bO true rfl rfl rfl (by rw [h4];rfl)) ?_
 refine tks [(12,true),(13,true),(14,true),(15,true),(16,true),(17,true),(18,true),(19,true),(20,true)] 7 (by kernel_rfl) ?_
 refine go 10 ?_
 refine tr 21 (by kernel_rfl) rfl (bH aW aW l bJ (fun _=>rfl) (k) rfl rfl rfl rfl hk (by decide) runUnderlying51 sizeOf99) ?_
 refine tks [(22,true),(23,true),(24,true)] 3 (by kernel_rfl) ?_
 refine go 4 ?_
 refine tr 25 (by kernel_rfl) rfl (aZ true rfl rfl rfl (by rw [ht];simp [oM])) ?_
 refine tks [(26,true),(27,true)] 0 (by kernel_rfl) ?_
 refine go 3 ?_
 refine aE (by kernel_rfl) ?_
 refine go 2 ?_
 exact bHe (s':=(ESt A B rw P l (k) (d) (e))) rfl sb0 ⟨rfl,rfl⟩
theorem aSo(A B:List Box)(rw:List bA)(P:Nat)(l:List Tok)(k d e:Nat)(sg:ByteArray)(hk:k<l.length)(h4:l[k].kind=4)(ht:¬l[k].text=sg):aL prog 247 [pP P,.c (.val (.string sg))] [P] (ESt A B rw P l k d e) fun t s=>t=.c (.val (.bool false)) /\ s=ESt A B rw P l k d e:=by
 refine acB func247 rfl ?_
 show AWp prog _ ⟨32,[P],⟨A++⟨P,274,[.sl l.length (l.flatMap aW),nC k,nC d,nC e]⟩::B,rw⟩,[(0,pP P),(1,.c (.val (.string sg)))]⟩ _
 refine go 6 ?_
 refine aB [P] (by kernel_rfl) ?_
 refine tks [(0,true),(1,true),(2,true),(3,true),(4,true),(5,true),(6,true),(7,true)] 20 (by kernel_rfl) ?_
 refine go 9 ?_
 refine tr 8 (by kernel_rfl) rfl (bH aW aW l bJ (fun _=>rfl) (k) rfl rfl rfl rfl hk (by decide) runUnderlying51 sizeOf99) ?_
 refine tks [(9,true),(10,true)] 17 (by kernel_rfl) ?_
 refine go 3 ?_
 refine tr 11 (by kernel_rfl) rfl (bO true rfl rfl rfl (by rw [h4];rfl)) ?_
 refine tks [(12,true),(13,true),(14,true),(15,true),(16,true),(17,true),(18,true),(19,true),(20,true)] 7 (by kernel_rfl) ?_
 refine go 10 ?_
 refine tr 21 (by kernel_rfl) rfl (bH aW aW l bJ (fun _=>rfl) (k) rfl rfl rfl rfl hk (by decide) runUnderlying51 sizeOf99) ?_
 refine tks [(22,true),(23,true),(24,true)] 3 (by kernel_rfl) ?_
 refine go 4 ?_
 refine tr 25 (by kernel_rfl) rfl (aZ false rfl rfl rfl (by simp [oM,ht])) ?_
 refine tks [(26,true),(27,true)] 0 (by kernel_rfl) ?_
 refine go 3 ?_
 refine aE (by kernel_rfl) ?_
 refine go 2 ?_
 exact bHe (s':=(ESt A B rw P l (k) (d) (e))) rfl sb0 ⟨rfl,rfl⟩
theorem aTo(A B:List Box)(rw:List bA)(P:Nat)(l:List Tok)(k d e:Nat)(sg:ByteArray)(hk:k<l.length)(h4:¬l[k].kind=4):aL prog 247 [pP P,.c (.val (.string sg))] [P] (ESt A B rw P l k d e) fun t s=>t=.c (.val (.bool false)) /\ s=ESt A B rw P l k d e:=by
 refine acB func247 rfl ?_
 show AWp prog _ ⟨32,[P],⟨A++⟨P,274,[.sl l.length (l.flatMap aW),nC k,nC d,nC e]⟩::B,rw⟩,[(0,pP P),(1,.c (.val (.string sg)))]⟩ _
 refine go 6 ?_
 refine aB [P] (by kernel_rfl) ?_
 refine tks [(0,true),(1,true),(2,true),(3,true),(4,true),(5,true),(6,true),(7,true)] 20 (by kernel_rfl) ?_
 refine go 9 ?_
 refine tr 8 (by kernel_rfl) rfl (bH aW aW l bJ (fun _=>rfl) (k) rfl rfl rfl rfl hk (by decide) runUnderlying51 sizeOf99) ?_
 refine tks [(9,true),(10,true)] 17 (by kernel_rfl) ?_
 refine go 3 ?_
 refine tr 11 (by kernel_rfl) rfl (bO false rfl rfl rfl (by rw [show bC .eql ((l[k].kind:Nat):Int) 4=some (decide (l[k].kind=4)) from jS (n:=4),decide_eq_false h4])) ?_
 refine tks [(12,true),(13,true),(14,true),(15,true),(16,true),(17,true),(18,true),(19,true),(20,true),(21,true),(22,true),(23,true),(24,true),(25,true),(26,true),(27,true)] 0 (by kernel_rfl) ?_
 refine go 17 ?_
 refine aE (by kernel_rfl) ?_
 refine go 2 ?_
 exact bHe (s':=(ESt A B rw P l (k) (d) (e))) rfl sb0 ⟨rfl,rfl⟩
theorem zV(A B:List Box)(rw:List bA)(P:Nat)(l:List Tok)(k d e:Nat)(sg:List UInt8)(hk:k<l.length):aL prog 247 [pP P,.c (.val (.string (bytes sg)))] [P] (ESt A B rw P l k d e) fun t s=>(cS l k sg=true /\ t=.c (.val (.bool true)) /\ s=ESt A B rw P l k d e)∨(cS l k sg=false /\ t=.c (.val (.bool false)) /\ s=ESt A B rw P l k d e):=by
 unfold cS
 rw [bG hk]
 by_cases h4:l[k].kind=4
 ·by_cases ht:l[k].text=bytes sg
  ·exact (aR3 A B rw P l k d e _ hk h4 ht).mono fun t s h=>.inl ⟨by simp [h4,ht],h⟩
  exact (aSo A B rw P l k d e _ hk h4 ht).mono fun t s h=>.inr ⟨by simp [ht],h⟩
 exact (aTo A B rw P l k d e _ hk h4).mono fun t s h=>.inr ⟨by simp [h4],h⟩
theorem aDg(A B:List Box)(rw:List bA)(P:Nat)(l:List Tok)(k d e x:Nat):aL prog 250 [pP P,.c (.val (.int .i64 (x:Int)))] [P] (ESt A B rw P l k d e) fun t s=>t=.agg (cU .zero) /\ s=ESt A B rw P l k d x:=by
 refine acB func250 rfl ?_
 show AWp prog _ ⟨10,[P],⟨A++⟨P,274,[.sl l.length (l.flatMap aW),nC k,nC d,nC e]⟩::B,rw⟩,[(0,pP P),(1,.c (.val (.int .i64 (x:Int))))]⟩ _
 refine go 21 fun b1=>?_
 exact ⟨.inr rfl,_,(ESt A B rw P l (k) (d) (x)),(eK (Wk.agg (.r (.r (.r (.n .nil))))) (aR rfl (aO [] rfl rfl isAgg89 sizeOf89 (bK rfl rfl)))),aA (.cons _ (.refl _)) (.refl _),rfl,rfl⟩
theorem aA8(A B:List Box)(rw:List bA)(P:Nat)(l:List Tok)(k:Nat):aL prog 251 [pP P] [P] (ESt A B rw P l k 24 0) fun t s=>t=.c (.val (.bool false)) /\ s=ESt A B rw P l k 24 3:=by
 refine acB func251 rfl ?_
 show AWp prog _ ⟨25,[P],⟨A++⟨P,274,[.sl l.length (l.flatMap aW),nC k,nC 24,nC 0]⟩::B,rw⟩,[(0,pP P)]⟩ _
 refine go 12 ?_
 refine wcp true rfl (by rfl) ?_
 refine go 18 ?_
 exact bHe (s':=(ESt A B rw P l (k) (24) (3))) rfl sb0 ⟨rfl,rfl⟩
theorem aBn(A B:List Box)(rw:List bA)(P:Nat)(l:List Tok)(k d:Nat)(hd:d<24)(hk9:k<1000000):aL prog 251 [pP P] [P] (ESt A B rw P l k d 0) fun t s=>t=.c (.val (.bool true)) /\ s=ESt A B rw P l (k+1) (d+1) 0:=by
 refine acB func251 rfl ?_
 show AWp prog _ ⟨25,[P],⟨A++⟨P,274,[.sl l.length (l.flatMap aW),nC k,nC d,nC 0]⟩::B,rw⟩,[(0,pP P)]⟩ _
 refine go 12 ?_
 refine wcp false rfl (by rw [show bC .eql ((d:Nat):Int) 24=some (decide (d=24)) from jS (n:=24),decide_eq_false (by omega)]) ?_
 refine go 11 ?_
 refine wad rfl ?_
 refine go 11 ?_
 refine wad rfl ?_
 refine go 11 ?_
 exact bHe (s':=(ESt A B rw P l (k+1) (d+1) (0))) rfl sb0 ⟨rfl,rfl⟩
theorem xQ(A B:List Box)(rw:List bA)(P:Nat)(l:List Tok)(k:Nat)(op:Int)(hok:TOk l)(hk:k<l.length):aL prog 248 [pP P,.c (.val (.int .i64 op))] [P] (ESt A B rw P l k 24 0) (EAn A B rw P l 24 k (.err k 3)):=by
 have hlen:=hok.len
 refine acB func248 rfl ?_
 show AWp prog _ ⟨23,[P],⟨A++⟨P,274,[.sl l.length (l.flatMap aW),nC k,nC 24,nC 0]⟩::B,rw⟩,[(0,pP P),(1,.c (.val (.int .i64 op)))]⟩ _
 refine go 9 fun b1=>?_
 refine wcQ rfl call251 rfl (aA8 (_::A) _ _ _ l k) ?_
 rintro t1 s1 ⟨rfl,rfl⟩
 refine go 12 ?_
 exact ⟨.inr rfl,_,(ESt A B rw P l (k) (24) (3)),(eK (Wk.agg (.r (.r (.r (.n .nil))))) (aR rfl (aO [] rfl rfl isAgg89 sizeOf89 (bK rfl rfl)))),aA (.cons _ (.refl _)) (.refl _),⟨.zero,k,24,3,rfl,.err _ _ _ _ rfl (by decide),hk,by decide,(fun h=>nomatch h),Nat.le_refl _,Nat.le_refl _,rfl⟩⟩
theorem tV(l:List Tok)(r:bN aH):aHo l r=r.bind fun x k=>if cS l k [41] then .ok x (k+1) else .err k 4:=by cases r<;>rfl
theorem aE6(A B:List Box)(rw:List bA)(P:Nat)(l:List Tok)(k:Nat)(hok:TOk l)(hk:k<l.length):aL prog 249 [pP P] [P] (ESt A B rw P l k 24 0) (EAn A B rw P l 24 k (.err k 3)):=by
 have hlen:=hok.len
 refine acB func249 rfl ?_
 show AWp prog _ ⟨36,[P],⟨A++⟨P,274,[.sl l.length (l.flatMap aW),nC k,nC 24,nC 0]⟩::B,rw⟩,[(0,pP P)]⟩ _
 refine go 9 fun b1=>?_
 refine wcQ rfl call251 rfl (aA8 (_::A) _ _ _ l k) ?_
 rintro t1 s1 ⟨rfl,rfl⟩
 refine go 12 ?_
 exact ⟨.inr rfl,_,(ESt A B rw P l (k) (24) (3)),(eK (Wk.agg (.r (.r (.r (.n .nil))))) (aR rfl (aO [] rfl rfl isAgg89 sizeOf89 (bK rfl rfl)))),aA (.cons _ (.refl _)) (.refl _),⟨.zero,k,24,3,rfl,.err _ _ _ _ rfl (by decide),hk,by decide,(fun h=>nomatch h),Nat.le_refl _,Nat.le_refl _,rfl⟩⟩
theorem wW(A B:List Box)(rw:List bA)(P:Nat)(l:List Tok)(k d j:Nat)(op:Int)(hok:TOk l)(hk:k<l.length)(hm:k+1<l.length)(hd:d<24)(ih:∀(A B:List Box)(rw:List bA)(P:Nat)(k:Nat),k<l.length -> aL prog 246 [pP P] [P] (ESt A B rw P l k (d+1) 0) (EAn A B rw P l (d+1) k (bL l j k))):aL prog 248 [pP P,.c (.val (.int .i64 op))] [P] (ESt A B rw P l k d 0) (EAn A B rw P l d k (aKc op (bL l j (k+1)))):=by
 have hlen:=hok.len
 refine acB func248 rfl ?_
 show AWp prog _ ⟨23,[P],⟨A++⟨P,274,[.sl l.length (l.flatMap aW),nC k,nC d,nC 0]⟩::B,rw⟩,[(0,pP P),(1,.c (.val (.int .i64 op)))]⟩ _
 refine go 9 fun b1=>?_
 refine wcQ rfl call251 rfl (aBn (_::A) _ _ _ l k d (by omega) (by omega)) ?_
 rintro t1 s1 ⟨rfl,rfl⟩
 refine go 9 ?_
 refine wcQ rfl call246 rfl (ih (_::A) _ _ _ (k+1) hm) ?_
 rintro t3 s3 ⟨x3,k3,d3,e3,rfl,hr3,hk3,he3,hd3,hl3,hu3,rfl⟩
 refine go 10 fun b2=>?_
 refine wyz rfl (cI ((d3-1:Nat):Int) rfl rfl rfl (by omega) (by omega) (by omega)) ?_
 refine go 9 ?_
 refine wo rfl (bDk zb8 rfl (.cons rfl .nil) (aV fO cU x3 (fP _) rfl rfl) ?_)
 refine go 5 ?_
 exact ⟨.inr rfl,_,(ESt A B rw P l (k3) (d3-1) (e3)),(aR rfl (aO [_] rfl rfl isAgg89 sizeOf89 (bK rfl rfl))),aA (.cons _ (.cons _ (.refl _))) (.refl _),⟨.mk op 0 aK [x3],k3,d3-1,e3,rfl,by rw [aG4];exact (Run.from hr3).map (f:=fun x=>aH.mk op 0 aK [x]),hk3,he3,fun h=>by have:=hd3 h;omega,by omega,by omega,rfl⟩⟩
theorem aFj(A B:List Box)(rw:List bA)(P:Nat)(l:List Tok)(k d j:Nat)(hok:TOk l)(hk:k<l.length)(hm:k+1<l.length)(hd:d<24)(ihb:∀(A B:List Box)(rw:List bA)(P:Nat)(k:Nat),k<l.length -> aL prog 244 [pP P,.c (.val (.int .i64 1))] [P] (ESt A B rw P l k (d+1) 0) (EAn A B rw P l (d+1) k (gS l (bL l j) 5 k))):aL prog 249 [pP P] [P] (ESt A B rw P l k d 0) (EAn A B rw P l d k (aHo l (gS l (bL l j) 5 (k+1)))):=by
 have hlen:=hok.len
 refine acB func249 rfl ?_
 show AWp prog _ ⟨36,[P],⟨A++⟨P,274,[.sl l.length (l.flatMap aW),nC k,nC d,nC 0]⟩::B,rw⟩,[(0,pP P)]⟩ _
 refine go 9 fun b1=>?_
 refine wcQ rfl call251 rfl (aBn (_::A) _ _ _ l k d (by omega) (by omega)) ?_
 rintro t1 s1 ⟨rfl,rfl⟩
 refine go 9 ?_
 refine wcQ rfl call244 rfl (ihb (_::A) _ _ _ (k+1) hm) ?_
 rintro t3 s3 ⟨x3,k3,d3,e3,rfl,hr3,hk3,he3,hd3,hl3,hu3,rfl⟩
 refine go 7 fun b2=>?_
 by_cases her:e3=0
 ·refine go 4 ?_
  refine wcp false rfl (by rw [her];rfl) ?_
  refine go 9 ?_
  refine wcQ rfl call247 rfl (zV (_::_::A) _ _ _ l k3 d3 e3 [41] hk3) ?_
  rintro t5 s5 (⟨ha5,rfl,rfl⟩|⟨ha5,rfl,rfl⟩)
  ·refine go 8 ?_
   have hm2:=eF hok.last hk3 ha5
   refine go 4 ?_
   refine wad rfl ?_
   refine go 11 ?_
   refine wyz rfl (cI ((d3-1:Nat):Int) rfl rfl rfl (by omega) (by omega) (by omega)) ?_
   refine go 12 ?_
   exact ⟨.inr rfl,_,(ESt A B rw P l (k3+1) (d3-1) (e3)),(aR rfl (aO [_] rfl rfl isAgg89 sizeOf89 (bK rfl rfl))),aA (.cons _ (.cons _ (.refl _))) (.refl _),⟨x3,k3+1,d3-1,e3,rfl,by rw [tV];exact (Run.from hr3).bind (by rw [her,if_pos ha5];exact .ok _ _ _ rfl),hm2,he3,fun h=>by have:=hd3 h;omega,by omega,by omega,rfl⟩⟩
  refine go 7 ?_
  refine wcQ rfl call250 rfl (aDg (_::_::A) _ _ _ l k3 d3 e3 4) ?_
  rintro t8 s8 ⟨rfl,rfl⟩
  refine go 5 ?_
  exact ⟨.inr rfl,_,(ESt A B rw P l (k3) (d3) (4)),(aR rfl (aO [_] rfl rfl isAgg89 sizeOf89 (bK rfl rfl))),aA (.cons _ (.cons _ (.refl _))) (.refl _),⟨.zero,k3,d3,4,rfl,by rw [tV];exact (Run.from hr3).bind (by rw [her,if_neg (by rw [ha5];decide)];exact .err _ _ _ _ rfl (by decide)),hk3,by decide,(fun h=>nomatch h),by omega,by omega,rfl⟩⟩
 refine go 4 ?_
 refine wcp true rfl (by simp [bC,her]) ?_
 refine go 11 ?_
 exact ⟨.inr rfl,_,(ESt A B rw P l (k3) (d3) (e3)),(aR rfl (aO [_] rfl rfl isAgg89 sizeOf89 (bK rfl rfl))),aA (.cons _ (.cons _ (.refl _))) (.refl _),⟨x3,k3,d3,e3,rfl,by rw [tV];exact (Run.from hr3).bind (.skip her _ _),hk3,he3,fun h=>absurd h her,by omega,by omega,rfl⟩⟩
theorem aJs(A B:List Box)(rw:List bA)(P:Nat)(l:List Tok)(k:Nat)(hok:TOk l)(hk:k<l.length):aL prog 246 [pP P] [P] (ESt A B rw P l k 24 0) (EAn A B rw P l 24 k (bL l 0 k)):=by
 have hlen:=hok.len
 refine acB func246 rfl ?_
 show AWp prog _ ⟨59,[P],⟨A++⟨P,274,[.sl l.length (l.flatMap aW),nC k,nC 24,nC 0]⟩::B,rw⟩,[(0,pP P)]⟩ _
 refine go 6 fun b1=>?_
 refine aB [b1,P] (by kernel_rfl) ?_
 refine tks [(0,true),(1,true),(2,true),(3,true),(4,true),(5,true),(6,true),(7,true)] 4 (by kernel_rfl) ?_
 refine go 9 ?_
 refine tr 8 (by kernel_rfl) rfl (bH aW aW l bJ (fun _=>rfl) (k) rfl rfl rfl rfl hk (by decide) runUnderlying51 sizeOf99) ?_
 refine tks [(9,true),(10,false),(11,false)] 0 (by kernel_rfl) ?_
 refine go 4 fun b2=>?_
 refine aE (by kernel_rfl) ?_
 refine go 5 ?_
 rcases (show l[k].kind=2∨(¬l[k].kind=2 /\ l[k].kind=1)∨(¬l[k].kind=2 /\ ¬l[k].kind=1) by omega) with h2|⟨h2,h1⟩|⟨h2,h1⟩
 ·have hm:=hok.last.more hk (by rw [bG hk,h2];decide)
  refine go 2 ?_
  refine wcp true rfl (by rw [h2];rfl) ?_
  refine go 10 ?_
  refine wad rfl ?_
  refine go 16 ?_
  exact ⟨.inr rfl,_,(ESt A B rw P l (k+1) (24) (0)),(eK (Wk.agg (.r (.r (.r (.n .nil))))) (aR rfl (aO [_] rfl rfl isAgg89 sizeOf89 (bK rfl rfl)))),aA (.cons _ (.cons _ (.refl _))) (.refl _),⟨.mk 1 (l[k].num:Int) aK [],k+1,24,0,rfl,.ok _ _ _ (by unfold bL;rw [bG hk,if_pos h2]),hm,by decide,fun _=>rfl,Nat.le_refl _,by omega,rfl⟩⟩
 ·have hm:=hok.last.more hk (by rw [bG hk,h1];decide)
  refine go 2 ?_
  refine wcp false rfl (by rw [show bC .eql ((l[k].kind:Nat):Int) 2=some (decide (l[k].kind=2)) from jS (n:=2),decide_eq_false h2]) ?_
  refine go 8 ?_
  refine wcp true rfl (by rw [h1];rfl) ?_
  refine go 10 ?_
  refine wad rfl ?_
  refine go 16 ?_
  exact ⟨.inr rfl,_,(ESt A B rw P l (k+1) (24) (0)),(eK (Wk.agg (.r (.r (.r (.n .nil))))) (aR rfl (aO [_] rfl rfl isAgg89 sizeOf89 (bK rfl rfl)))),aA (.cons _ (.cons _ (.refl _))) (.refl _),⟨.mk 2 0 l[k].text [],k+1,24,0,rfl,.ok _ _ _ (by unfold bL;rw [bG hk,if_neg h2,if_pos h1]),hm,by decide,fun _=>rfl,Nat.le_refl _,by omega,rfl⟩⟩
 refine go 2 ?_
 refine wcp false rfl (by rw [show bC .eql ((l[k].kind:Nat):Int) 2=some (decide (l[k].kind=2)) from jS (n:=2),decide_eq_false h2]) ?_
 refine go 8 ?_
 refine wcp false rfl (by rw [show bC .eql ((l[k].kind:Nat):Int) 1=some (decide (l[k].kind=1)) from jS (n:=1),decide_eq_false h1]) ?_
 refine go 7 ?_
 refine wcQ rfl call247 rfl (zV (_::_::A) _ _ _ l k 24 0 [45] hk) ?_
 rintro t6 s6 (⟨ha6,rfl,rfl⟩|⟨ha6,rfl,rfl⟩)
 ·refine go 7 ?_
  have hm:=eF hok.last hk ha6
  refine wcQ rfl call248 rfl (xQ (_::_::A) _ _ _ l k 3 hok hk) ?_
  rintro t8 s8 ⟨x8,k8,d8,e8,rfl,hr8,hk8,he8,hd8,hl8,hu8,rfl⟩
  refine go 6 ?_
  exact ⟨.inr rfl,_,(ESt A B rw P l (k8) (d8) (e8)),(aR rfl (aO [_] rfl rfl isAgg89 sizeOf89 (bK rfl rfl))),aA (.cons _ (.cons _ (.refl _))) (.refl _),⟨x8,k8,d8,e8,rfl,hr8.eq fun _=>by unfold bL;rw [if_neg (by rw [bG hk];exact h2),if_neg (by rw [bG hk];exact h1)];rw [if_pos (by simp [ha6])],hk8,he8,hd8,hl8,hu8,rfl⟩⟩
 refine go 7 ?_
 refine wcQ rfl call247 rfl (zV (_::_::A) _ _ _ l k 24 0 [33] hk) ?_
 rintro t10 s10 (⟨ha10,rfl,rfl⟩|⟨ha10,rfl,rfl⟩)
 ·refine go 7 ?_
  have hm:=eF hok.last hk ha10
  refine wcQ rfl call248 rfl (xQ (_::_::A) _ _ _ l k 4 hok hk) ?_
  rintro t12 s12 ⟨x12,k12,d12,e12,rfl,hr12,hk12,he12,hd12,hl12,hu12,rfl⟩
  refine go 6 ?_
  exact ⟨.inr rfl,_,(ESt A B rw P l (k12) (d12) (e12)),(aR rfl (aO [_] rfl rfl isAgg89 sizeOf89 (bK rfl rfl))),aA (.cons _ (.cons _ (.refl _))) (.refl _),⟨x12,k12,d12,e12,rfl,hr12.eq fun _=>by unfold bL;rw [if_neg (by rw [bG hk];exact h2),if_neg (by rw [bG hk];exact h1)];rw [if_pos (by simp [ha10])],hk12,he12,hd12,hl12,hu12,rfl⟩⟩
 refine go 7 ?_
 refine wcQ rfl call247 rfl (zV (_::_::A) _ _ _ l k 24 0 [40] hk) ?_
 rintro t14 s14 (⟨ha14,rfl,rfl⟩|⟨ha14,rfl,rfl⟩)
 ·refine go 7 ?_
  have hm:=eF hok.last hk ha14
  refine wcQ rfl call249 rfl (aE6 (_::_::A) _ _ _ l k hok hk) ?_
  rintro t16 s16 ⟨x16,k16,d16,e16,rfl,hr16,hk16,he16,hd16,hl16,hu16,rfl⟩
  refine go 6 ?_
  exact ⟨.inr rfl,_,(ESt A B rw P l (k16) (d16) (e16)),(aR rfl (aO [_] rfl rfl isAgg89 sizeOf89 (bK rfl rfl))),aA (.cons _ (.cons _ (.refl _))) (.refl _),⟨x16,k16,d16,e16,rfl,hr16.eq fun _=>by unfold bL;rw [if_neg (by rw [bG hk];exact h2),if_neg (by rw [bG hk];exact h1)];rw [if_pos (by simp [ha14])],hk16,he16,hd16,hl16,hu16,rfl⟩⟩
 refine go 10 ?_
 refine wcQ rfl call250 rfl (aDg (_::_::A) _ _ _ l k 24 0 4) ?_
 rintro t18 s18 ⟨rfl,rfl⟩
 refine go 4 ?_
 exact ⟨.inr rfl,_,(ESt A B rw P l (k) (24) (4)),(aR rfl (aO [_] rfl rfl isAgg89 sizeOf89 (bK rfl rfl))),aA (.cons _ (.cons _ (.refl _))) (.refl _),⟨.zero,k,24,4,rfl,.err _ _ _ _ (by unfold bL;rw [if_neg (by rw [bG hk];exact h2),if_neg (by rw [bG hk];exact h1)];rw [ha6,ha10,ha14];rfl) (by decide),hk,by decide,(fun h=>nomatch h),Nat.le_refl _,by omega,rfl⟩⟩
theorem aJi(A B:List Box)(rw:List bA)(P:Nat)(l:List Tok)(k d j:Nat)(hok:TOk l)(hk:k<l.length)(hd:d<24)(ih:∀(A B:List Box)(rw:List bA)(P:Nat)(k:Nat),k<l.length -> aL prog 246 [pP P] [P] (ESt A B rw P l k (d+1) 0) (EAn A B rw P l (d+1) k (bL l j k)))(ihb:∀(A B:List Box)(rw:List bA)(P:Nat)(k:Nat),k<l.length -> aL prog 244 [pP P,.c (.val (.int .i64 1))] [P] (ESt A B rw P l k (d+1) 0) (EAn A B rw P l (d+1) k (gS l (bL l j) 5 k))):aL prog 246 [pP P] [P] (ESt A B rw P l k d 0) (EAn A B rw P l d k (bL l (j+1) k)):=by
 have hlen:=hok.len
 refine acB func246 rfl ?_
 show AWp prog _ ⟨59,[P],⟨A++⟨P,274,[.sl l.length (l.flatMap aW),nC k,nC d,nC 0]⟩::B,rw⟩,[(0,pP P)]⟩ _
 refine go 6 fun b1=>?_
 refine aB [b1,P] (by kernel_rfl) ?_
 refine tks [(0,true),(1,true),(2,true),(3,true),(4,true),(5,true),(6,true),(7,true)] 4 (by kernel_rfl) ?_
 refine go 9 ?_
 refine tr 8 (by kernel_rfl) rfl (bH aW aW l bJ (fun _=>rfl) (k) rfl rfl rfl rfl hk (by decide) runUnderlying51 sizeOf99) ?_
 refine tks [(9,true),(10,false),(11,false)] 0 (by kernel_rfl) ?_
 refine go 4 fun b2=>?_
 refine aE (by kernel_rfl) ?_
 refine go 5 ?_
 rcases (show l[k].kind=2∨(¬l[k].kind=2 /\ l[k].kind=1)∨(¬l[k].kind=2 /\ ¬l[k].kind=1) by omega) with h2|⟨h2,h1⟩|⟨h2,h1⟩
 ·have hm:=hok.last.more hk (by rw [bG hk,h2];decide)
  refine go 2 ?_
  refine wcp true rfl (by rw [h2];rfl) ?_
  refine go 10 ?_
  refine wad rfl ?_
  refine go 16 ?_
  exact ⟨.inr rfl,_,(ESt A B rw P l (k+1) (d) (0)),(eK (Wk.agg (.r (.r (.r (.n .nil))))) (aR rfl (aO [_] rfl rfl isAgg89 sizeOf89 (bK rfl rfl)))),aA (.cons _ (.cons _ (.refl _))) (.refl _),⟨.mk 1 (l[k].num:Int) aK [],k+1,d,0,rfl,.ok _ _ _ (by rw [bL.eq_2];rw [bG hk,if_pos h2]),hm,by decide,fun _=>rfl,Nat.le_refl _,by omega,rfl⟩⟩
 ·have hm:=hok.last.more hk (by rw [bG hk,h1];decide)
  refine go 2 ?_
  refine wcp false rfl (by rw [show bC .eql ((l[k].kind:Nat):Int) 2=some (decide (l[k].kind=2)) from jS (n:=2),decide_eq_false h2]) ?_
  refine go 8 ?_
  refine wcp true rfl (by rw [h1];rfl) ?_
  refine go 10 ?_
  refine wad rfl ?_
  refine go 16 ?_
  exact ⟨.inr rfl,_,(ESt A B rw P l (k+1) (d) (0)),(eK (Wk.agg (.r (.r (.r (.n .nil))))) (aR rfl (aO [_] rfl rfl isAgg89 sizeOf89 (bK rfl rfl)))),aA (.cons _ (.cons _ (.refl _))) (.refl _),⟨.mk 2 0 l[k].text [],k+1,d,0,rfl,.ok _ _ _ (by rw [bL.eq_2];rw [bG hk,if_neg h2,if_pos h1]),hm,by decide,fun _=>rfl,Nat.le_refl _,by omega,rfl⟩⟩
 refine go 2 ?_
 refine wcp false rfl (by rw [show bC .eql ((l[k].kind:Nat):Int) 2=some (decide (l[k].kind=2)) from jS (n:=2),decide_eq_false h2]) ?_
 refine go 8 ?_
 refine wcp false rfl (by rw [show bC .eql ((l[k].kind:Nat):Int) 1=some (decide (l[k].kind=1)) from jS (n:=1),decide_eq_false h1]) ?_
 refine go 7 ?_
 refine wcQ rfl call247 rfl (zV (_::_::A) _ _ _ l k d 0 [45] hk) ?_
 rintro t6 s6 (⟨ha6,rfl,rfl⟩|⟨ha6,rfl,rfl⟩)
 ·refine go 7 ?_
  have hm:=eF hok.last hk ha6
  refine wcQ rfl call248 rfl (wW (_::_::A) _ _ _ l k d j 3 hok hk hm (by omega) ih) ?_
  rintro t8 s8 ⟨x8,k8,d8,e8,rfl,hr8,hk8,he8,hd8,hl8,hu8,rfl⟩
  refine go 6 ?_
  exact ⟨.inr rfl,_,(ESt A B rw P l (k8) (d8) (e8)),(aR rfl (aO [_] rfl rfl isAgg89 sizeOf89 (bK rfl rfl))),aA (.cons _ (.cons _ (.refl _))) (.refl _),⟨x8,k8,d8,e8,rfl,hr8.eq fun _=>by rw [bL.eq_2];rw [if_neg (by rw [bG hk];exact h2),if_neg (by rw [bG hk];exact h1)];rw [if_pos ha6],hk8,he8,hd8,hl8,hu8,rfl⟩⟩
 refine go 7 ?_
 refine wcQ rfl call247 rfl (zV (_::_::A) _ _ _ l k d 0 [33] hk) ?_
 rintro t10 s10 (⟨ha10,rfl,rfl⟩|⟨ha10,rfl,rfl⟩)
 ·refine go 7 ?_
  have hm:=eF hok.last hk ha10
  refine wcQ rfl call248 rfl (wW (_::_::A) _ _ _ l k d j 4 hok hk hm (by omega) ih) ?_
  rintro t12 s12 ⟨x12,k12,d12,e12,rfl,hr12,hk12,he12,hd12,hl12,hu12,rfl⟩
  refine go 6 ?_
  exact ⟨.inr rfl,_,(ESt A B rw P l (k12) (d12) (e12)),(aR rfl (aO [_] rfl rfl isAgg89 sizeOf89 (bK rfl rfl))),aA (.cons _ (.cons _ (.refl _))) (.refl _),⟨x12,k12,d12,e12,rfl,hr12.eq fun _=>by rw [bL.eq_2];rw [if_neg (by rw [bG hk];exact h2),if_neg (by rw [bG hk];exact h1)];rw [if_neg (by rw [ha6];decide),if_pos ha10],hk12,he12,hd12,hl12,hu12,rfl⟩⟩
 refine go 7 ?_
 refine wcQ rfl call247 rfl (zV (_::_::A) _ _ _ l k d 0 [40] hk) ?_
 rintro t14 s14 (⟨ha14,rfl,rfl⟩|⟨ha14,rfl,rfl⟩)
 ·refine go 7 ?_
  have hm:=eF hok.last hk ha14
  refine wcQ rfl call249 rfl (aFj (_::_::A) _ _ _ l k d j hok hk hm (by omega) ihb) ?_
  rintro t16 s16 ⟨x16,k16,d16,e16,rfl,hr16,hk16,he16,hd16,hl16,hu16,rfl⟩
  refine go 6 ?_
  exact ⟨.inr rfl,_,(ESt A B rw P l (k16) (d16) (e16)),(aR rfl (aO [_] rfl rfl isAgg89 sizeOf89 (bK rfl rfl))),aA (.cons _ (.cons _ (.refl _))) (.refl _),⟨x16,k16,d16,e16,rfl,hr16.eq fun _=>by rw [bL.eq_2];rw [if_neg (by rw [bG hk];exact h2),if_neg (by rw [bG hk];exact h1)];rw [if_neg (by rw [ha6];decide),if_neg (by rw [ha10];decide),if_pos ha14],hk16,he16,hd16,hl16,hu16,rfl⟩⟩
 refine go 10 ?_
 refine wcQ rfl call250 rfl (aDg (_::_::A) _ _ _ l k d 0 4) ?_
 rintro t18 s18 ⟨rfl,rfl⟩
 refine go 4 ?_
 exact ⟨.inr rfl,_,(ESt A B rw P l (k) (d) (4)),(aR rfl (aO [_] rfl rfl isAgg89 sizeOf89 (bK rfl rfl))),aA (.cons _ (.cons _ (.refl _))) (.refl _),⟨.zero,k,d,4,rfl,.err _ _ _ _ (by rw [bL.eq_2];rw [if_neg (by rw [bG hk];exact h2),if_neg (by rw [bG hk];exact h1)];rw [if_neg (by rw [ha6];decide),if_neg (by rw [ha10];decide),if_neg (by rw [ha14];decide)]) (by decide),hk,by decide,(fun h=>nomatch h),Nat.le_refl _,by omega,rfl⟩⟩
end
section
open Go.RowKit
theorem aP5(l:List Tok)(single:Nat -> bN aH)(j k:Nat):gS l single (j+1) k=(gS l single j k).bind fun x k=>fR l (gS l single j) (5-j) (l.length+1) x k:=by
 rw [gS];cases gS l single j k<;>rfl
theorem aC8(l:List Tok)(sub:Nat -> bN aH)(level n:Nat)(x:aH)(k:Nat):fR l sub level (n+1) x k=if (bU l k).kind=4 /\ (binOp (bU l k).text).2=level then (sub (k+1)).bind fun y k2=>fR l sub level n (.mk ((binOp (bU l k).text).1:Int) 0 aK [x,y]) k2 else .ok x k:=by
 rw [fR]
 split
 ·cases sub (k+1)<;>rfl
 rfl
theorem aKd(A B:List Box)(rw:List bA)(P:Nat)(l:List Tok)(k d:Nat)(sub:Nat -> bN aH)(hok:TOk l)(hk:k<l.length)(ih:∀(A B:List Box)(rw:List bA)(P:Nat)(k:Nat),k<l.length -> aL prog 246 [pP P] [P] (ESt A B rw P l k d 0) (EAn A B rw P l d k (sub k))):aL prog 244 [pP P,.c (.val (.int .i64 6))] [P] (ESt A B rw P l k d 0) (EAn A B rw P l d k (sub k)):=by
 have hlen:=hok.len
 refine acB func244 rfl ?_
 show AWp prog _ ⟨71,[P],⟨A++⟨P,274,[.sl l.length (l.flatMap aW),nC k,nC d,nC 0]⟩::B,rw⟩,[(0,pP P),(1,.c (.val (.int .i64 6)))]⟩ _
 refine go 9 fun b1=>?_
 refine wcp true rfl rfl ?_
 refine go 6 ?_
 refine wcQ rfl call246 rfl (ih (_::A) _ _ _ k hk) ?_
 rintro t2 s2 ⟨x2,k2,d2,e2,rfl,hr2,hk2,he2,hd2,hl2,hu2,rfl⟩
 refine go 5 ?_
 exact ⟨.inr rfl,_,(ESt A B rw P l (k2) (d2) (e2)),(aR rfl (aO [] rfl rfl isAgg89 sizeOf89 (bK rfl rfl))),aA (.cons _ (.refl _)) (.refl _),⟨x2,k2,d2,e2,rfl,hr2,hk2,he2,hd2,hl2,hu2,rfl⟩⟩
theorem aJ0(A B:List Box)(rw:List bA)(P:Nat)(l:List Tok)(k d lv:Nat)(sub:Nat -> bN aH)(hlv:lv <= 5)(hin:∀k,k<l.length -> (sub k).In l k)(hok:TOk l)(hk:k<l.length)(ih:∀(A B:List Box)(rw:List bA)(P:Nat)(k:Nat),k<l.length -> aL prog 244 [pP P,.c (.val (.int .i64 ((lv:Nat)+1:Int)))] [P] (ESt A B rw P l k d 0) (EAn A B rw P l d k (sub k))):aL prog 244 [pP P,.c (.val (.int .i64 (lv:Int)))] [P] (ESt A B rw P l k d 0) (EAn A B rw P l d k ((sub k).bind fun x k=>fR l sub lv (l.length+1) x k)):=by
 have hlen:=hok.len
 refine acB func244 rfl ?_
 show AWp prog _ ⟨71,[P],⟨A++⟨P,274,[.sl l.length (l.flatMap aW),nC k,nC d,nC 0]⟩::B,rw⟩,[(0,pP P),(1,nI lv)]⟩ _
 refine go 9 fun b1=>?_
 refine wcp false rfl (by simp [bC];omega) ?_
 refine go 9 ?_
 refine wad rfl ?_
 refine wcQ rfl call244 rfl (ih (_::A) _ _ _ k hk) ?_
 rintro t2 s2 ⟨x2,k2,d2,e2,rfl,hr2,hk2,he2,hd2,hl2,hu2,rfl⟩
 refine go 6 fun b2=>?_
 refine fM (fun g:aH×Nat×Nat×Nat=>(⟨71,[b2,b1,P],⟨⟨b2,89,cU (g.1)⟩::⟨b1,89,[.val (.int .i64 0),.val (.int .i64 0),.val (.string ⟨#[]⟩),.val (.slice none 0 0)]⟩::(A++⟨P,274,[.sl l.length (l.flatMap aW),.val (.int .i64 (((g.2.1):Nat):Int)),.val (.int .i64 (((g.2.2.1):Nat):Int)),.val (.int .i64 (((g.2.2.2):Nat):Int))]⟩::B),rw⟩,[(5,pP b2),(4,pP b1),(1,nI lv),(0,pP P)]⟩:AS)) (fun g=>g.2.1<l.length /\ g.2.2.2<16 /\ (g.2.2.2=0 -> g.2.2.1=d) /\ d <= g.2.2.1 /\ g.2.2.1 <= 24 /\ (g.2.2.2≠0 -> Run 0 k ((sub k).bind fun x k=>fR l sub lv (l.length+1) x k) g.1 g.2.1 g.2.2.2) /\ (g.2.2.2=0 -> ∃n,l.length<n+g.2.1 /\ ∀z k' e',Run 0 g.2.1 (fR l sub lv n g.1 g.2.1) z k' e' -> Run 0 k ((sub k).bind fun x k=>fR l sub lv (l.length+1) x k) z k' e')) (fun g=>if g.2.2.2=0 then l.length-g.2.1+1 else 0) (x2,k2,d2,e2) (cA (.refl _) (.refl _) (fun _ h=>h) (sA rfl)) ⟨hk2,he2,hd2,hl2,hu2,fun h=>hr2.bind (.skip h _ _),fun h=>⟨l.length+1,by show l.length<l.length+1+k2;omega,fun z k' e' h2=>hr2.bind (by rw [show e2=0 from h];exact h2)⟩⟩ ?_
 rintro ⟨x0,k0,d0,e0⟩ ⟨hk0,he0,hd0,hl0,hu0,hn0,hc0⟩
 dsimp only at hk0 he0 hd0 hl0 hu0 hn0 hc0
 show AWp prog _ (⟨71,[b2,b1,P],⟨⟨b2,89,cU (x0)⟩::⟨b1,89,[.val (.int .i64 0),.val (.int .i64 0),.val (.string ⟨#[]⟩),.val (.slice none 0 0)]⟩::(A++⟨P,274,[.sl l.length (l.flatMap aW),.val (.int .i64 (((k0):Nat):Int)),.val (.int .i64 (((d0):Nat):Int)),.val (.int .i64 (((e0):Nat):Int))]⟩::B),rw⟩,[(5,pP b2),(4,pP b1),(1,nI lv),(0,pP P)]⟩:AS) _
 by_cases h0:e0=0
 ·subst h0
  obtain rfl:d=d0:=(hd0 rfl).symm
  obtain ⟨n0,hn1,hcont⟩:=hc0 rfl
  obtain ⟨m,rfl⟩:∃m,n0=m+1:=⟨n0-1,by omega⟩
  by_cases h4:l[k0].kind=4
  ·by_cases hlv2:(binOp l[k0].text).2=lv
   ·refine go 2 ?_
    refine aB [b2,b1,P] (by kernel_rfl) ?_
    refine tks [(0,true),(1,true),(2,true),(3,true)] 15 (by kernel_rfl) ?_
    refine go 5 ?_
    refine tr 4 (by kernel_rfl) rfl (bO true rfl rfl rfl (by rfl)) ?_
    refine tks [(5,true),(6,true),(7,true),(8,true),(9,true),(10,true),(11,true),(12,true),(13,true)] 5 (by kernel_rfl) ?_
    refine go 10 ?_
    refine tr 14 (by kernel_rfl) rfl (bH aW aW l bJ (fun _=>rfl) (k0) rfl rfl rfl rfl hk0 (by decide) runUnderlying51 sizeOf99) ?_
    refine tks [(15,true),(16,true)] 2 (by kernel_rfl) ?_
    refine go 3 ?_
    refine tr 17 (by kernel_rfl) rfl (bO true rfl rfl rfl (by rw [h4];rfl)) ?_
    refine tks [(18,true)] 0 (by kernel_rfl) ?_
    refine go 2 ?_
    refine aE (by kernel_rfl) ?_
    refine go 6 ?_
    refine aB [b2,b1,P] (by kernel_rfl) ?_
    refine tks [(0,true),(1,true),(2,true),(3,true),(4,true),(5,true),(6,true),(7,true)] 9 (by kernel_rfl) ?_
    refine go 9 ?_
    refine tr 8 (by kernel_rfl) rfl (bH aW aW l bJ (fun _=>rfl) (k0) rfl rfl rfl rfl hk0 (by decide) runUnderlying51 sizeOf99) ?_
    refine tks [(9,true),(10,true)] 6 (by kernel_rfl) ?_
    refine go 3 ?_
    refine one 11 (by kernel_rfl) rfl rfl (bD [] rfl rfl (by decide) call239 rfl (aId l[k0].text _) bDl bDl (fun _=>bDl) ?_)
    rintro t9 s9 ⟨rfl,rfl⟩
    refine tks [(12,true),(13,true),(14,true),(15,true),(16,true)] 0 (by kernel_rfl) ?_
    refine go 6 ?_
    refine aE (by kernel_rfl) ?_
    refine go 6 ?_
    refine wcp false rfl (by simp [bC];omega) ?_
    refine go 7 ?_
    have hm:=hok.last.more hk0 (by rw [bG hk0,h4];decide)
    refine go 4 ?_
    refine wad rfl ?_
    refine go 9 ?_
    refine wad rfl ?_
    refine wcQ rfl call244 rfl (ih (_::_::A) _ _ _ (k0+1) hm) ?_
    rintro t11 s11 ⟨x11,k11,d11,e11,rfl,hr11,hk11,he11,hd11,hl11,hu11,rfl⟩
    refine go 8 fun b3=>?_
    refine wo rfl (bDk zb7 rfl (.cons rfl (.cons rfl .nil)) (aEp fO cU x0 x11 fP rfl (fun _=>rfl)) ?_)
    refine go 4 ?_
    have hst:∀z k' e',Run e11 k11 (fR l sub lv m (.mk ((binOp l[k0].text).1:Int) 0 aK [x0,x11]) k11) z k' e' -> Run 0 k ((sub k).bind fun x k=>fR l sub lv (l.length+1) x k) z k' e':=fun z k' e' h=>hcont z k' e' (by rw [aC8,bG hk0,if_pos ⟨h4,hlv2⟩];exact (Run.from hr11).bind h)
    have hgo:e11=0 -> k0<k11:=fun h=>by have h9:=hin (k0+1) hm;rw [(hr11.good h).2] at h9;have:=h9.1;omega
    refine ⟨((.mk ((binOp l[k0].text).1:Int) 0 aK [x0,x11]),k11,d11,e11),⟨hk11,he11,hd11,by omega,hu11,fun h=>hst _ _ _ (.skip h _ _),fun h=>⟨m,?_,fun z k' e' h2=>hst _ _ _ ?_⟩⟩,?_,cA (.cons _ (.refl _)) (.refl _) (by grind) (sA rfl)⟩
    ·have:=hgo h;show l.length<m+k11;omega
    ·rw [show e11=0 from h];exact h2
    show (if e11=0 then _ else _)<(if (0:Nat)=0 then _ else _)
    by_cases h:e11=0
    ·have:=hgo h;rw [if_pos h,if_pos rfl];show l.length-k11+1<l.length-k0+1;omega
    rw [if_neg h,if_pos rfl];show 0<l.length-k0+1;omega
   refine go 2 ?_
   refine aB [b2,b1,P] (by kernel_rfl) ?_
   refine tks [(0,true),(1,true),(2,true),(3,true)] 15 (by kernel_rfl) ?_
   refine go 5 ?_
   refine tr 4 (by kernel_rfl) rfl (bO true rfl rfl rfl (by rfl)) ?_
   refine tks [(5,true),(6,true),(7,true),(8,true),(9,true),(10,true),(11,true),(12,true),(13,true)] 5 (by kernel_rfl) ?_
   refine go 10 ?_
   refine tr 14 (by kernel_rfl) rfl (bH aW aW l bJ (fun _=>rfl) (k0) rfl rfl rfl rfl hk0 (by decide) runUnderlying51 sizeOf99) ?_
   refine tks [(15,true),(16,true)] 2 (by kernel_rfl) ?_
   refine go 3 ?_
   refine tr 17 (by kernel_rfl) rfl (bO true rfl rfl rfl (by rw [h4];rfl)) ?_
   refine tks [(18,true)] 0 (by kernel_rfl) ?_
   refine go 2 ?_
   refine aE (by kernel_rfl) ?_
   refine go 6 ?_
   refine aB [b2,b1,P] (by kernel_rfl) ?_
   refine tks [(0,true),(1,true),(2,true),(3,true),(4,true),(5,true),(6,true),(7,true)] 9 (by kernel_rfl) ?_
   refine go 9 ?_
   refine tr 8 (by kernel_rfl) rfl (bH aW aW l bJ (fun _=>rfl) (k0) rfl rfl rfl rfl hk0 (by decide) runUnderlying51 sizeOf99) ?_
   refine tks [(9,true),(10,true)] 6 (by kernel_rfl) ?_
   refine go 3 ?_
   refine one 11 (by kernel_rfl) rfl rfl (bD [] rfl rfl (by decide) call239 rfl (aId l[k0].text _) bDl bDl (fun _=>bDl) ?_)
   rintro t6 s6 ⟨rfl,rfl⟩
   refine tks [(12,true),(13,true),(14,true),(15,true),(16,true)] 0 (by kernel_rfl) ?_
   refine go 6 ?_
   refine aE (by kernel_rfl) ?_
   refine go 6 ?_
   refine wcp true rfl (by simp [bC];omega) ?_
   refine go 16 ?_
   exact ⟨.inr rfl,_,(ESt A B rw P l (k0) (d) (0)),(aR rfl (aO [_] rfl rfl isAgg89 sizeOf89 (bK rfl rfl))),aA (.cons _ (.cons _ (.refl _))) (.refl _),⟨x0,k0,d,0,rfl,hcont _ _ _ (by rw [aC8,if_neg (fun h=>hlv2 (by rw [←bG hk0];exact h.2))];exact .ok _ _ _ rfl),hk0,by decide,fun _=>rfl,Nat.le_refl _,hu0,rfl⟩⟩
  refine go 2 ?_
  refine aB [b2,b1,P] (by kernel_rfl) ?_
  refine tks [(0,true),(1,true),(2,true),(3,true)] 15 (by kernel_rfl) ?_
  refine go 5 ?_
  refine tr 4 (by kernel_rfl) rfl (bO true rfl rfl rfl (by rfl)) ?_
  refine tks [(5,true),(6,true),(7,true),(8,true),(9,true),(10,true),(11,true),(12,true),(13,true)] 5 (by kernel_rfl) ?_
  refine go 10 ?_
  refine tr 14 (by kernel_rfl) rfl (bH aW aW l bJ (fun _=>rfl) (k0) rfl rfl rfl rfl hk0 (by decide) runUnderlying51 sizeOf99) ?_
  refine tks [(15,true),(16,true)] 2 (by kernel_rfl) ?_
  refine go 3 ?_
  refine tr 17 (by kernel_rfl) rfl (bO false rfl rfl rfl (by rw [show bC .eql ((l[k0].kind:Nat):Int) 4=some (decide (l[k0].kind=4)) from jS (n:=4),decide_eq_false h4])) ?_
  refine tks [(18,true)] 0 (by kernel_rfl) ?_
  refine go 2 ?_
  refine aE (by kernel_rfl) ?_
  refine go 14 ?_
  exact ⟨.inr rfl,_,(ESt A B rw P l (k0) (d) (0)),(aR rfl (aO [_] rfl rfl isAgg89 sizeOf89 (bK rfl rfl))),aA (.cons _ (.cons _ (.refl _))) (.refl _),⟨x0,k0,d,0,rfl,hcont _ _ _ (by rw [aC8,if_neg (fun h=>h4 (by rw [←bG hk0];exact h.1))];exact .ok _ _ _ rfl),hk0,by decide,fun _=>rfl,Nat.le_refl _,hu0,rfl⟩⟩
 refine go 2 ?_
 refine aB [b2,b1,P] (by kernel_rfl) ?_
 refine tks [(0,true),(1,true),(2,true),(3,true)] 15 (by kernel_rfl) ?_
 refine go 5 ?_
 refine tr 4 (by kernel_rfl) rfl (bO false rfl rfl rfl (lA h0)) ?_
 refine tks [(5,true),(6,true),(7,true),(8,true),(9,true),(10,true),(11,true),(12,true),(13,true),(14,true),(15,true),(16,true),(17,true),(18,true)] 0 (by kernel_rfl) ?_
 refine go 15 ?_
 refine aE (by kernel_rfl) ?_
 refine go 14 ?_
 exact ⟨.inr rfl,_,(ESt A B rw P l (k0) (d0) (e0)),(aR rfl (aO [_] rfl rfl isAgg89 sizeOf89 (bK rfl rfl))),aA (.cons _ (.cons _ (.refl _))) (.refl _),⟨x0,k0,d0,e0,rfl,hn0 h0,hk0,he0,fun h=>absurd h h0,hl0,hu0,rfl⟩⟩
theorem zY(l:List Tok)(hok:TOk l)(d D:Nat)(ih:∀(A B:List Box)(rw:List bA)(P:Nat)(k:Nat),k<l.length -> aL prog 246 [pP P] [P] (ESt A B rw P l k d 0) (EAn A B rw P l d k (bL l D k))):∀(j:Nat),j <= 5 -> ∀(A B:List Box)(rw:List bA)(P:Nat)(k:Nat),k<l.length -> aL prog 244 [pP P,.c (.val (.int .i64 ((6-j:Nat):Int)))] [P] (ESt A B rw P l k d 0) (EAn A B rw P l d k (gS l (bL l D) j k))
 |0,_,A,B,rw,P,k,hk=>aKd A B rw P l k d (bL l D) hok hk fun A B rw P k hk=>ih A B rw P k hk
 |j+1,hj,A,B,rw,P,k,hk=>by
  have h:=aJ0 A B rw P l k d (6-(j+1)) (gS l (bL l D) j) (by omega) (fun k hk=>vV hok.last (fun k hk=>nP hok.last D k hk) j k hk) hok hk (fun A B rw P k hk=>by
   have h9:=zY l hok d D ih j (by omega) A B rw P k hk
   have e1:(((6-(j+1):Nat):Int)+1)=((6-j:Nat):Int):=by omega
   rw [e1];exact h9)
  rw [aP5,show 5-j=6-(j+1) by omega]
  exact h
theorem qU(l:List Tok)(hok:TOk l):∀(D:Nat),D <= 24 -> ∀(A B:List Box)(rw:List bA)(P:Nat)(k:Nat),k<l.length -> aL prog 246 [pP P] [P] (ESt A B rw P l k (24-D) 0) (EAn A B rw P l (24-D) k (bL l D k))
 |0,_,A,B,rw,P,k,hk=>aJs A B rw P l k hok hk
 |D+1,hD,A,B,rw,P,k,hk=>by
  have e1:24-(D+1)+1=24-D:=by omega
  exact aJi A B rw P l k (24-(D+1)) D hok hk (by omega)
   (fun A B rw P k hk=>by rw [e1];exact qU l hok D (by omega) A B rw P k hk)
   (fun A B rw P k hk=>by rw [e1];exact zY l hok (24-D) D (qU l hok D (by omega)) 5 (Nat.le_refl _) A B rw P k hk)
theorem aJy(A B:List Box)(rw:List bA)(P:Nat)(l:List Tok)(k:Nat)(hok:TOk l)(hk:k<l.length):aL prog 244 [pP P,.c (.val (.int .i64 1))] [P] (ESt A B rw P l k 0 0) (EAn A B rw P l 0 k (lJ l k)):=
 zY l hok 0 24 (qU l hok 24 (Nat.le_refl _)) 5 (Nat.le_refl _) A B rw P k hk
theorem Run.other{e0 k0 k e:Nat}{r:bN aH}{x y:aH}(h:Run e0 k0 r x k e)(he:e≠0):Run e0 k0 r y k e:=by
 rcases h with ⟨h0,h1,h2⟩|⟨h0,⟨_,h2⟩|h⟩
 ·exact .inl ⟨h0,h1,h2⟩
 ·exact absurd h2 he
 exact .inr ⟨h0,.inr h⟩
theorem aFi(l:List Tok)(k:Nat)(hok:TOk l)(hk:k<l.length)(s:Sto):aL prog 236 [.c (.sl l.length (l.flatMap aW)),.c (.val (.int .i64 (k:Int)))] [] s fun t s'=>∃x k1 e1,t=.tup [.agg (cU x),nI k1,nI e1] /\ Run 0 k (lJ l k) x k1 e1 /\ k1<l.length /\ e1<16 /\ s'=s:=by
 have hlen:=hok.len
 have hend:l[l.length-1].kind=5:=hok.last.2
 obtain ⟨bx,rw⟩:=s
 refine acB func236 rfl ?_
 show AWp prog _ ⟨54,[],⟨bx,rw⟩,[(0,.c (.sl l.length (l.flatMap aW))),(1,nI k)]⟩ _
 refine go 11 fun b1=>?_
 refine wcp false rfl (by simp [bC]) ?_
 refine go 4 ?_
 refine wcp false rfl (by simp [bC];omega) ?_
 refine go 5 ?_
 refine wyz rfl (qC rfl rfl rfl (by omega) (by omega)) ?_
 refine wyz rfl (bH aW aW l bJ (fun _=>rfl) (l.length-1) rfl rfl rfl (by omega) (by omega) (by decide) runUnderlying51 sizeOf99) ?_
 refine go 2 ?_
 refine wcp false rfl (by rw [hend];rfl) ?_
 refine go 18 fun P=>?_
 refine wcQ rfl call244 rfl (aJy [] _ _ _ l k hok hk) ?_
 rintro t2 s2 ⟨x2,k2,d2,e2,rfl,hr2,hk2,he2,hd2,hl2,hu2,rfl⟩
 refine go 7 fun b2=>?_
 by_cases her:e2=0
 ·refine go 4 ?_
  refine wcp false rfl (by rw [her];rfl) ?_
  refine go 6 ?_
  refine aB [b2,P] (by kernel_rfl) ?_
  refine tks [(0,true),(1,true),(2,true),(3,true),(4,true),(5,false),(6,true),(7,true)] 0 (by kernel_rfl) ?_
  refine go 9 ?_
  refine aE (by kernel_rfl) ?_
  refine go 2 ?_
  exact ⟨.inr rfl,_,⟨bx,rw⟩,(pC rfl (aO [_,_] rfl rfl isAgg89 sizeOf89 (bK rfl rfl)) (aF rfl) (aF rfl)),aA (.cons _ (.cons _ (.cons _ (.refl _)))) (.refl _),⟨x2,k2,e2,by rw [her];rfl,hr2,hk2,he2,rfl⟩⟩
 refine go 4 ?_
 refine wcp true rfl (by simp [bC,her]) ?_
 refine go 4 ?_
 refine aB [b2,P] (by kernel_rfl) ?_
 refine tks [(0,true),(1,true),(2,true),(3,true),(4,true),(5,true),(6,true),(7,true),(8,true),(9,false),(10,true),(11,true)] 0 (by kernel_rfl) ?_
 refine go 13 ?_
 refine aE (by kernel_rfl) ?_
 refine go 3 ?_
 exact ⟨.inr rfl,_,⟨bx,rw⟩,(pC rfl (aCn (Wk.agg (.r (.r (.r (.n .nil))))) (aO [_,_] rfl rfl isAgg89 sizeOf89 (bK rfl rfl))) (aF rfl) (aF rfl)),aA (.cons _ (.cons _ (.cons _ (.refl _)))) (.refl _),⟨.zero,k2,e2,rfl,(hr2.other her),hk2,he2,rfl⟩⟩
end
end Go.Proofs.YtlmpchoaebhhmaaGreatDoor
