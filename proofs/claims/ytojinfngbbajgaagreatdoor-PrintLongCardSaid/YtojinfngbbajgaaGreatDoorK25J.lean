import Derived.Test.YtojinfngbbajgaaGreatDoorK24J
import Derived.Test.YtojinfngbbajgaaGreatDoorK5J
import Derived.Test.YtojinfngbbajgaaGreatDoorK9J
import Derived.Test.YtojinfngbbajgaaGreatDoorK8J
set_option linter.all false
set_option synthInstance.maxHeartbeats 1000000
set_option synthInstance.maxSize 1000000
set_option maxHeartbeats 1600000
set_option maxRecDepth 100000
namespace Go.Proofs.YtojinfngbbajgaaGreatDoor
open Go.Proofs.Tryz
open List (length_append length_cons length_nil mem_append mem_cons not_mem_nil append_assoc getElem_mem take_of_length_le)
section
def nmX(b:Bool):ByteArray:=if b then ⟨#[120,120,120,120,120,120,120,120,120,120,120,120,120,120,120,120]⟩ else ⟨#[120]⟩
def eX(b:Bool):aH:=.mk 2 0 (nmX b) []
def asX(b:Bool):aJ:=.mk 2 (nmX b) (eX b) .zero [] [] []
def bU5(b:Bool)(K:Nat):Nat -> List aJ
 |0=>List.replicate K (asX b)
 |d+1=>[.mk 7 aK (eX b) .zero [] (bU5 b K d) []]
def bVy(b:Bool)(K d:Nat):bS:=⟨bytes [109,97,105,110],[],bU5 b K d⟩
def cF(b:Bool)(K d:Nat):cK:=⟨[],[],[bVy b K d]⟩
def ifX(b:Bool):List UInt8:=[105,102,32]++(nmX b).data.toList++[123]
def vF(b:Bool):List UInt8:=(nmX b).data.toList++[61]++(nmX b).data.toList++[59]
def vG(b:Bool)(d:Nat):List UInt8:=[102,117,110,99,32,109,97,105,110,40,41,123]++(List.replicate d (ifX b)).flatten
def bU3(b:Bool)(K:Nat):List UInt8:=(List.replicate K (vF b)).flatten
def eB(b:Bool)(K d:Nat):List UInt8:=vG b d++bU3 b K++List.replicate (d+1) 125
def bV0(b:Bool)(K:Nat):Nat -> List UInt8
 |0=>bU3 b K
 |d+1=>ifX b++bV0 b K d++[125]
theorem bWb(b:Bool)(K:Nat):∀d,bV0 b K d=(List.replicate d (ifX b)).flatten++bU3 b K++List.replicate d 125
 |0=>by simp [bV0]
 |d+1=>by rw [bV0,bWb b K d,List.replicate_succ,List.flatten_cons,show List.replicate (d+1) (125:UInt8)=List.replicate d 125++[125] from List.replicate_succ'];simp only [append_assoc]
theorem bVm(b:Bool):bQ (nmX b)=true:=by cases b<;>kernel_rfl
theorem bV8(b:Bool)(r:List UInt8):∀d,((nmX b).data.toList++r).head?=some d -> [61,d]∉fE /\ ¬((61:UInt8)=47 /\ d=47):=by
 intro d hd
 have:d=120:=by cases b<;>·simp [nmX] at hd;exact hd.symm
 subst this;decide
theorem bWd{r:List UInt8}{ps:List PT}(b:Bool)(h:Lx r ps):Lx (vF b++r) (cE (asX b)++ps):=by
 have h1:=(((h.free 59 (by decide)).name (nmX b) (bVm b) (.cons (by decide))).one 61 (by decide) (bV8 b _)).name (nmX b) (bVm b) (.cons (by decide))
 have e:cE (asX b)=[nmT (nmX b),sgn [61],⟨1,nmX b,0⟩,sgn [59]]:=by
  unfold asX eX;rw [cE,if_neg (by decide),if_pos rfl];rfl
 rw [e]
 unfold vF
 simpa [nmT] using h1
theorem bVx{r:List UInt8}{ps:List PT}(b:Bool)(h:Lx r ps):∀K,Lx (bU3 b K++r) (aQ (List.replicate K (asX b))++ps)
 |0=>by simpa [bU3,aQ] using h
 |K+1=>by
  have h1:=bWd b (bVx b h K)
  unfold bU3 at h1⊢
  rw [List.replicate_succ,List.replicate_succ,List.flatten_cons,aQ,append_assoc,append_assoc];exact h1
theorem bV9(b:Bool)(K:Nat):∀(d:Nat) {r:List UInt8} {ps:List PT},Lx r ps -> Lx (bV0 b K d++r) (aQ (bU5 b K d)++ps)
 |0,r,ps,h=>bVx b h K
 |d+1,r,ps,h=>by
  have h1:=bV9 b K d (h.free 125 (by decide))
  have h2:=((h1.free 123 (by decide)).name (nmX b) (bVm b) (.cons (by decide))).kw [105,102] (by decide)
  have e:aQ (bU5 b K (d+1))=wrd [105,102]::⟨1,nmX b,0⟩::sgn [123]::(aQ (bU5 b K d)++[sgn [125]]):=by
   show aQ [aJ.mk 7 aK (eX b) .zero [] (bU5 b K d) []]=_
   unfold eX;rw [aQ,aQ,cE];simp [aT,aM3]
  rw [e,bV0]
  unfold ifX
  simpa using h2
theorem bWc(b:Bool)(K d:Nat):Lx (eB b K d) (kA (bVy b K d)):=by
 have h1:=bV9 b K d (Lx.end.free 125 (by decide))
 have h2:=((((h1.free 123 (by decide)).free 41 (by decide)).free 40 (by decide)).name (bytes [109,97,105,110]) (by kernel_rfl) (.cons (by decide))).kw [102,117,110,99] (by decide)
 have e:eB b K d=[102,117,110,99]++32::((bytes [109,97,105,110]).data.toList++40::41::123::(bV0 b K d++[125])):=by
  unfold eB vG
  rw [bWb,show List.replicate (d+1) (125:UInt8)=List.replicate d 125++[125] from List.replicate_succ']
  simp [bytes]
 rw [e]
 simpa [kA,bVy,nmT,fZ] using h2
theorem bWe(b:Bool):VX (eX b):=⟨.name _ (bVm b),by cases b<;>exact of_decide_eq_true (by kernel_rfl)⟩
theorem bV3(b:Bool)(K:Nat):∀d e,d <= e -> VSs e (bU5 b K d)
 |0,e,_=>by
  show VSs e (List.replicate K (asX b))
  induction K with
  |zero=>exact .nil
  |succ K ih=>rw [List.replicate_succ];exact .assign (bVm b) (bWe b) ih
 |d+1,0,h=>absurd h (by omega)
 |d+1,e+1,h=>.cond (bWe b) (bV3 b K d e (by omega)) .nil .nil
theorem bV7(b:Bool)(K d:Nat)(hd:d <= 23):∀x,x∈iA (cF b K d) -> x.ok:=fun x hx=>by
 simp only [cF,iA,List.map_nil,List.nil_append,List.map_cons,List.mem_singleton] at hx
 subst hx
 exact ⟨by kernel_rfl,by simp [bVy],fun x hx=>by simp [bVy] at hx,bV3 b K d 23 hd⟩
theorem bVs(b:Bool)(K d:Nat):((iA (cF b K d)).map fF.toks).flatten=kA (bVy b K d):=by
 simp [cF,iA,fF.toks]
theorem bV1{p:cK}(h:∀d,d∈iA p -> d.ok)(h1:p.globals.length <= 16)(h2:p.mutexes.length <= 12)(h3:p.funcs.length <= 16){L:List Tok}(hL:L.map Tok.pt=((iA p).map fF.toks).flatten++[aAa]):∃k,fH L=.ok p k:=by
 obtain ⟨⟨a1,a2,a3⟩,⟨b1,b2,b3⟩,c1,c2,c3⟩:=aLo p.globals p.mutexes p.funcs
 obtain ⟨d1,d2,d3⟩:=aD7 (p.globals.map .glob) (p.mutexes.map .mtx++p.funcs.map .fn)
 obtain ⟨e1,e2,e3⟩:=aD7 (p.mutexes.map .mtx) (p.funcs.map .fn)
 have hg:gN (iA p) <= 16:=by unfold iA;omega
 have hm:mN (iA p) <= 12:=by unfold iA;omega
 have hf:fN (iA p) <= 16:=by unfold iA;omega
 have hn:(iA p).length <= ((iA p).map fF.toks).flatten.length:=by
  generalize iA p=ds
  induction ds with
  |nil=>simp
  |cons d ds ih=>
   obtain ⟨s,q,hb⟩:=aD6 d
   simp [hb] at ih⊢;omega
 have hl:L.length=((iA p).map fF.toks).flatten.length+1:=by
  have:=congrArg List.length hL
  simpa using this
 refine ⟨0+((iA p).map fF.toks).flatten.length,?_⟩
 have h9:=yX (iA p) ⟨[],[],[]⟩ L.length 0 h (by omega) (by omega) ⟨[],by rw [List.drop_zero,hL,List.append_nil]⟩ (by simpa using hg) (by simpa using hm) (by simpa using hf)
 unfold fH
 rw [h9]
 unfold iA
 rw [List.foldl_append,List.foldl_append,aG5,aKl,aNx]
 rfl
theorem bVu(b:Bool)(K:Nat):∀(d:Nat)(tb:List UInt8),(aC tb (bU5 b K d)).length <= K*(tb.length+d+40)+d*(2*(tb.length+d)+40)
 |0,tb=>by
  have h16:(nmX b).data.toList.length <= 16:=by cases b<;>decide
  have h1:(bY tb (asX b)).length <= tb.length+40:=by
   unfold asX eX;rw [bY,if_neg (by decide),if_pos rfl]
   have e:aP (.mk 2 0 (nmX b) [])=(nmX b).data.toList:=by simp [aP,iX]
   rw [e];simp only [length_append,length_cons,length_nil];omega
  have:∀n,(aC tb (List.replicate n (asX b))).length <= n*(tb.length+40):=fun n=>by
   induction n with
   |zero=>simp [aC]
   |succ n ih=>rw [List.replicate_succ,aC,length_append,Nat.add_mul];omega
  have h2:=this K
  show (aC tb (List.replicate K (asX b))).length <= _
  simp only [Nat.add_zero,Nat.zero_mul];exact h2
 |d+1,tb=>by
  have h16:(nmX b).data.toList.length <= 16:=by cases b<;>decide
  have ih:=bVu b K d (tb++[9])
  have e:aP (eX b)=(nmX b).data.toList:=by simp [eX,aP,iX]
  rw [length_append,show [(9:UInt8)].length=1 from rfl] at ih
  have h1:(aC tb (bU5 b K (d+1))).length <= (aC (tb++[9]) (bU5 b K d)).length+2*tb.length+30:=by
   show (aC tb [aJ.mk 7 aK (eX b) .zero [] (bU5 b K d) []]).length <= _
   rw [aC,aC,bY,if_neg (by decide),if_neg (by decide),if_neg (by decide),if_neg (by decide),if_neg (by decide),if_neg (by decide),if_pos (by decide),if_neg (by decide),e,if_pos length_nil]
   simp only [length_append,length_cons,length_nil];omega
  have h2:K*(tb.length+1+d+40)=K*(tb.length+(d+1)+40):=by congr 1;omega
  have h3:d*(2*(tb.length+1+d)+40)=d*(2*(tb.length+(d+1))+40):=by congr 1;omega
  have h4:(d+1)*(2*(tb.length+(d+1))+40)=d*(2*(tb.length+(d+1))+40)+(2*(tb.length+(d+1))+40):=by rw [Nat.add_mul,Nat.one_mul]
  omega
theorem bV4(b:Bool):(eX b).sane:=by unfold eX;rw [aH.sane];exact ⟨by unfold fit;decide,by cases b<;>decide,trivial⟩
theorem bVt(b:Bool)(K:Nat):∀d,gC (bU5 b K d)
 |0=>by
  show gC (List.replicate K (asX b))
  induction K with
  |zero=>trivial
  |succ K ih=>rw [List.replicate_succ,gC];exact ⟨by unfold asX;rw [aJ.sane];exact ⟨by cases b<;>decide,bV4 b,⟨by decide,trivial⟩,(fun a ha=>by cases ha),trivial,trivial⟩,ih⟩
 |d+1=>by
  show gC [aJ.mk 7 aK (eX b) .zero [] (bU5 b K d) []]
  rw [gC,aJ.sane]
  exact ⟨⟨by decide,bV4 b,⟨by decide,trivial⟩,(fun a ha=>by cases ha),bVt b K d,trivial⟩,trivial⟩
theorem bU7(b:Bool)(K d:Nat):(cF b K d).sane:=⟨(fun g hg=>by cases hg),(fun m hm=>by cases hm),fun f hf=>by
 obtain rfl:f=_:=List.mem_singleton.1 hf
 exact ⟨by show (bytes [109,97,105,110]).size <= _;decide,(fun x hx=>by cases hx),bVt b K d⟩⟩
theorem bVh(b:Bool):dM (eX b)=true:=by cases b<;>kernel_rfl
theorem bV6(b:Bool)(K:Nat):∀d D,D+d<24 -> bM D (bU5 b K d)=true
 |0,D,h=>by
  show bM D (List.replicate K (asX b))=true
  induction K with
  |zero=>rw [List.replicate_zero,bM];exact decide_eq_true (by omega)
  |succ K ih=>
   rw [List.replicate_succ,bM,ih,Bool.and_true]
   unfold asX;rw [bK9,bVh b,bVm b];rfl
 |d+1,D,h=>by
  have ih:=bV6 b K d (D+1) (by omega)
  show bM D [aJ.mk 7 aK (eX b) .zero [] (bU5 b K d) []]=true
  rw [bM,bM,bK9,bVh b]
  simp only [ih]
  rw [decide_eq_true (show D<24 by omega)];rfl
theorem bV2(b:Bool)(K d:Nat)(hd:d <= 23):nY (cF b K d)=true:=by
 unfold nY cF bVy gW
 simp only [List.all_cons,List.all_nil,Bool.and_true,length_nil,length_cons]
 rw [bV6 b K d 0 (by omega)];rfl
theorem bU6(b:Bool)(K d:Nat)(hK:K <= 1000)(hd:d <= 23):(cR (cF b K d)).length <= 262144:=by
 have h:=bVu b K d [9]
 have h1:(cR (cF b K d)).length <= (aC [9] (bU5 b K d)).length+40:=by
  unfold cR cF bVy
  simp only [List.map_nil,List.flatten_nil,List.nil_append,List.map_cons,List.flatten_cons,List.append_nil,funcText,bW,length_append,length_cons,length_nil]
  have:(bytes [109,97,105,110]).data.toList.length=4:=by decide
  omega
 have h2:K*([(9:UInt8)].length+d+40) <= 1000*64:=Nat.mul_le_mul hK (by show 1+d+40 <= 64;omega)
 have h3:d*(2*([(9:UInt8)].length+d)+40) <= 23*88:=Nat.mul_le_mul hd (by show 2*(1+d)+40 <= 88;omega)
 omega
theorem bVe(b:Bool)(K d:Nat)(hK:K <= 1000)(hd:d <= 23){L:List Tok}(h:iH (eB b K d)=.ok L):jM (eB b K d)=(cF b K d,(eB b K d).length,0) /\ jI (cF b K d)=true /\ ∃M,iH (cR (cF b K d))=.ok M /\ M.map Tok.pt=L.map Tok.pt:=by
 have hx:=bWc b K d
 obtain ⟨h1,h2⟩:=aNe hx (by rw [h];rfl)
 obtain ⟨L',h3,h4⟩:=aIz hx h1 h2
 rw [h] at h3
 obtain rfl:=fX.ok.inj h3
 have hok:=bV7 b K d hd
 obtain ⟨k,h5⟩:=bV1 (p:=cF b K d) hok (by simp [cF]) (by simp [cF]) (by simp [cF]) (by rw [bVs];exact h4)
 have h6:=uR (iA (cF b K d)) hok Lx.end
 rw [List.append_nil,List.append_nil,←wC,bVs] at h6
 obtain ⟨M,h7,h8⟩:=aIz h6 (bU6 b K d hK hd) h2
 refine ⟨pT h h5,?_,M,h7,by rw [h8,h4]⟩
 rw [nX,bV2 b K d hd,h7];rfl
end
section
open Go.RowKit
abbrev ESt(A B:List Box)(rw:List bA)(P:Nat)(l:List Tok)(k d e:Nat):Sto:=⟨A++⟨P,267,[.sl l.length (l.flatMap aW),.val (.int .i64 (k:Int)),.val (.int .i64 (d:Int)),.val (.int .i64 (e:Int))]⟩::B,rw⟩
def EAn(A B:List Box)(rw:List bA)(P:Nat)(l:List Tok)(d k0:Nat)(r:bN aH)(t:AT)(s:Sto):Prop:=
 ∃x k1 d1 e1,t=.agg (cU x) /\ Run 0 k0 r x k1 e1 /\ k1<l.length /\ e1<16 /\ (e1=0 -> d1=d) /\ d <= d1 /\ d1 <= 24 /\ s=ESt A B rw P l k1 d1 e1
theorem aG4(op:Int)(r:bN aH):aKc op r=r.bind fun x k=>.ok (.mk op 0 aK [x]) k:=by cases r<;>rfl
theorem aI9{F:FuncId}{args:List Value}{s:Sto}{t:AT}{v:Value}(ht:∀w,dO w t v)(h:∀w,Calls prog F args.toArray w fun e w'=>e=.returned v /\ w=w'):aL prog F (args.map fun a=>.c (.val a)) [] s fun r s'=>r=t /\ s'=s:=by
 intro vs w hm _ hl hr
 have:vs=args:=by
  refine List.ext_getElem (by simpa using hl) fun i h1 h2=>?_
  have h3:=hr i (by simpa using h2) h1
  generalize hx:(args.map fun a=>AT.c (.val a))[i]'(by simpa using h2)=x at h3
  rw [List.getElem_map] at hx
  subst hx
  generalize vs[i]=u at h3
  cases h3 with|c _ _ h=>cases h;rfl
 subst this
 exact (h w).mono fun e w' ⟨h1,h2⟩=>by subst h2;exact ⟨t,v,s,h1,⟨rfl,rfl⟩,ht _,hm,cW.refl _ _,fun b hb=>.inl hb⟩
theorem aId(x:ByteArray)(s:Sto):aL prog 235 [.c (.val (.string x))] [] s fun r s'=>r=.tup [.c (.val (.int .i64 ((binOp x).1:Int))),.c (.val (.int .i64 ((binOp x).2:Int)))] /\ s'=s:=
 aI9 (args:=[.string x]) (fun w=>.tup _ [_,_] rfl fun i h h'=>by
  match i,h,h' with
  |0,_,_=>exact .c _ _ (.val _ rfl)
  |1,_,_=>exact .c _ _ (.val _ rfl)) fun w=>aDq x w
theorem aR3(A B:List Box)(rw:List bA)(P:Nat)(l:List Tok)(k d e:Nat)(sg:ByteArray)(hk:k<l.length)(h4:l[k].kind=4)(ht:l[k].text=sg):aL prog 241 [pP P,.c (.val (.string sg))] [P] (ESt A B rw P l k d e) fun t s=>t=.c (.val (.bool true)) /\ s=ESt A B rw P l k d e:=by
 refine acB func241 rfl ?_
 show AWp prog _ ⟨32,[P],⟨A++⟨P,267,[.sl l.length (l.flatMap aW),nC k,nC d,nC e]⟩::B,rw⟩,[(0,pP P),(1,.c (.val (.string sg)))]⟩ _
 refine go 6 ?_
 refine aB [P] (by kernel_rfl) ?_
 refine tks [(0,true),(1,true),(2,true),(3,true),(4,true),(5,true),(6,true),(7,true)] 20 (by kernel_rfl) ?_
 refine go 9 ?_
 refine tr 8 (by kernel_rfl) rfl (bH aW aW l bJ (fun _=>rfl) (k) rfl rfl rfl rfl hk (by decide) runUnderlying36 sizeOf66) ?_
 refine tks [(9,true),(10,true)] 17 (by kernel_rfl) ?_
 refine go 3 ?_
 refine tr 11 (by kernel_rfl) rfl (bO true rfl rfl rfl (by rw [h4];rfl)) ?_
 refine tks [(12,true),(13,true),(14,true),(15,true),(16,true),(17,true),(18,true),(19,true),(20,true)] 7 (by kernel_rfl) ?_
 refine go 10 ?_
 refine tr 21 (by kernel_rfl) rfl (bH aW aW l bJ (fun _=>rfl) (k) rfl rfl rfl rfl hk (by decide) runUnderlying36 sizeOf66) ?_
 refine tks [(22,true),(23,true),(24,true)] 3 (by kernel_rfl) ?_
 refine go 4 ?_
 refine tr 25 (by kernel_rfl) rfl (aZ true rfl rfl rfl (by rw [ht];simp [oM])) ?_
 refine tks [(26,true),(27,true)] 0 (by kernel_rfl) ?_
 refine go 3 ?_
 refine aE (by kernel_rfl) ?_
 refine go 2 ?_
 exact bHe (s':=(ESt A B rw P l (k) (d) (e))) rfl sb0 ⟨rfl,rfl⟩
theorem aSo(A B:List Box)(rw:List bA)(P:Nat)(l:List Tok)(k d e:Nat)(sg:ByteArray)(hk:k<l.length)(h4:l[k].kind=4)(ht:¬l[k].text=sg):aL prog 241 [pP P,.c (.val (.string sg))] [P] (ESt A B rw P l k d e) fun t s=>t=.c (.val (.bool false)) /\ s=ESt A B rw P l k d e:=by
 refine acB func241 rfl ?_
 show AWp prog _ ⟨32,[P],⟨A++⟨P,267,[.sl l.length (l.flatMap aW),nC k,nC d,nC e]⟩::B,rw⟩,[(0,pP P),(1,.c (.val (.string sg)))]⟩ _
 refine go 6 ?_
 refine aB [P] (by kernel_rfl) ?_
 refine tks [(0,true),(1,true),(2,true),(3,true),(4,true),(5,true),(6,true),(7,true)] 20 (by kernel_rfl) ?_
 refine go 9 ?_
 refine tr 8 (by kernel_rfl) rfl (bH aW aW l bJ (fun _=>rfl) (k) rfl rfl rfl rfl hk (by decide) runUnderlying36 sizeOf66) ?_
 refine tks [(9,true),(10,true)] 17 (by kernel_rfl) ?_
 refine go 3 ?_
 refine tr 11 (by kernel_rfl) rfl (bO true rfl rfl rfl (by rw [h4];rfl)) ?_
 refine tks [(12,true),(13,true),(14,true),(15,true),(16,true),(17,true),(18,true),(19,true),(20,true)] 7 (by kernel_rfl) ?_
 refine go 10 ?_
 refine tr 21 (by kernel_rfl) rfl (bH aW aW l bJ (fun _=>rfl) (k) rfl rfl rfl rfl hk (by decide) runUnderlying36 sizeOf66) ?_
 refine tks [(22,true),(23,true),(24,true)] 3 (by kernel_rfl) ?_
 refine go 4 ?_
 refine tr 25 (by kernel_rfl) rfl (aZ false rfl rfl rfl (by simp [oM,ht])) ?_
 refine tks [(26,true),(27,true)] 0 (by kernel_rfl) ?_
 refine go 3 ?_
 refine aE (by kernel_rfl) ?_
 refine go 2 ?_
 exact bHe (s':=(ESt A B rw P l (k) (d) (e))) rfl sb0 ⟨rfl,rfl⟩
theorem aTo(A B:List Box)(rw:List bA)(P:Nat)(l:List Tok)(k d e:Nat)(sg:ByteArray)(hk:k<l.length)(h4:¬l[k].kind=4):aL prog 241 [pP P,.c (.val (.string sg))] [P] (ESt A B rw P l k d e) fun t s=>t=.c (.val (.bool false)) /\ s=ESt A B rw P l k d e:=by
 refine acB func241 rfl ?_
 show AWp prog _ ⟨32,[P],⟨A++⟨P,267,[.sl l.length (l.flatMap aW),nC k,nC d,nC e]⟩::B,rw⟩,[(0,pP P),(1,.c (.val (.string sg)))]⟩ _
 refine go 6 ?_
 refine aB [P] (by kernel_rfl) ?_
 refine tks [(0,true),(1,true),(2,true),(3,true),(4,true),(5,true),(6,true),(7,true)] 20 (by kernel_rfl) ?_
 refine go 9 ?_
 refine tr 8 (by kernel_rfl) rfl (bH aW aW l bJ (fun _=>rfl) (k) rfl rfl rfl rfl hk (by decide) runUnderlying36 sizeOf66) ?_
 refine tks [(9,true),(10,true)] 17 (by kernel_rfl) ?_
 refine go 3 ?_
 refine tr 11 (by kernel_rfl) rfl (bO false rfl rfl rfl (by rw [show bC .eql ((l[k].kind:Nat):Int) 4=some (decide (l[k].kind=4)) from jS (n:=4),decide_eq_false h4])) ?_
 refine tks [(12,true),(13,true),(14,true),(15,true),(16,true),(17,true),(18,true),(19,true),(20,true),(21,true),(22,true),(23,true),(24,true),(25,true),(26,true),(27,true)] 0 (by kernel_rfl) ?_
 refine go 17 ?_
 refine aE (by kernel_rfl) ?_
 refine go 2 ?_
 exact bHe (s':=(ESt A B rw P l (k) (d) (e))) rfl sb0 ⟨rfl,rfl⟩
theorem zV(A B:List Box)(rw:List bA)(P:Nat)(l:List Tok)(k d e:Nat)(sg:List UInt8)(hk:k<l.length):aL prog 241 [pP P,.c (.val (.string (bytes sg)))] [P] (ESt A B rw P l k d e) fun t s=>(cS l k sg=true /\ t=.c (.val (.bool true)) /\ s=ESt A B rw P l k d e)∨(cS l k sg=false /\ t=.c (.val (.bool false)) /\ s=ESt A B rw P l k d e):=by
 unfold cS
 rw [bG hk]
 by_cases h4:l[k].kind=4
 ·by_cases ht:l[k].text=bytes sg
  ·exact (aR3 A B rw P l k d e _ hk h4 ht).mono fun t s h=>.inl ⟨by simp [h4,ht],h⟩
  exact (aSo A B rw P l k d e _ hk h4 ht).mono fun t s h=>.inr ⟨by simp [ht],h⟩
 exact (aTo A B rw P l k d e _ hk h4).mono fun t s h=>.inr ⟨by simp [h4],h⟩
theorem aDg(A B:List Box)(rw:List bA)(P:Nat)(l:List Tok)(k d e x:Nat):aL prog 244 [pP P,.c (.val (.int .i64 (x:Int)))] [P] (ESt A B rw P l k d e) fun t s=>t=.agg (cU .zero) /\ s=ESt A B rw P l k d x:=by
 refine acB func244 rfl ?_
 show AWp prog _ ⟨10,[P],⟨A++⟨P,267,[.sl l.length (l.flatMap aW),nC k,nC d,nC e]⟩::B,rw⟩,[(0,pP P),(1,.c (.val (.int .i64 (x:Int))))]⟩ _
 refine go 21 fun b1=>?_
 exact ⟨.inr rfl,_,(ESt A B rw P l (k) (d) (x)),(eK (Wk.agg (.r (.r (.r (.n .nil))))) (aR rfl (aO [] rfl rfl isAgg73 sizeOf73 (bK rfl rfl)))),aA (.cons _ (.refl _)) (.refl _),rfl,rfl⟩
theorem aA8(A B:List Box)(rw:List bA)(P:Nat)(l:List Tok)(k:Nat):aL prog 245 [pP P] [P] (ESt A B rw P l k 24 0) fun t s=>t=.c (.val (.bool false)) /\ s=ESt A B rw P l k 24 3:=by
 refine acB func245 rfl ?_
 show AWp prog _ ⟨25,[P],⟨A++⟨P,267,[.sl l.length (l.flatMap aW),nC k,nC 24,nC 0]⟩::B,rw⟩,[(0,pP P)]⟩ _
 refine go 12 ?_
 refine wcp true rfl (by rfl) ?_
 refine go 18 ?_
 exact bHe (s':=(ESt A B rw P l (k) (24) (3))) rfl sb0 ⟨rfl,rfl⟩
theorem aBn(A B:List Box)(rw:List bA)(P:Nat)(l:List Tok)(k d:Nat)(hd:d<24)(hk9:k<1000000):aL prog 245 [pP P] [P] (ESt A B rw P l k d 0) fun t s=>t=.c (.val (.bool true)) /\ s=ESt A B rw P l (k+1) (d+1) 0:=by
 refine acB func245 rfl ?_
 show AWp prog _ ⟨25,[P],⟨A++⟨P,267,[.sl l.length (l.flatMap aW),nC k,nC d,nC 0]⟩::B,rw⟩,[(0,pP P)]⟩ _
 refine go 12 ?_
 refine wcp false rfl (by rw [show bC .eql ((d:Nat):Int) 24=some (decide (d=24)) from jS (n:=24),decide_eq_false (by omega)]) ?_
 refine go 11 ?_
 refine wad rfl ?_
 refine go 11 ?_
 refine wad rfl ?_
 refine go 11 ?_
 exact bHe (s':=(ESt A B rw P l (k+1) (d+1) (0))) rfl sb0 ⟨rfl,rfl⟩
theorem xQ(A B:List Box)(rw:List bA)(P:Nat)(l:List Tok)(k:Nat)(op:Int)(hok:TOk l)(hk:k<l.length):aL prog 242 [pP P,.c (.val (.int .i64 op))] [P] (ESt A B rw P l k 24 0) (EAn A B rw P l 24 k (.err k 3)):=by
 have hlen:=hok.len
 refine acB func242 rfl ?_
 show AWp prog _ ⟨23,[P],⟨A++⟨P,267,[.sl l.length (l.flatMap aW),nC k,nC 24,nC 0]⟩::B,rw⟩,[(0,pP P),(1,.c (.val (.int .i64 op)))]⟩ _
 refine go 9 fun b1=>?_
 refine wcQ rfl call245 rfl (aA8 (_::A) _ _ _ l k) ?_
 rintro t1 s1 ⟨rfl,rfl⟩
 refine go 12 ?_
 exact ⟨.inr rfl,_,(ESt A B rw P l (k) (24) (3)),(eK (Wk.agg (.r (.r (.r (.n .nil))))) (aR rfl (aO [] rfl rfl isAgg73 sizeOf73 (bK rfl rfl)))),aA (.cons _ (.refl _)) (.refl _),⟨.zero,k,24,3,rfl,.err _ _ _ _ rfl (by decide),hk,by decide,(fun h=>nomatch h),Nat.le_refl _,Nat.le_refl _,rfl⟩⟩
theorem tV(l:List Tok)(r:bN aH):aHo l r=r.bind fun x k=>if cS l k [41] then .ok x (k+1) else .err k 4:=by cases r<;>rfl
theorem aE6(A B:List Box)(rw:List bA)(P:Nat)(l:List Tok)(k:Nat)(hok:TOk l)(hk:k<l.length):aL prog 243 [pP P] [P] (ESt A B rw P l k 24 0) (EAn A B rw P l 24 k (.err k 3)):=by
 have hlen:=hok.len
 refine acB func243 rfl ?_
 show AWp prog _ ⟨36,[P],⟨A++⟨P,267,[.sl l.length (l.flatMap aW),nC k,nC 24,nC 0]⟩::B,rw⟩,[(0,pP P)]⟩ _
 refine go 9 fun b1=>?_
 refine wcQ rfl call245 rfl (aA8 (_::A) _ _ _ l k) ?_
 rintro t1 s1 ⟨rfl,rfl⟩
 refine go 12 ?_
 exact ⟨.inr rfl,_,(ESt A B rw P l (k) (24) (3)),(eK (Wk.agg (.r (.r (.r (.n .nil))))) (aR rfl (aO [] rfl rfl isAgg73 sizeOf73 (bK rfl rfl)))),aA (.cons _ (.refl _)) (.refl _),⟨.zero,k,24,3,rfl,.err _ _ _ _ rfl (by decide),hk,by decide,(fun h=>nomatch h),Nat.le_refl _,Nat.le_refl _,rfl⟩⟩
theorem wW(A B:List Box)(rw:List bA)(P:Nat)(l:List Tok)(k d j:Nat)(op:Int)(hok:TOk l)(hk:k<l.length)(hm:k+1<l.length)(hd:d<24)(ih:∀(A B:List Box)(rw:List bA)(P:Nat)(k:Nat),k<l.length -> aL prog 239 [pP P] [P] (ESt A B rw P l k (d+1) 0) (EAn A B rw P l (d+1) k (bL l j k))):aL prog 242 [pP P,.c (.val (.int .i64 op))] [P] (ESt A B rw P l k d 0) (EAn A B rw P l d k (aKc op (bL l j (k+1)))):=by
 have hlen:=hok.len
 refine acB func242 rfl ?_
 show AWp prog _ ⟨23,[P],⟨A++⟨P,267,[.sl l.length (l.flatMap aW),nC k,nC d,nC 0]⟩::B,rw⟩,[(0,pP P),(1,.c (.val (.int .i64 op)))]⟩ _
 refine go 9 fun b1=>?_
 refine wcQ rfl call245 rfl (aBn (_::A) _ _ _ l k d (by omega) (by omega)) ?_
 rintro t1 s1 ⟨rfl,rfl⟩
 refine go 9 ?_
 refine wcQ rfl call239 rfl (ih (_::A) _ _ _ (k+1) hm) ?_
 rintro t3 s3 ⟨x3,k3,d3,e3,rfl,hr3,hk3,he3,hd3,hl3,hu3,rfl⟩
 refine go 10 fun b2=>?_
 refine wyz rfl (cI ((d3-1:Nat):Int) rfl rfl rfl (by omega) (by omega) (by omega)) ?_
 refine go 9 ?_
 refine wo rfl (bDk zb5 rfl (.cons rfl .nil) (aV fO cU x3 (fP _) rfl rfl) ?_)
 refine go 5 ?_
 exact ⟨.inr rfl,_,(ESt A B rw P l (k3) (d3-1) (e3)),(aR rfl (aO [_] rfl rfl isAgg73 sizeOf73 (bK rfl rfl))),aA (.cons _ (.cons _ (.refl _))) (.refl _),⟨.mk op 0 aK [x3],k3,d3-1,e3,rfl,by rw [aG4];exact (Run.from hr3).map (f:=fun x=>aH.mk op 0 aK [x]),hk3,he3,fun h=>by have:=hd3 h;omega,by omega,by omega,rfl⟩⟩
theorem aFj(A B:List Box)(rw:List bA)(P:Nat)(l:List Tok)(k d j:Nat)(hok:TOk l)(hk:k<l.length)(hm:k+1<l.length)(hd:d<24)(ihb:∀(A B:List Box)(rw:List bA)(P:Nat)(k:Nat),k<l.length -> aL prog 234 [pP P,.c (.val (.int .i64 1))] [P] (ESt A B rw P l k (d+1) 0) (EAn A B rw P l (d+1) k (gS l (bL l j) 5 k))):aL prog 243 [pP P] [P] (ESt A B rw P l k d 0) (EAn A B rw P l d k (aHo l (gS l (bL l j) 5 (k+1)))):=by
 have hlen:=hok.len
 refine acB func243 rfl ?_
 show AWp prog _ ⟨36,[P],⟨A++⟨P,267,[.sl l.length (l.flatMap aW),nC k,nC d,nC 0]⟩::B,rw⟩,[(0,pP P)]⟩ _
 refine go 9 fun b1=>?_
 refine wcQ rfl call245 rfl (aBn (_::A) _ _ _ l k d (by omega) (by omega)) ?_
 rintro t1 s1 ⟨rfl,rfl⟩
 refine go 9 ?_
 refine wcQ rfl call234 rfl (ihb (_::A) _ _ _ (k+1) hm) ?_
 rintro t3 s3 ⟨x3,k3,d3,e3,rfl,hr3,hk3,he3,hd3,hl3,hu3,rfl⟩
 refine go 7 fun b2=>?_
 by_cases her:e3=0
 ·refine go 4 ?_
  refine wcp false rfl (by rw [her];rfl) ?_
  refine go 9 ?_
  refine wcQ rfl call241 rfl (zV (_::_::A) _ _ _ l k3 d3 e3 [41] hk3) ?_
  rintro t5 s5 (⟨ha5,rfl,rfl⟩|⟨ha5,rfl,rfl⟩)
  ·refine go 8 ?_
   have hm2:=eF hok.last hk3 ha5
   refine go 4 ?_
   refine wad rfl ?_
   refine go 11 ?_
   refine wyz rfl (cI ((d3-1:Nat):Int) rfl rfl rfl (by omega) (by omega) (by omega)) ?_
   refine go 12 ?_
   exact ⟨.inr rfl,_,(ESt A B rw P l (k3+1) (d3-1) (e3)),(aR rfl (aO [_] rfl rfl isAgg73 sizeOf73 (bK rfl rfl))),aA (.cons _ (.cons _ (.refl _))) (.refl _),⟨x3,k3+1,d3-1,e3,rfl,by rw [tV];exact (Run.from hr3).bind (by rw [her,if_pos ha5];exact .ok _ _ _ rfl),hm2,he3,fun h=>by have:=hd3 h;omega,by omega,by omega,rfl⟩⟩
  refine go 7 ?_
  refine wcQ rfl call244 rfl (aDg (_::_::A) _ _ _ l k3 d3 e3 4) ?_
  rintro t8 s8 ⟨rfl,rfl⟩
  refine go 5 ?_
  exact ⟨.inr rfl,_,(ESt A B rw P l (k3) (d3) (4)),(aR rfl (aO [_] rfl rfl isAgg73 sizeOf73 (bK rfl rfl))),aA (.cons _ (.cons _ (.refl _))) (.refl _),⟨.zero,k3,d3,4,rfl,by rw [tV];exact (Run.from hr3).bind (by rw [her,if_neg (by rw [ha5];decide)];exact .err _ _ _ _ rfl (by decide)),hk3,by decide,(fun h=>nomatch h),by omega,by omega,rfl⟩⟩
 refine go 4 ?_
 refine wcp true rfl (by simp [bC,her]) ?_
 refine go 11 ?_
 exact ⟨.inr rfl,_,(ESt A B rw P l (k3) (d3) (e3)),(aR rfl (aO [_] rfl rfl isAgg73 sizeOf73 (bK rfl rfl))),aA (.cons _ (.cons _ (.refl _))) (.refl _),⟨x3,k3,d3,e3,rfl,by rw [tV];exact (Run.from hr3).bind (.skip her _ _),hk3,he3,fun h=>absurd h her,by omega,by omega,rfl⟩⟩
theorem aJs(A B:List Box)(rw:List bA)(P:Nat)(l:List Tok)(k:Nat)(hok:TOk l)(hk:k<l.length):aL prog 239 [pP P] [P] (ESt A B rw P l k 24 0) (EAn A B rw P l 24 k (bL l 0 k)):=by
 have hlen:=hok.len
 refine acB func239 rfl ?_
 show AWp prog _ ⟨59,[P],⟨A++⟨P,267,[.sl l.length (l.flatMap aW),nC k,nC 24,nC 0]⟩::B,rw⟩,[(0,pP P)]⟩ _
 refine go 6 fun b1=>?_
 refine aB [b1,P] (by kernel_rfl) ?_
 refine tks [(0,true),(1,true),(2,true),(3,true),(4,true),(5,true),(6,true),(7,true)] 4 (by kernel_rfl) ?_
 refine go 9 ?_
 refine tr 8 (by kernel_rfl) rfl (bH aW aW l bJ (fun _=>rfl) (k) rfl rfl rfl rfl hk (by decide) runUnderlying36 sizeOf66) ?_
 refine tks [(9,true),(10,false),(11,false)] 0 (by kernel_rfl) ?_
 refine go 4 fun b2=>?_
 refine aE (by kernel_rfl) ?_
 refine go 5 ?_
 rcases (show l[k].kind=2∨(¬l[k].kind=2 /\ l[k].kind=1)∨(¬l[k].kind=2 /\ ¬l[k].kind=1) by omega) with h2|⟨h2,h1⟩|⟨h2,h1⟩
 ·have hm:=hok.last.more hk (by rw [bG hk,h2];decide)
  refine go 2 ?_
  refine wcp true rfl (by rw [h2];rfl) ?_
  refine go 10 ?_
  refine wad rfl ?_
  refine go 16 ?_
  exact ⟨.inr rfl,_,(ESt A B rw P l (k+1) (24) (0)),(eK (Wk.agg (.r (.r (.r (.n .nil))))) (aR rfl (aO [_] rfl rfl isAgg73 sizeOf73 (bK rfl rfl)))),aA (.cons _ (.cons _ (.refl _))) (.refl _),⟨.mk 1 (l[k].num:Int) aK [],k+1,24,0,rfl,.ok _ _ _ (by unfold bL;rw [bG hk,if_pos h2]),hm,by decide,fun _=>rfl,Nat.le_refl _,by omega,rfl⟩⟩
 ·have hm:=hok.last.more hk (by rw [bG hk,h1];decide)
  refine go 2 ?_
  refine wcp false rfl (by rw [show bC .eql ((l[k].kind:Nat):Int) 2=some (decide (l[k].kind=2)) from jS (n:=2),decide_eq_false h2]) ?_
  refine go 8 ?_
  refine wcp true rfl (by rw [h1];rfl) ?_
  refine go 10 ?_
  refine wad rfl ?_
  refine go 16 ?_
  exact ⟨.inr rfl,_,(ESt A B rw P l (k+1) (24) (0)),(eK (Wk.agg (.r (.r (.r (.n .nil))))) (aR rfl (aO [_] rfl rfl isAgg73 sizeOf73 (bK rfl rfl)))),aA (.cons _ (.cons _ (.refl _))) (.refl _),⟨.mk 2 0 l[k].text [],k+1,24,0,rfl,.ok _ _ _ (by unfold bL;rw [bG hk,if_neg h2,if_pos h1]),hm,by decide,fun _=>rfl,Nat.le_refl _,by omega,rfl⟩⟩
 refine go 2 ?_
 refine wcp false rfl (by rw [show bC .eql ((l[k].kind:Nat):Int) 2=some (decide (l[k].kind=2)) from jS (n:=2),decide_eq_false h2]) ?_
 refine go 8 ?_
 refine wcp false rfl (by rw [show bC .eql ((l[k].kind:Nat):Int) 1=some (decide (l[k].kind=1)) from jS (n:=1),decide_eq_false h1]) ?_
 refine go 7 ?_
 refine wcQ rfl call241 rfl (zV (_::_::A) _ _ _ l k 24 0 [45] hk) ?_
 rintro t6 s6 (⟨ha6,rfl,rfl⟩|⟨ha6,rfl,rfl⟩)
 ·refine go 7 ?_
  have hm:=eF hok.last hk ha6
  refine wcQ rfl call242 rfl (xQ (_::_::A) _ _ _ l k 3 hok hk) ?_
  rintro t8 s8 ⟨x8,k8,d8,e8,rfl,hr8,hk8,he8,hd8,hl8,hu8,rfl⟩
  refine go 6 ?_
  exact ⟨.inr rfl,_,(ESt A B rw P l (k8) (d8) (e8)),(aR rfl (aO [_] rfl rfl isAgg73 sizeOf73 (bK rfl rfl))),aA (.cons _ (.cons _ (.refl _))) (.refl _),⟨x8,k8,d8,e8,rfl,hr8.eq fun _=>by unfold bL;rw [if_neg (by rw [bG hk];exact h2),if_neg (by rw [bG hk];exact h1)];rw [if_pos (by simp [ha6])],hk8,he8,hd8,hl8,hu8,rfl⟩⟩
 refine go 7 ?_
 refine wcQ rfl call241 rfl (zV (_::_::A) _ _ _ l k 24 0 [33] hk) ?_
 rintro t10 s10 (⟨ha10,rfl,rfl⟩|⟨ha10,rfl,rfl⟩)
 ·refine go 7 ?_
  have hm:=eF hok.last hk ha10
  refine wcQ rfl call242 rfl (xQ (_::_::A) _ _ _ l k 4 hok hk) ?_
  rintro t12 s12 ⟨x12,k12,d12,e12,rfl,hr12,hk12,he12,hd12,hl12,hu12,rfl⟩
  refine go 6 ?_
  exact ⟨.inr rfl,_,(ESt A B rw P l (k12) (d12) (e12)),(aR rfl (aO [_] rfl rfl isAgg73 sizeOf73 (bK rfl rfl))),aA (.cons _ (.cons _ (.refl _))) (.refl _),⟨x12,k12,d12,e12,rfl,hr12.eq fun _=>by unfold bL;rw [if_neg (by rw [bG hk];exact h2),if_neg (by rw [bG hk];exact h1)];rw [if_pos (by simp [ha10])],hk12,he12,hd12,hl12,hu12,rfl⟩⟩
 refine go 7 ?_
 refine wcQ rfl call241 rfl (zV (_::_::A) _ _ _ l k 24 0 [40] hk) ?_
 rintro t14 s14 (⟨ha14,rfl,rfl⟩|⟨ha14,rfl,rfl⟩)
 ·refine go 7 ?_
  have hm:=eF hok.last hk ha14
  refine wcQ rfl call243 rfl (aE6 (_::_::A) _ _ _ l k hok hk) ?_
  rintro t16 s16 ⟨x16,k16,d16,e16,rfl,hr16,hk16,he16,hd16,hl16,hu16,rfl⟩
  refine go 6 ?_
  exact ⟨.inr rfl,_,(ESt A B rw P l (k16) (d16) (e16)),(aR rfl (aO [_] rfl rfl isAgg73 sizeOf73 (bK rfl rfl))),aA (.cons _ (.cons _ (.refl _))) (.refl _),⟨x16,k16,d16,e16,rfl,hr16.eq fun _=>by unfold bL;rw [if_neg (by rw [bG hk];exact h2),if_neg (by rw [bG hk];exact h1)];rw [if_pos (by simp [ha14])],hk16,he16,hd16,hl16,hu16,rfl⟩⟩
 refine go 10 ?_
 refine wcQ rfl call244 rfl (aDg (_::_::A) _ _ _ l k 24 0 4) ?_
 rintro t18 s18 ⟨rfl,rfl⟩
 refine go 4 ?_
 exact ⟨.inr rfl,_,(ESt A B rw P l (k) (24) (4)),(aR rfl (aO [_] rfl rfl isAgg73 sizeOf73 (bK rfl rfl))),aA (.cons _ (.cons _ (.refl _))) (.refl _),⟨.zero,k,24,4,rfl,.err _ _ _ _ (by unfold bL;rw [if_neg (by rw [bG hk];exact h2),if_neg (by rw [bG hk];exact h1)];rw [ha6,ha10,ha14];rfl) (by decide),hk,by decide,(fun h=>nomatch h),Nat.le_refl _,by omega,rfl⟩⟩
theorem aJi(A B:List Box)(rw:List bA)(P:Nat)(l:List Tok)(k d j:Nat)(hok:TOk l)(hk:k<l.length)(hd:d<24)(ih:∀(A B:List Box)(rw:List bA)(P:Nat)(k:Nat),k<l.length -> aL prog 239 [pP P] [P] (ESt A B rw P l k (d+1) 0) (EAn A B rw P l (d+1) k (bL l j k)))(ihb:∀(A B:List Box)(rw:List bA)(P:Nat)(k:Nat),k<l.length -> aL prog 234 [pP P,.c (.val (.int .i64 1))] [P] (ESt A B rw P l k (d+1) 0) (EAn A B rw P l (d+1) k (gS l (bL l j) 5 k))):aL prog 239 [pP P] [P] (ESt A B rw P l k d 0) (EAn A B rw P l d k (bL l (j+1) k)):=by
 have hlen:=hok.len
 refine acB func239 rfl ?_
 show AWp prog _ ⟨59,[P],⟨A++⟨P,267,[.sl l.length (l.flatMap aW),nC k,nC d,nC 0]⟩::B,rw⟩,[(0,pP P)]⟩ _
 refine go 6 fun b1=>?_
 refine aB [b1,P] (by kernel_rfl) ?_
 refine tks [(0,true),(1,true),(2,true),(3,true),(4,true),(5,true),(6,true),(7,true)] 4 (by kernel_rfl) ?_
 refine go 9 ?_
 refine tr 8 (by kernel_rfl) rfl (bH aW aW l bJ (fun _=>rfl) (k) rfl rfl rfl rfl hk (by decide) runUnderlying36 sizeOf66) ?_
 refine tks [(9,true),(10,false),(11,false)] 0 (by kernel_rfl) ?_
 refine go 4 fun b2=>?_
 refine aE (by kernel_rfl) ?_
 refine go 5 ?_
 rcases (show l[k].kind=2∨(¬l[k].kind=2 /\ l[k].kind=1)∨(¬l[k].kind=2 /\ ¬l[k].kind=1) by omega) with h2|⟨h2,h1⟩|⟨h2,h1⟩
 ·have hm:=hok.last.more hk (by rw [bG hk,h2];decide)
  refine go 2 ?_
  refine wcp true rfl (by rw [h2];rfl) ?_
  refine go 10 ?_
  refine wad rfl ?_
  refine go 16 ?_
  exact ⟨.inr rfl,_,(ESt A B rw P l (k+1) (d) (0)),(eK (Wk.agg (.r (.r (.r (.n .nil))))) (aR rfl (aO [_] rfl rfl isAgg73 sizeOf73 (bK rfl rfl)))),aA (.cons _ (.cons _ (.refl _))) (.refl _),⟨.mk 1 (l[k].num:Int) aK [],k+1,d,0,rfl,.ok _ _ _ (by rw [bL.eq_2];rw [bG hk,if_pos h2]),hm,by decide,fun _=>rfl,Nat.le_refl _,by omega,rfl⟩⟩
 ·have hm:=hok.last.more hk (by rw [bG hk,h1];decide)
  refine go 2 ?_
  refine wcp false rfl (by rw [show bC .eql ((l[k].kind:Nat):Int) 2=some (decide (l[k].kind=2)) from jS (n:=2),decide_eq_false h2]) ?_
  refine go 8 ?_
  refine wcp true rfl (by rw [h1];rfl) ?_
  refine go 10 ?_
  refine wad rfl ?_
  refine go 16 ?_
  exact ⟨.inr rfl,_,(ESt A B rw P l (k+1) (d) (0)),(eK (Wk.agg (.r (.r (.r (.n .nil))))) (aR rfl (aO [_] rfl rfl isAgg73 sizeOf73 (bK rfl rfl)))),aA (.cons _ (.cons _ (.refl _))) (.refl _),⟨.mk 2 0 l[k].text [],k+1,d,0,rfl,.ok _ _ _ (by rw [bL.eq_2];rw [bG hk,if_neg h2,if_pos h1]),hm,by decide,fun _=>rfl,Nat.le_refl _,by omega,rfl⟩⟩
 refine go 2 ?_
 refine wcp false rfl (by rw [show bC .eql ((l[k].kind:Nat):Int) 2=some (decide (l[k].kind=2)) from jS (n:=2),decide_eq_false h2]) ?_
 refine go 8 ?_
 refine wcp false rfl (by rw [show bC .eql ((l[k].kind:Nat):Int) 1=some (decide (l[k].kind=1)) from jS (n:=1),decide_eq_false h1]) ?_
 refine go 7 ?_
 refine wcQ rfl call241 rfl (zV (_::_::A) _ _ _ l k d 0 [45] hk) ?_
 rintro t6 s6 (⟨ha6,rfl,rfl⟩|⟨ha6,rfl,rfl⟩)
 ·refine go 7 ?_
  have hm:=eF hok.last hk ha6
  refine wcQ rfl call242 rfl (wW (_::_::A) _ _ _ l k d j 3 hok hk hm (by omega) ih) ?_
  rintro t8 s8 ⟨x8,k8,d8,e8,rfl,hr8,hk8,he8,hd8,hl8,hu8,rfl⟩
  refine go 6 ?_
  exact ⟨.inr rfl,_,(ESt A B rw P l (k8) (d8) (e8)),(aR rfl (aO [_] rfl rfl isAgg73 sizeOf73 (bK rfl rfl))),aA (.cons _ (.cons _ (.refl _))) (.refl _),⟨x8,k8,d8,e8,rfl,hr8.eq fun _=>by rw [bL.eq_2];rw [if_neg (by rw [bG hk];exact h2),if_neg (by rw [bG hk];exact h1)];rw [if_pos ha6],hk8,he8,hd8,hl8,hu8,rfl⟩⟩
 refine go 7 ?_
 refine wcQ rfl call241 rfl (zV (_::_::A) _ _ _ l k d 0 [33] hk) ?_
 rintro t10 s10 (⟨ha10,rfl,rfl⟩|⟨ha10,rfl,rfl⟩)
 ·refine go 7 ?_
  have hm:=eF hok.last hk ha10
  refine wcQ rfl call242 rfl (wW (_::_::A) _ _ _ l k d j 4 hok hk hm (by omega) ih) ?_
  rintro t12 s12 ⟨x12,k12,d12,e12,rfl,hr12,hk12,he12,hd12,hl12,hu12,rfl⟩
  refine go 6 ?_
  exact ⟨.inr rfl,_,(ESt A B rw P l (k12) (d12) (e12)),(aR rfl (aO [_] rfl rfl isAgg73 sizeOf73 (bK rfl rfl))),aA (.cons _ (.cons _ (.refl _))) (.refl _),⟨x12,k12,d12,e12,rfl,hr12.eq fun _=>by rw [bL.eq_2];rw [if_neg (by rw [bG hk];exact h2),if_neg (by rw [bG hk];exact h1)];rw [if_neg (by rw [ha6];decide),if_pos ha10],hk12,he12,hd12,hl12,hu12,rfl⟩⟩
 refine go 7 ?_
 refine wcQ rfl call241 rfl (zV (_::_::A) _ _ _ l k d 0 [40] hk) ?_
 rintro t14 s14 (⟨ha14,rfl,rfl⟩|⟨ha14,rfl,rfl⟩)
 ·refine go 7 ?_
  have hm:=eF hok.last hk ha14
  refine wcQ rfl call243 rfl (aFj (_::_::A) _ _ _ l k d j hok hk hm (by omega) ihb) ?_
  rintro t16 s16 ⟨x16,k16,d16,e16,rfl,hr16,hk16,he16,hd16,hl16,hu16,rfl⟩
  refine go 6 ?_
  exact ⟨.inr rfl,_,(ESt A B rw P l (k16) (d16) (e16)),(aR rfl (aO [_] rfl rfl isAgg73 sizeOf73 (bK rfl rfl))),aA (.cons _ (.cons _ (.refl _))) (.refl _),⟨x16,k16,d16,e16,rfl,hr16.eq fun _=>by rw [bL.eq_2];rw [if_neg (by rw [bG hk];exact h2),if_neg (by rw [bG hk];exact h1)];rw [if_neg (by rw [ha6];decide),if_neg (by rw [ha10];decide),if_pos ha14],hk16,he16,hd16,hl16,hu16,rfl⟩⟩
 refine go 10 ?_
 refine wcQ rfl call244 rfl (aDg (_::_::A) _ _ _ l k d 0 4) ?_
 rintro t18 s18 ⟨rfl,rfl⟩
 refine go 4 ?_
 exact ⟨.inr rfl,_,(ESt A B rw P l (k) (d) (4)),(aR rfl (aO [_] rfl rfl isAgg73 sizeOf73 (bK rfl rfl))),aA (.cons _ (.cons _ (.refl _))) (.refl _),⟨.zero,k,d,4,rfl,.err _ _ _ _ (by rw [bL.eq_2];rw [if_neg (by rw [bG hk];exact h2),if_neg (by rw [bG hk];exact h1)];rw [if_neg (by rw [ha6];decide),if_neg (by rw [ha10];decide),if_neg (by rw [ha14];decide)]) (by decide),hk,by decide,(fun h=>nomatch h),Nat.le_refl _,by omega,rfl⟩⟩
end
end Go.Proofs.YtojinfngbbajgaaGreatDoor
