import Derived.Test.YtojinfngbbajgaaGreatDoorP28J
import Derived.Test.YtojinfngbbajgaaGreatDoorP19J
import Derived.Test.YtojinfngbbajgaaGreatDoorP5J
import Derived.Test.YtojinfngbbajgaaGreatDoorP9J
import Derived.Test.YtojinfngbbajgaaGreatDoorP8J
set_option linter.all false
set_option synthInstance.maxHeartbeats 1000000
set_option synthInstance.maxSize 1000000
set_option maxHeartbeats 1600000
set_option maxRecDepth 100000
namespace Go.Proofs.YtojinfngbbajgaaGreatDoor
open Go.Proofs.Tryz
open List (length_append length_cons length_nil mem_append mem_cons not_mem_nil append_assoc getElem_mem take_of_length_le)
section
theorem VE.sane9{e:aH}(h:VE e):e.sane:=by
 induction h with
 |num n h=>rw [aH.sane];exact ⟨by unfold fit;omega,by decide,trivial⟩
 |name s h=>rw [aH.sane];exact ⟨by unfold fit;omega,by have:=dV h;omega,trivial⟩
 |un op x h hx ih=>rw [aH.sane,iI,iI];exact ⟨by unfold fit;omega,by decide,ih,trivial⟩
 |bin op x y h hx hy ihx ihy=>rw [aH.sane,iI,iI,iI];exact ⟨by unfold fit;omega,by decide,ihx,ihy,trivial⟩
theorem VE.shape9{e:aH}(h:VE e):eO e=true:=by
 induction h with
 |num n h=>rw [eO,dY,show aM 1=6 from rfl,if_pos rfl,jG,arity,show aM 1=6 from rfl,if_pos rfl];simp
 |name s h=>rw [eO,dY,show aM 2=6 from rfl,if_pos rfl,jG,arity,show aM 2=6 from rfl,if_pos rfl,h];simp
 |un op x h hx ih=>
  have hs:=aDj h
  rw [eO,dY,dY,arity,hs,if_neg (by decide),if_neg (by decide),if_pos rfl,ih];simp
 |bin op x y h hx hy ihx ihy=>
  have hs:=sX h.1 h.2
  rw [eO,dY,dY,dY,arity,if_neg (by omega),if_neg (by omega),if_neg (by omega),ihx,ihy];simp
theorem VX.valid9{e:aH}(h:VX e):dM e=true:=by rw [dM,h.1.shape9,decide_eq_true h.2];rfl
theorem bXx:aH.zero.sane:=by unfold aH.zero;rw [aH.sane];exact ⟨by unfold fit;omega,by decide,trivial⟩
theorem bXu:cY.zero.sane:=⟨by decide,trivial⟩
theorem bX5:bLg .zero=true:=by kernel_rfl
theorem bXz:kM .zero=true:=by kernel_rfl
theorem VR.sane9{r:cY}(h:VR r):r.sane:=by
 cases h with
 |one n h=>exact ⟨by have:=dV h;dsimp only;omega,trivial⟩
 |el n e h he=>exact ⟨by have:=dV h;dsimp only;omega,he.1.sane9,trivial⟩
theorem VR.ok9{r:cY}(h:VR r):okRefB r=true:=by
 cases h with
 |one n h=>unfold okRefB;rw [h];rfl
 |el n e h he=>unfold okRefB;rw [h];dsimp only;rw [he.valid9];rfl
theorem VA.sane9{a:eN}(h:VA a):a.sane:=by
 cases h with
 |mutex r h=>exact ⟨h.sane9,bXx⟩
 |expr e h=>exact ⟨bXu,h.1.sane9⟩
theorem VA.ok9{a:eN}(h:VA a):fY a=true:=by
 cases h with
 |mutex r h=>unfold fY;rw [if_pos rfl,h.ok9,bX5];rfl
 |expr e h=>unfold fY;rw [if_neg (by simp),h.valid9,bXz];rfl
theorem VSs.sane9{d:Nat}{l:List aJ}(h:VSs d l):gC l:=by
 have hn:∀a:eN,a∈([]:List eN) -> a.sane:=fun a ha=>by cases ha
 have hz:aK.size <= 4611686018427387904:=by decide
 induction h with
 |nil=>trivial
 |var hn9 he h ih=>rw [gC,aJ.sane];exact ⟨⟨by have:=dV hn9;omega,he.1.sane9,bXu,hn,trivial,trivial⟩,ih⟩
 |assign hn9 he h ih=>rw [gC,aJ.sane];exact ⟨⟨by have:=dV hn9;omega,he.1.sane9,bXu,hn,trivial,trivial⟩,ih⟩
 |call hn9 ha h ih=>rw [gC,aJ.sane];exact ⟨⟨by have:=dV hn9;omega,bXx,bXu,fun a h=>(ha a h).sane9,trivial,trivial⟩,ih⟩
 |go hn9 ha h ih=>rw [gC,aJ.sane];exact ⟨⟨by have:=dV hn9;omega,bXx,bXu,fun a h=>(ha a h).sane9,trivial,trivial⟩,ih⟩
 |lock hf h ih=>rw [gC,aJ.sane];exact ⟨⟨hz,bXx,hf.sane9,hn,trivial,trivial⟩,ih⟩
 |unlock hf h ih=>rw [gC,aJ.sane];exact ⟨⟨hz,bXx,hf.sane9,hn,trivial,trivial⟩,ih⟩
 |cond he ht hf h iht ihf ih=>rw [gC,aJ.sane];exact ⟨⟨hz,he.1.sane9,bXu,hn,iht,ihf⟩,ih⟩
 |loop he ht h iht ih=>rw [gC,aJ.sane];exact ⟨⟨hz,he.1.sane9,bXu,hn,iht,trivial⟩,ih⟩
 |ret h ih=>rw [gC,aJ.sane];exact ⟨⟨hz,bXx,bXu,hn,trivial,trivial⟩,ih⟩
theorem VSs.ok9{d:Nat}{l:List aJ}(h:VSs d l):∀D,D+d<24 -> bM D l=true:=by
 induction h with
 |nil=>intro D hd;rw [bM];exact decide_eq_true (by omega)
 |var hn he h ih=>intro D hd;rw [bM,bK9,ih D hd,hn,he.valid9,bXz];rfl
 |assign hn he h ih=>intro D hd;rw [bM,bK9,ih D hd,hn,he.valid9,bXz];rfl
 |@call d n a r hn ha h ih=>
  intro D hd
  have h9:a.all fY=true:=List.all_eq_true.2 fun x hx=>(ha x hx).ok9
  rw [bM,bK9,ih D hd,hn,bXz,bX5,h9];rfl
 |@go d n a r hn ha h ih=>
  intro D hd
  have h9:a.all fY=true:=List.all_eq_true.2 fun x hx=>(ha x hx).ok9
  rw [bM,bK9,ih D hd,hn,bXz,bX5,h9];rfl
 |lock hf h ih=>intro D hd;rw [bM,bK9,ih D hd,bX5,hf.ok9];rfl
 |unlock hf h ih=>intro D hd;rw [bM,bK9,ih D hd,bX5,hf.ok9];rfl
 |cond he ht hf h iht ihf ih=>
  intro D hd
  rw [bM,bK9,ih D hd,he.valid9,bXz,iht (D+1) (by omega),ihf (D+1) (by omega)]
  simp
 |loop he ht h iht ih=>
  intro D hd
  rw [bM,bK9,ih D hd,he.valid9,bXz,iht (D+1) (by omega)]
  simp
 |ret h ih=>intro D hd;rw [bM,bK9,ih D hd,bX5,bXz];rfl
theorem bX7.sane{p:cK}{n:Nat}(h:bX7 p n):p.sane:=
 ⟨fun g hg=>by have:=h.gl g hg;have h2:=dV this.1;have h3:=this.2;exact ⟨by unfold fit;omega,by omega⟩,
  fun g hg=>by obtain ⟨h1,h2,h3,h4⟩:=h.ml g hg;have h5:=dV h1;exact ⟨by unfold fit;omega,by omega⟩,
  fun g hg=>by obtain ⟨h1,h2,h3,h4⟩:=h.fl g hg;have h5:=dV h1;exact ⟨by omega,fun x hx=>by have:=dV (h3 x hx);omega,h4.sane9⟩⟩
theorem bX7.form{p:cK}{n:Nat}(h:bX7 p n):nY p=true:=by
 unfold nY
 simp only [Bool.and_eq_true,decide_eq_true_eq]
 refine ⟨⟨⟨⟨h.lg,h.lm,h.lf⟩,List.all_eq_true.2 fun g hg=>?_⟩,List.all_eq_true.2 fun g hg=>?_⟩,List.all_eq_true.2 fun g hg=>?_⟩
 ·obtain ⟨h1,h2⟩:=h.gl g hg
  unfold gH;rw [h1,decide_eq_true (by omega)];rfl
 ·obtain ⟨h1,h2,h3,h4⟩:=h.ml g hg
  unfold fS
  rw [h1,decide_eq_true ⟨h2,h3⟩]
  cases hr:g.reentrant with
  |false=>rfl
  |true=>rw [h4 hr];rfl
 obtain ⟨h1,h2,h3,h4⟩:=h.fl g hg
 unfold gW
 rw [h1,decide_eq_true h2,h4.ok9 0 (by omega),List.all_eq_true.2 h3];rfl
theorem VE.nodes9{e:aH}(h:VE e):e.nodes+2 <= 3*(aT e).length:=by
 induction h with
 |num n h=>rw [uO,aH.nodes,cZ];simp
 |name s h=>rw [sC,aH.nodes,cZ];simp
 |un op x h hx ih=>rw [yB h,aH.nodes,cZ,cZ,length_cons,bXy];omega
 |bin op x y h hx hy ihx ihy=>rw [uI h,aH.nodes,cZ,cZ,cZ,length_append,length_cons,bXy,bXy];omega
theorem VR.wt9{r:cY}(h:VR r):r.wt <= 3*(hY r).length:=by
 cases h with
 |one n h=>show 1+cZ [] <= 3*1;rw [cZ];omega
 |el n e h he=>
  have:=he.1.nodes9
  have h9:(hY ⟨n,[e]⟩).length=(aT e).length+3:=by simp [hY]
  rw [h9];unfold cY.wt;rw [cZ,cZ];omega
theorem VA.wt9{a:eN}(h:VA a):a.wt <= 4*(wH a).length:=by
 cases h with
 |mutex r h=>
  have:=h.wt9
  have h9:(wH ⟨true,r,.zero⟩).length=(hY r).length+1:=rfl
  have h8:aH.zero.nodes=1:=rfl
  rw [h9];unfold eN.wt;dsimp only;omega
 |expr e h=>
  have:=h.1.nodes9
  have h9:(wH ⟨false,.zero,e⟩).length=(aT e).length:=rfl
  have h8:cY.zero.wt=1:=rfl
  rw [h9];unfold eN.wt;dsimp only;omega
theorem bYq:∀{l:List eN},(∀x,x∈l -> VA x) -> wtA l <= 4*(fZ wH l).length
 |[],_=>by simp [wtA]
 |[x],h=>by
  have:=(h x (by simp)).wt9
  have h9:(fZ wH [x]).length=(wH x).length:=by simp [fZ]
  rw [h9,wtA,wtA];omega
 |x::y::r,h=>by
  have h1:=(h x (by simp)).wt9
  have h2:=bYq (l:=y::r) fun z hz=>h z (List.mem_cons_of_mem _ hz)
  rw [nW,wtA,length_append,length_cons];omega
theorem VSs.wt9{d:Nat}{l:List aJ}(h:VSs d l):wtS l <= 4*(aQ l).length:=by
 have h8:aH.zero.nodes=1:=rfl
 have h7:cY.zero.wt=1:=rfl
 have h6:wtA []=0:=rfl
 have h5:wtS []=0:=rfl
 induction h with
 |nil=>simp [wtS]
 |@var d n e r hn he h ih=>
  have:=he.1.nodes9
  rw [wtS,aJ.wt,aQ,length_append,show (cE (.mk 1 n e .zero [] [] [])).length=(aT e).length+4 by rw [cE];simp];omega
 |@assign d n e r hn he h ih=>
  have:=he.1.nodes9
  rw [wtS,aJ.wt,aQ,length_append,show (cE (.mk 2 n e .zero [] [] [])).length=(aT e).length+3 by rw [cE];simp];omega
 |@call d n a r hn ha h ih=>
  have:=bYq ha
  have h9:(iG a).length=(fZ wH a).length+2:=by simp [iG]
  rw [wtS,aJ.wt,aQ,length_append,show (cE (.mk 3 n .zero .zero a [] [])).length=(iG a).length+2 by rw [cE];simp];omega
 |@go d n a r hn ha h ih=>
  have:=bYq ha
  have h9:(iG a).length=(fZ wH a).length+2:=by simp [iG]
  rw [wtS,aJ.wt,aQ,length_append,show (cE (.mk 4 n .zero .zero a [] [])).length=(iG a).length+3 by rw [cE];simp];omega
 |@lock d f r hf h ih=>
  have:=hf.wt9
  rw [wtS,aJ.wt,aQ,length_append,show (cE (.mk 5 aK .zero f [] [] [])).length=(hY f).length+2 by rw [cE];simp];omega
 |@unlock d f r hf h ih=>
  have:=hf.wt9
  rw [wtS,aJ.wt,aQ,length_append,show (cE (.mk 6 aK .zero f [] [] [])).length=(hY f).length+2 by rw [cE];simp];omega
 |@cond d e t f r he ht hf h iht ihf ih=>
  have:=he.1.nodes9
  have h9:(aT e).length+(aQ t).length+(aQ f).length+3 <= (cE (.mk 7 aK e .zero [] t f)).length:=by
   rw [cE]
   by_cases hz:f.length=0
   ·obtain rfl:=List.length_eq_zero_iff.1 hz
    simp [aQ];omega
   simp [hz];omega
  rw [wtS,aJ.wt,aQ,length_append];omega
 |@loop d e t r he ht h iht ih=>
  have:=he.1.nodes9
  rw [wtS,aJ.wt,aQ,length_append,show (cE (.mk 8 aK e .zero [] t [])).length=(aT e).length+(aQ t).length+3 by rw [cE];simp;omega];omega
 |@ret d r h ih=>
  rw [wtS,aJ.wt,aQ,length_append,show (cE (.mk 9 aK .zero .zero [] [] [])).length=2 by rw [cE];simp];omega
theorem bYn{α:Type}(f:α -> List PT)(l:List α)(h:∀x,x∈l -> 1 <= (f x).length):l.length <= (l.map f).flatten.length:=by
 induction l with
 |nil=>simp
 |cons x l ih=>
  have h1:=h x (by simp)
  have h2:=ih fun y hy=>h y (List.mem_cons_of_mem _ hy)
  simp only [length_cons,List.map_cons,List.flatten_cons,length_append];omega
theorem bYb{α:Type}(f:α -> List PT)(h:∀x,1 <= (f x).length):∀l:List α,l.length <= (fZ f l).length
 |[]=>by simp
 |[x]=>by have:=h x;simp [fZ];omega
 |x::y::r=>by have h1:=bYb f h (y::r);have h2:=h x;rw [nW,length_append,length_cons];simp only [length_cons] at h1⊢;omega
theorem bY9(x:aS):1 <= (lQ x).length:=by unfold lQ;simp
theorem bYl(f:bS):(kA f).length=(fZ lQ f.params).length+(aQ f.body).length+6:=by simp [kA];omega
theorem bYy:∀{l:List bS},(∀f,f∈l -> VF f) -> (l.map bS.wt).sum <= 4*(l.map kA).flatten.length
 |[],_=>by simp
 |f::l,h=>by
  have h1:=(h f (by simp)).2.2.2.wt9
  have h2:=bYy (l:=l) fun g hg=>h g (List.mem_cons_of_mem _ hg)
  have h3:=bYb lQ bY9 f.params
  have h4:=bYl f
  simp only [List.map_cons,List.sum_cons,List.flatten_cons,length_append]
  unfold bS.wt at h2⊢;omega
theorem bX7.wt{p:cK}{n:Nat}(h:bX7 p n):p.wt <= 4*n:=by
 have h1:=bYn bEr p.globals (fun x _=>by unfold bEr;simp)
 have h2:=bYn gT p.mutexes (fun x _=>by unfold gT;simp)
 have h3:=bYy h.fl
 have h4:=h.sum
 unfold cK.wt;omega
theorem bZl{N:Nat}{r:cY}(h:okRefB r=true∨kM r=true)(hN:r.wt <= N):r.small N:=by
 unfold cY.wt at hN
 refine ⟨?_,fun x hx=>?_⟩
 ·rcases h with h|h
  ·rcases (xE h).2.1 with h|h<;>omega
  unfold kM at h
  simp only [Bool.and_eq_true,decide_eq_true_eq] at h;omega
 obtain ⟨k,hk,rfl⟩:=List.getElem_of_mem hx
 have:=nM r.index k hk;omega
theorem bZn{N:Nat}{a:eN}(h:fY a=true)(hN:a.wt <= N):a.small N:=by
 unfold eN.wt at hN
 refine ⟨bZl ?_ (by omega),by omega⟩
 unfold fY at h
 split at h<;>rw [Bool.and_eq_true] at h
 ·exact .inl h.1
 exact .inr h.1
mutual
theorem bZo{N:Nat}:∀(s:aJ)(D:Nat),bK9 D s=true -> s.wt <= N -> s.small N
 |.mk k n e r a t f,D,h,hw=>by
  rw [bK9] at h
  simp only [Bool.and_eq_true,Bool.or_eq_true,decide_eq_true_eq] at h
  obtain ⟨⟨⟨⟨-,h4⟩,-⟩,h6⟩,h7⟩:=h.1
  rw [aJ.wt] at hw
  have h1:=aCj a
  have h2:=uZ t
  have h3:=uZ f
  rw [aJ.small]
  refine ⟨by omega,bZl (by split at h4;exact .inl h4;exact .inr h4) (by omega),by omega,fun x hx=>?_,by omega,?_,by omega,?_⟩
  ·obtain ⟨j,hj,rfl⟩:=List.getElem_of_mem hx
   have:=aDf a j hj
   exact bZn (List.all_eq_true.1 h6 _ hx) (by omega)
  ·split at h7
   ·exact bZk t (D+1) h7 (by omega)
   rw [List.length_eq_zero_iff.1 (of_decide_eq_true h7)];trivial
  rcases h.2 with h8|h8
  ·rw [List.length_eq_zero_iff.1 h8];trivial
  exact bZk f (D+1) h8.2 (by omega)
theorem bZk{N:Nat}:∀(l:List aJ)(D:Nat),bM D l=true -> wtS l <= N -> smalls N l
 |[],_,_,_=>trivial
 |s::l,D,h,hw=>by
  rw [bM,Bool.and_eq_true] at h
  rw [wtS] at hw
  exact ⟨bZo s D h.1 (by omega),bZk l D h.2 (by omega)⟩
end
theorem bZm{p:cK}{N:Nat}(h:nY p=true)(hN:p.wt+30 <= N):p.small N:=by
 unfold nY at h
 simp only [Bool.and_eq_true,decide_eq_true_eq] at h
 refine ⟨by omega,by omega,by omega,fun f hf=>?_⟩
 have h1:=List.all_eq_true.1 h.2 f hf
 unfold gW at h1
 simp only [Bool.and_eq_true,decide_eq_true_eq] at h1
 obtain ⟨k,hk,rfl⟩:=List.getElem_of_mem hf
 have h5:=aDi bS.wt p.funcs k hk
 unfold cK.wt at hN
 unfold bS.wt at h5 hN
 have:=uZ p.funcs[k].body
 exact ⟨by omega,by omega,bZk _ 0 h1.1.2 (by omega)⟩
theorem bY3(b:Bool)(t:List UInt8):(aH3 b t).length=t.length+2*(if b then 1 else 0):=by cases b<;>simp [aH3]
theorem bY2(n:Nat)(h:n <= 9223372036854775807):(cO n).length <= 19:=aGa 19 n (by omega) (by omega)
theorem bXq{s:ByteArray}(h:bQ s=true):s.data.toList.length <= 16:=dV h
theorem VE.len9{e:aH}(h:VE e):(aP e).length <= 20*(aT e).length:=by
 induction h with
 |num n h=>have:=bY2 n h;rw [uO,wE];simp only [length_cons,length_nil];omega
 |name s h=>have:=bXq h;rw [sC,zB];simp only [length_cons,length_nil];omega
 |un op x h hx ih=>rw [yB h,aFl h,length_cons,length_cons,bXy,bY3];omega
 |bin op x y h hx hy ihx ihy=>
  have:=aAr op
  rw [uI h,aB4 h]
  simp only [length_append,length_cons,length_nil,bXy,bY3];omega
theorem VR.len9{r:cY}(h:VR r):(dC r).length <= 20*(hY r).length:=by
 cases h with
 |one n h=>have:=bXq h;show n.data.toList.length <= 20*1;omega
 |el n e h he=>
  have:=he.1.len9
  have:=bXq h
  have h9:(hY ⟨n,[e]⟩).length=(aT e).length+3:=by simp [hY]
  rw [h9]
  show (n.data.toList++[91]++aP e++[93]).length <= _
  simp only [length_append,length_cons,length_nil];omega
theorem VA.len9{a:eN}(h:VA a):(dE a).length <= 20*(wH a).length:=by
 cases h with
 |mutex r h=>
  have:=h.len9
  have h9:(wH ⟨true,r,.zero⟩).length=(hY r).length+1:=rfl
  rw [h9]
  show ([109,117,116,101,120,32]++dC r).length <= _
  simp only [length_append,length_cons,length_nil];omega
 |expr e h=>exact h.1.len9
theorem bX8{α:Type}{fT:α -> List UInt8}{fK:α -> List PT}:∀(l:List α),(∀x,x∈l -> (fT x).length <= 20*(fK x).length) -> (bW fT l).length <= 20*(fZ fK l).length
 |[],_=>by simp [bW]
 |[x],h=>by have:=h x (by simp);simpa [bW,fZ] using this
 |x::y::q,h=>by
  have h1:=bX8 (y::q) fun z hz=>h z (List.mem_cons_of_mem _ hz)
  have h2:=h x (by simp)
  rw [aHu,nW]
  simp only [length_append,length_cons,length_nil] at h1⊢;omega
theorem bYw{l:List eN}(h:∀x,x∈l -> VA x):(dF l).length <= 20*(iG l).length:=by
 have h1:=bX8 (fT:=dE) (fK:=wH) l fun x hx=>(h x hx).len9
 have h9:(iG l).length=(fZ wH l).length+2:=by simp [iG]
 unfold dF
 simp only [length_append,length_cons,length_nil];omega
theorem VSs.len9{d:Nat}{l:List aJ}(h:VSs d l):∀tabs:List UInt8,tabs.length+d <= 24 -> (aC tabs l).length <= 60*(aQ l).length:=by
 induction h with
 |nil=>intro tabs _;simp [aC]
 |@var d n e r hn he h ih=>
  intro tabs ht
  have h0:=ih tabs ht
  have h1:=he.1.len9
  have h2:=bXq hn
  rw [aC,aQ,length_append,length_append,show (cE (.mk 1 n e .zero [] [] [])).length=(aT e).length+4 by rw [cE];simp,bY,if_pos rfl]
  simp only [length_append,length_cons,length_nil];omega
 |@assign d n e r hn he h ih=>
  intro tabs ht
  have h0:=ih tabs ht
  have h1:=he.1.len9
  have h2:=bXq hn
  rw [aC,aQ,length_append,length_append,show (cE (.mk 2 n e .zero [] [] [])).length=(aT e).length+3 by rw [cE];simp,bY,if_neg (by decide),if_pos rfl]
  simp only [length_append,length_cons,length_nil];omega
 |@call d n a r hn ha h ih=>
  intro tabs ht
  have h0:=ih tabs ht
  have h1:=bYw ha
  have h2:=bXq hn
  rw [aC,aQ,length_append,length_append,show (cE (.mk 3 n .zero .zero a [] [])).length=(iG a).length+2 by rw [cE];simp,bY,if_neg (by decide),if_neg (by decide),if_pos rfl]
  simp only [length_append,length_cons,length_nil];omega
 |@go d n a r hn ha h ih=>
  intro tabs ht
  have h0:=ih tabs ht
  have h1:=bYw ha
  have h2:=bXq hn
  rw [aC,aQ,length_append,length_append,show (cE (.mk 4 n .zero .zero a [] [])).length=(iG a).length+3 by rw [cE];simp,bY,if_neg (by decide),if_neg (by decide),if_neg (by decide),if_pos rfl]
  simp only [length_append,length_cons,length_nil];omega
 |@lock d f r hf h ih=>
  intro tabs ht
  have h0:=ih tabs ht
  have h1:=hf.len9
  rw [aC,aQ,length_append,length_append,show (cE (.mk 5 aK .zero f [] [] [])).length=(hY f).length+2 by rw [cE];simp,bY,if_neg (by decide),if_neg (by decide),if_neg (by decide),if_neg (by decide),if_pos rfl]
  simp only [length_append,length_cons,length_nil];omega
 |@unlock d f r hf h ih=>
  intro tabs ht
  have h0:=ih tabs ht
  have h1:=hf.len9
  rw [aC,aQ,length_append,length_append,show (cE (.mk 6 aK .zero f [] [] [])).length=(hY f).length+2 by rw [cE];simp,bY,if_neg (by decide),if_neg (by decide),if_neg (by decide),if_neg (by decide),if_neg (by decide),if_pos rfl]
  simp only [length_append,length_cons,length_nil];omega
 |@cond d e t f r he htt hf h iht ihf ih=>
  intro tabs ht
  have h0:=ih tabs ht
  have h1:=he.1.len9
  have ht2:(tabs++[9]).length+d <= 24:=by simp;omega
  have h2:=iht (tabs++[9]) ht2
  have h3:=ihf (tabs++[9]) ht2
  have h9:(aT e).length+(aQ t).length+(if f.length=0 then 0 else (aQ f).length+3)+3 <= (cE (.mk 7 aK e .zero [] t f)).length:=by
   rw [cE]
   by_cases hz:f.length=0
   ·simp [hz];omega
   simp [hz];omega
  rw [aC,aQ,length_append,length_append,bY,if_neg (by decide),if_neg (by decide),if_neg (by decide),if_neg (by decide),if_neg (by decide),if_neg (by decide),if_pos (by decide),if_neg (by decide)]
  by_cases hz:f.length=0
  ·rw [if_pos hz] at h9⊢
   simp only [length_append,length_cons,length_nil];omega
  ·rw [if_neg hz] at h9⊢
   simp only [length_append,length_cons,length_nil];omega
 |@loop d e t r he htt h iht ih=>
  intro tabs ht
  have h0:=ih tabs ht
  have h1:=he.1.len9
  have ht2:(tabs++[9]).length+d <= 24:=by simp;omega
  have h2:=iht (tabs++[9]) ht2
  rw [aC,aQ,length_append,length_append,show (cE (.mk 8 aK e .zero [] t [])).length=(aT e).length+(aQ t).length+3 by rw [cE];simp;omega,bY,if_neg (by decide),if_neg (by decide),if_neg (by decide),if_neg (by decide),if_neg (by decide),if_neg (by decide),if_pos (by decide),if_pos (by decide),if_pos length_nil]
  simp only [length_append,length_cons,length_nil];omega
 |@ret d r h ih=>
  intro tabs ht
  have h0:=ih tabs ht
  rw [aC,aQ,length_append,length_append,show (cE (.mk 9 aK .zero .zero [] [] [])).length=2 by rw [cE];simp,bY,if_neg (by decide),if_neg (by decide),if_neg (by decide),if_neg (by decide),if_neg (by decide),if_neg (by decide),if_neg (by decide)]
  simp only [length_append,length_cons,length_nil];omega
theorem bY6(n:Int)(h:n.natAbs <= 9223372036854775807):(eH n).length <= 20:=by
 have:=bY2 n.natAbs h
 unfold eH
 split
 ·rw [length_cons];omega
 omega
theorem VG.len9{g:aI}(h:VG g):(aU g).length <= 60*(bEr g).length:=by
 have h1:=bXq h.1
 have h2:=bY6 g.init h.2
 have h3:3 <= (bEr g).length:=by unfold bEr;simp
 have h4:(aU g).length <= 50:=by
  unfold aU
  split
  ·simp only [length_append,length_cons,length_nil];omega
  simp only [length_append,length_cons,length_nil];omega
 omega
theorem VM.len9{g:cL}(h:VM g):(bE g).length <= 60*(gT g).length:=by
 have h1:=bXq h.1
 have h2:=bY6 g.size (by have:=h.2.1;have:=h.2.2.1;omega)
 have h3:3 <= (gT g).length:=by unfold gT;simp
 have h4:(bE g).length <= 60:=by
  unfold bE
  split<;>split<;>(simp only [length_append,length_cons,length_nil];omega)
 omega
theorem VF.len9{g:bS}(h:VF g):(funcText g).length <= 60*(kA g).length:=by
 have h1:=bXq h.1
 have h2:=h.2.2.2.len9 [9] (by decide)
 have h3:=bX8 (fT:=bX) (fK:=lQ) g.params fun x hx=>by
  have:=bXq (h.2.2.1 x hx)
  unfold bX lQ
  split<;>(simp only [length_append,length_cons,length_nil];omega)
 rw [bYl]
 unfold funcText
 simp only [length_append,length_cons,length_nil];omega
theorem bX3{α:Type}{fT:α -> List UInt8}{fK:α -> List PT}:∀(l:List α),(∀x,x∈l -> (fT x).length <= 60*(fK x).length) -> (l.map fT).flatten.length <= 60*(l.map fK).flatten.length
 |[],_=>by simp
 |x::l,h=>by
  have h1:=bX3 l fun y hy=>h y (List.mem_cons_of_mem _ hy)
  have h2:=h x (by simp)
  simp only [List.map_cons,List.flatten_cons,length_append];omega
theorem bX7.len{p:cK}{n:Nat}(h:bX7 p n):(cR p).length <= 60*n:=by
 have h1:=bX3 p.globals fun x hx=>(h.gl x hx).len9
 have h2:=bX3 p.mutexes fun x hx=>(h.ml x hx).len9
 have h3:=bX3 p.funcs fun x hx=>(h.fl x hx).len9
 have h4:=h.sum
 unfold cR
 simp only [length_append];omega
theorem bX7.toks{p:cK}{n:Nat}(h:bX7 p n):((iA p).map fF.toks).flatten.length <= n:=by
 have h4:=h.sum
 simp only [iA,List.map_append,List.map_map,List.flatten_append,length_append]
 have e1:fF.toks ∘ fF.glob=bEr:=rfl
 have e2:fF.toks ∘ fF.mtx=gT:=rfl
 have e3:fF.toks ∘ fF.fn=kA:=rfl
 rw [e1,e2,e3];omega
theorem bY5{s:List UInt8}{L:List Tok}{p:cK}{k:Nat}(h:iH s=.ok L)(hp:fH L=.ok p k):p.sane /\ p.small 1000000000 /\ p.wt <= 16000 /\ jI p=true /\ vI p=cR p /\ (cR p).length <= 262144 /\ ∃U,iH (cR p)=.ok U /\ U.length <= L.length:=by
 have hT:=wD h
 have hO:=TOk.of h
 have hN:=bO7 h
 have hG:∀k,GT (bU L k):=fun k=>by
  rcases Nat.lt_or_ge k L.length with hk|hk
  ·rw [bG hk]
   exact ⟨hN _ (getElem_mem hk),(hO.reg _ (getElem_mem hk)).2.2⟩
  have h9:bU L k=default:=by unfold bU;rw [List.getD_eq_getElem?_getD,List.getElem?_eq_none hk];rfl
  rw [h9]
  exact ⟨fun h=>absurd h (by decide),by decide⟩
 have hat:(fH L).At L 0:=aD9 hO.last _ _ _ hO.last.1
 rw [hp] at hat
 have hkL:k<L.length:=hat.2
 have hI:bX7 p k:=by
  unfold fH at hp
  exact bYu hG _ _ _ _ _ ⟨fun g hg=>(by cases hg),fun g hg=>(by cases hg),fun g hg=>(by cases hg),by decide,by decide,by decide,by decide⟩ hp
 have hfew:=hT.few
 have hlen:=hI.len
 have htk:=hI.toks
 have hv:jI p=true:=aPf hI.sane hI.form (by omega) (by omega)
 obtain ⟨U,k2,q1,q2,-⟩:=aFx hI.sane hv
 refine ⟨hI.sane,bZm hI.form (by have:=hI.wt;omega),by have:=hI.wt;omega,hv,by unfold vI;rw [if_pos hv],by omega,U,q1,?_⟩
 have:=congrArg List.length q2
 rw [List.length_map,length_append,List.length_singleton] at this
 omega
theorem bY4{l:List UInt8}{e:Nat}(h:dQ l=.err e):e≠0:=by
 unfold dQ at h
 split at h
 ·split at h
  ·cases h;decide
  cases h
 split at h
 ·split at h
  ·cases h;decide
  cases h
 split at h
 ·cases h;decide
 cases h
theorem bYp:∀(m:Nat)(s:List UInt8)(k n:Nat),s.length-k <= m -> k <= s.length -> ∀p e,kD s k n=.err p e -> e≠0
 |m,s,k,n,hm,hk,p,e,h=>by
  by_cases he:s.length <= bF s k
  ·rw [mX he] at h;cases h
  have hlt:bF s k<s.length:=by omega
  cases hx:dQ (s.drop (bF s k)) with
  |err e=>rw [uY hlt hx] at h;cases h;exact bY4 hx
  |tok kind len num=>
   by_cases h4:n=4000
   ·subst h4;rw [sG hlt hx] at h;cases h;decide
   rw [nD hk hlt hx h4] at h
   have hg:=lG s k hk
   have hd:s.drop (bF s k)≠[]:=by intro hd;have:=congrArg List.length hd;rw [List.length_drop] at this;simp at this;omega
   have hl:=mS hd hx
   rw [List.length_drop] at hl
   cases m with
   |zero=>omega
   |succ m=>
    cases hq:kD s (bF s k+len) (n+1) with
    |ok L=>rw [hq] at h;cases h
    |err p' e'=>
     rw [hq] at h
     cases h
     exact bYp m s (bF s k+len) (n+1) (by omega) (by omega) _ _ hq
theorem bY7{s:List UInt8}(h:(jM s).2.2=0):∃L p k,iH s=.ok L /\ fH L=.ok p k /\ jM s=(p,s.length,0):=by
 cases hl:iH s with
 |err p e=>
  rw [aA9 hl] at h
  unfold iH at hl
  split at hl
  ·cases hl;cases h
  ·exact absurd h (bYp s.length s 0 0 (by omega) (by omega) _ _ hl)
 |ok L=>
  have hO:=TOk.of hl
  have hat:(fH L).At L 0:=aD9 hO.last _ _ _ hO.last.1
  cases hp:fH L with
  |ok p k=>exact ⟨L,p,k,rfl,hp,pT hl hp⟩
  |err k e=>
   rw [hp] at hat
   have hb:k<L.length:=hat.2.1
   rw [aBe hl hp hb] at h
   have:=hat.2.2.1
   dsimp only at h
   omega
end
section
open Go.RowKit
abbrev ESt(A B:List Box)(rw:List bA)(P:Nat)(l:List Tok)(k d e:Nat):Sto:=⟨A++⟨P,267,[.sl l.length (l.flatMap aW),.val (.int .i64 (k:Int)),.val (.int .i64 (d:Int)),.val (.int .i64 (e:Int))]⟩::B,rw⟩
def EAn(A B:List Box)(rw:List bA)(P:Nat)(l:List Tok)(d k0:Nat)(r:bN aH)(t:AT)(s:Sto):Prop:=
 ∃x k1 d1 e1,t=.agg (cU x) /\ Run 0 k0 r x k1 e1 /\ k1<l.length /\ e1<16 /\ (e1=0 -> d1=d) /\ d <= d1 /\ d1 <= 24 /\ s=ESt A B rw P l k1 d1 e1
theorem aG4(op:Int)(r:bN aH):aKc op r=r.bind fun x k=>.ok (.mk op 0 aK [x]) k:=by cases r<;>rfl
theorem aI9{F:FuncId}{args:List Value}{s:Sto}{t:AT}{v:Value}(ht:∀w,dO w t v)(h:∀w,Calls prog F args.toArray w fun e w'=>e=.returned v /\ w=w'):aL prog F (args.map fun a=>.c (.val a)) [] s fun r s'=>r=t /\ s'=s:=by
 intro vs w hm _ hl hr
 have:vs=args:=by
  refine List.ext_getElem (by simpa using hl) fun i h1 h2=>?_
  have h3:=hr i (by simpa using h2) h1
  generalize hx:(args.map fun a=>AT.c (.val a))[i]'(by simpa using h2)=x at h3
  rw [List.getElem_map] at hx
  subst hx
  generalize vs[i]=u at h3
  cases h3 with|c _ _ h=>cases h;rfl
 subst this
 exact (h w).mono fun e w' ⟨h1,h2⟩=>by subst h2;exact ⟨t,v,s,h1,⟨rfl,rfl⟩,ht _,hm,cW.refl _ _,fun b hb=>.inl hb⟩
theorem aId(x:ByteArray)(s:Sto):aL prog 235 [.c (.val (.string x))] [] s fun r s'=>r=.tup [.c (.val (.int .i64 ((binOp x).1:Int))),.c (.val (.int .i64 ((binOp x).2:Int)))] /\ s'=s:=
 aI9 (args:=[.string x]) (fun w=>.tup _ [_,_] rfl fun i h h'=>by
  match i,h,h' with
  |0,_,_=>exact .c _ _ (.val _ rfl)
  |1,_,_=>exact .c _ _ (.val _ rfl)) fun w=>aDq x w
theorem aR3(A B:List Box)(rw:List bA)(P:Nat)(l:List Tok)(k d e:Nat)(sg:ByteArray)(hk:k<l.length)(h4:l[k].kind=4)(ht:l[k].text=sg):aL prog 241 [pP P,.c (.val (.string sg))] [P] (ESt A B rw P l k d e) fun t s=>t=.c (.val (.bool true)) /\ s=ESt A B rw P l k d e:=by
 refine acB func241 rfl ?_
 show AWp prog _ ⟨32,[P],⟨A++⟨P,267,[.sl l.length (l.flatMap aW),nC k,nC d,nC e]⟩::B,rw⟩,[(0,pP P),(1,.c (.val (.string sg)))]⟩ _
 refine go 6 ?_
 refine dx [P] (tz [(0,true),(1,true),(2,true),(3,true),(4,true),(5,true),(6,true),(7,true)] 20 (go 9 ?_))
 refine tx 8 rfl (bH aW aW l bJ (fun _=>rfl) (k) rfl rfl rfl rfl hk (by decide) runUnderlying36 sizeOf66) (tz [(9,true),(10,true)] 17 (go 3 ?_))
 refine tx 11 rfl (bO true rfl rfl rfl (by rw [h4];rfl)) (tz [(12,true),(13,true),(14,true),(15,true),(16,true),(17,true),(18,true),(19,true),(20,true)] 7 (go 10 ?_))
 refine tx 21 rfl (bH aW aW l bJ (fun _=>rfl) (k) rfl rfl rfl rfl hk (by decide) runUnderlying36 sizeOf66) (tz [(22,true),(23,true),(24,true)] 3 (go 4 ?_))
 refine tx 25 rfl (aZ true rfl rfl rfl (by rw [ht];simp [oM])) (tz [(26,true),(27,true)] 0 (go 3 ?_))
 refine ax (go 2 ?_)
 exact bHe (s':=(ESt A B rw P l (k) (d) (e))) rfl sb0 ⟨rfl,rfl⟩
theorem aSo(A B:List Box)(rw:List bA)(P:Nat)(l:List Tok)(k d e:Nat)(sg:ByteArray)(hk:k<l.length)(h4:l[k].kind=4)(ht:¬l[k].text=sg):aL prog 241 [pP P,.c (.val (.string sg))] [P] (ESt A B rw P l k d e) fun t s=>t=.c (.val (.bool false)) /\ s=ESt A B rw P l k d e:=by
 refine acB func241 rfl ?_
 show AWp prog _ ⟨32,[P],⟨A++⟨P,267,[.sl l.length (l.flatMap aW),nC k,nC d,nC e]⟩::B,rw⟩,[(0,pP P),(1,.c (.val (.string sg)))]⟩ _
 refine go 6 ?_
 refine dx [P] (tz [(0,true),(1,true),(2,true),(3,true),(4,true),(5,true),(6,true),(7,true)] 20 (go 9 ?_))
 refine tx 8 rfl (bH aW aW l bJ (fun _=>rfl) (k) rfl rfl rfl rfl hk (by decide) runUnderlying36 sizeOf66) (tz [(9,true),(10,true)] 17 (go 3 ?_))
 refine tx 11 rfl (bO true rfl rfl rfl (by rw [h4];rfl)) (tz [(12,true),(13,true),(14,true),(15,true),(16,true),(17,true),(18,true),(19,true),(20,true)] 7 (go 10 ?_))
 refine tx 21 rfl (bH aW aW l bJ (fun _=>rfl) (k) rfl rfl rfl rfl hk (by decide) runUnderlying36 sizeOf66) (tz [(22,true),(23,true),(24,true)] 3 (go 4 ?_))
 refine tx 25 rfl (aZ false rfl rfl rfl (by simp [oM,ht])) (tz [(26,true),(27,true)] 0 (go 3 ?_))
 refine ax (go 2 ?_)
 exact bHe (s':=(ESt A B rw P l (k) (d) (e))) rfl sb0 ⟨rfl,rfl⟩
theorem aTo(A B:List Box)(rw:List bA)(P:Nat)(l:List Tok)(k d e:Nat)(sg:ByteArray)(hk:k<l.length)(h4:¬l[k].kind=4):aL prog 241 [pP P,.c (.val (.string sg))] [P] (ESt A B rw P l k d e) fun t s=>t=.c (.val (.bool false)) /\ s=ESt A B rw P l k d e:=by
 refine acB func241 rfl ?_
 show AWp prog _ ⟨32,[P],⟨A++⟨P,267,[.sl l.length (l.flatMap aW),nC k,nC d,nC e]⟩::B,rw⟩,[(0,pP P),(1,.c (.val (.string sg)))]⟩ _
 refine go 6 ?_
 refine dx [P] (tz [(0,true),(1,true),(2,true),(3,true),(4,true),(5,true),(6,true),(7,true)] 20 (go 9 ?_))
 refine tx 8 rfl (bH aW aW l bJ (fun _=>rfl) (k) rfl rfl rfl rfl hk (by decide) runUnderlying36 sizeOf66) (tz [(9,true),(10,true)] 17 (go 3 ?_))
 refine tx 11 rfl (bO false rfl rfl rfl (by rw [show bC .eql ((l[k].kind:Nat):Int) 4=some (decide (l[k].kind=4)) from jS (n:=4),decide_eq_false h4])) (tz [(12,true),(13,true),(14,true),(15,true),(16,true),(17,true),(18,true),(19,true),(20,true),(21,true),(22,true),(23,true),(24,true),(25,true),(26,true),(27,true)] 0 (go 17 ?_))
 refine ax (go 2 ?_)
 exact bHe (s':=(ESt A B rw P l (k) (d) (e))) rfl sb0 ⟨rfl,rfl⟩
theorem zV(A B:List Box)(rw:List bA)(P:Nat)(l:List Tok)(k d e:Nat)(sg:List UInt8)(hk:k<l.length):aL prog 241 [pP P,.c (.val (.string (bytes sg)))] [P] (ESt A B rw P l k d e) fun t s=>(cS l k sg=true /\ t=.c (.val (.bool true)) /\ s=ESt A B rw P l k d e)∨(cS l k sg=false /\ t=.c (.val (.bool false)) /\ s=ESt A B rw P l k d e):=by
 unfold cS
 rw [bG hk]
 by_cases h4:l[k].kind=4
 ·by_cases ht:l[k].text=bytes sg
  ·exact (aR3 A B rw P l k d e _ hk h4 ht).mono fun t s h=>.inl ⟨by simp [h4,ht],h⟩
  exact (aSo A B rw P l k d e _ hk h4 ht).mono fun t s h=>.inr ⟨by simp [ht],h⟩
 exact (aTo A B rw P l k d e _ hk h4).mono fun t s h=>.inr ⟨by simp [h4],h⟩
theorem aDg(A B:List Box)(rw:List bA)(P:Nat)(l:List Tok)(k d e x:Nat):aL prog 244 [pP P,.c (.val (.int .i64 (x:Int)))] [P] (ESt A B rw P l k d e) fun t s=>t=.agg (cU .zero) /\ s=ESt A B rw P l k d x:=by
 refine acB func244 rfl ?_
 show AWp prog _ ⟨10,[P],⟨A++⟨P,267,[.sl l.length (l.flatMap aW),nC k,nC d,nC e]⟩::B,rw⟩,[(0,pP P),(1,.c (.val (.int .i64 (x:Int))))]⟩ _
 refine go 21 fun b1=>?_
 exact ⟨.inr rfl,_,(ESt A B rw P l (k) (d) (x)),(eK (Wk.agg (.r (.r (.r (.n .nil))))) (aR rfl (aO [] rfl rfl isAgg73 sizeOf73 (bK rfl rfl)))),aA (.cons _ (.refl _)) (.refl _),rfl,rfl⟩
theorem aA8(A B:List Box)(rw:List bA)(P:Nat)(l:List Tok)(k:Nat):aL prog 245 [pP P] [P] (ESt A B rw P l k 24 0) fun t s=>t=.c (.val (.bool false)) /\ s=ESt A B rw P l k 24 3:=by
 refine acB func245 rfl ?_
 show AWp prog _ ⟨25,[P],⟨A++⟨P,267,[.sl l.length (l.flatMap aW),nC k,nC 24,nC 0]⟩::B,rw⟩,[(0,pP P)]⟩ _
 refine go 12 ?_
 refine wcp true rfl (by rfl) (go 18 ?_)
 exact bHe (s':=(ESt A B rw P l (k) (24) (3))) rfl sb0 ⟨rfl,rfl⟩
theorem aBn(A B:List Box)(rw:List bA)(P:Nat)(l:List Tok)(k d:Nat)(hd:d<24)(hk9:k<1000000):aL prog 245 [pP P] [P] (ESt A B rw P l k d 0) fun t s=>t=.c (.val (.bool true)) /\ s=ESt A B rw P l (k+1) (d+1) 0:=by
 refine acB func245 rfl ?_
 show AWp prog _ ⟨25,[P],⟨A++⟨P,267,[.sl l.length (l.flatMap aW),nC k,nC d,nC 0]⟩::B,rw⟩,[(0,pP P)]⟩ _
 refine go 12 ?_
 refine wcp false rfl (by rw [show bC .eql ((d:Nat):Int) 24=some (decide (d=24)) from jS (n:=24),decide_eq_false (by omega)]) (go 11 ?_)
 refine wad rfl (go 11 ?_)
 refine wad rfl (go 11 ?_)
 exact bHe (s':=(ESt A B rw P l (k+1) (d+1) (0))) rfl sb0 ⟨rfl,rfl⟩
theorem xQ(A B:List Box)(rw:List bA)(P:Nat)(l:List Tok)(k:Nat)(op:Int)(hok:TOk l)(hk:k<l.length):aL prog 242 [pP P,.c (.val (.int .i64 op))] [P] (ESt A B rw P l k 24 0) (EAn A B rw P l 24 k (.err k 3)):=by
 have hlen:=hok.len
 refine acB func242 rfl ?_
 show AWp prog _ ⟨23,[P],⟨A++⟨P,267,[.sl l.length (l.flatMap aW),nC k,nC 24,nC 0]⟩::B,rw⟩,[(0,pP P),(1,.c (.val (.int .i64 op)))]⟩ _
 refine go 9 fun b1=>?_
 refine wcQ rfl call245 rfl (aA8 (_::A) _ _ _ l k) ?_
 rintro t1 s1 ⟨rfl,rfl⟩
 refine go 12 ?_
 exact ⟨.inr rfl,_,(ESt A B rw P l (k) (24) (3)),(eK (Wk.agg (.r (.r (.r (.n .nil))))) (aR rfl (aO [] rfl rfl isAgg73 sizeOf73 (bK rfl rfl)))),aA (.cons _ (.refl _)) (.refl _),⟨.zero,k,24,3,rfl,.err _ _ _ _ rfl (by decide),hk,by decide,(fun h=>nomatch h),Nat.le_refl _,Nat.le_refl _,rfl⟩⟩
theorem tV(l:List Tok)(r:bN aH):aHo l r=r.bind fun x k=>if cS l k [41] then .ok x (k+1) else .err k 4:=by cases r<;>rfl
theorem aE6(A B:List Box)(rw:List bA)(P:Nat)(l:List Tok)(k:Nat)(hok:TOk l)(hk:k<l.length):aL prog 243 [pP P] [P] (ESt A B rw P l k 24 0) (EAn A B rw P l 24 k (.err k 3)):=by
 have hlen:=hok.len
 refine acB func243 rfl ?_
 show AWp prog _ ⟨36,[P],⟨A++⟨P,267,[.sl l.length (l.flatMap aW),nC k,nC 24,nC 0]⟩::B,rw⟩,[(0,pP P)]⟩ _
 refine go 9 fun b1=>?_
 refine wcQ rfl call245 rfl (aA8 (_::A) _ _ _ l k) ?_
 rintro t1 s1 ⟨rfl,rfl⟩
 refine go 12 ?_
 exact ⟨.inr rfl,_,(ESt A B rw P l (k) (24) (3)),(eK (Wk.agg (.r (.r (.r (.n .nil))))) (aR rfl (aO [] rfl rfl isAgg73 sizeOf73 (bK rfl rfl)))),aA (.cons _ (.refl _)) (.refl _),⟨.zero,k,24,3,rfl,.err _ _ _ _ rfl (by decide),hk,by decide,(fun h=>nomatch h),Nat.le_refl _,Nat.le_refl _,rfl⟩⟩
theorem wW(A B:List Box)(rw:List bA)(P:Nat)(l:List Tok)(k d j:Nat)(op:Int)(hok:TOk l)(hk:k<l.length)(hm:k+1<l.length)(hd:d<24)(ih:∀(A B:List Box)(rw:List bA)(P:Nat)(k:Nat),k<l.length -> aL prog 239 [pP P] [P] (ESt A B rw P l k (d+1) 0) (EAn A B rw P l (d+1) k (bL l j k))):aL prog 242 [pP P,.c (.val (.int .i64 op))] [P] (ESt A B rw P l k d 0) (EAn A B rw P l d k (aKc op (bL l j (k+1)))):=by
 have hlen:=hok.len
 refine acB func242 rfl ?_
 show AWp prog _ ⟨23,[P],⟨A++⟨P,267,[.sl l.length (l.flatMap aW),nC k,nC d,nC 0]⟩::B,rw⟩,[(0,pP P),(1,.c (.val (.int .i64 op)))]⟩ _
 refine go 9 fun b1=>?_
 refine wcQ rfl call245 rfl (aBn (_::A) _ _ _ l k d (by omega) (by omega)) ?_
 rintro t1 s1 ⟨rfl,rfl⟩
 refine go 9 ?_
 refine wcQ rfl call239 rfl (ih (_::A) _ _ _ (k+1) hm) ?_
 rintro t3 s3 ⟨x3,k3,d3,e3,rfl,hr3,hk3,he3,hd3,hl3,hu3,rfl⟩
 refine go 10 fun b2=>?_
 refine wyz rfl (cI ((d3-1:Nat):Int) rfl rfl rfl (by omega) (by omega) (by omega)) (go 9 ?_)
 refine wo rfl (bDk bDs rfl (.cons rfl .nil) (aV fO cU x3 (fP _) rfl rfl) ?_)
 refine go 5 ?_
 exact ⟨.inr rfl,_,(ESt A B rw P l (k3) (d3-1) (e3)),(aR rfl (aO [_] rfl rfl isAgg73 sizeOf73 (bK rfl rfl))),aA (.cons _ (.cons _ (.refl _))) (.refl _),⟨.mk op 0 aK [x3],k3,d3-1,e3,rfl,by rw [aG4];exact (Run.from hr3).map (f:=fun x=>aH.mk op 0 aK [x]),hk3,he3,fun h=>by have:=hd3 h;omega,by omega,by omega,rfl⟩⟩
theorem aFj(A B:List Box)(rw:List bA)(P:Nat)(l:List Tok)(k d j:Nat)(hok:TOk l)(hk:k<l.length)(hm:k+1<l.length)(hd:d<24)(ihb:∀(A B:List Box)(rw:List bA)(P:Nat)(k:Nat),k<l.length -> aL prog 234 [pP P,.c (.val (.int .i64 1))] [P] (ESt A B rw P l k (d+1) 0) (EAn A B rw P l (d+1) k (gS l (bL l j) 5 k))):aL prog 243 [pP P] [P] (ESt A B rw P l k d 0) (EAn A B rw P l d k (aHo l (gS l (bL l j) 5 (k+1)))):=by
 have hlen:=hok.len
 refine acB func243 rfl ?_
 show AWp prog _ ⟨36,[P],⟨A++⟨P,267,[.sl l.length (l.flatMap aW),nC k,nC d,nC 0]⟩::B,rw⟩,[(0,pP P)]⟩ _
 refine go 9 fun b1=>?_
 refine wcQ rfl call245 rfl (aBn (_::A) _ _ _ l k d (by omega) (by omega)) ?_
 rintro t1 s1 ⟨rfl,rfl⟩
 refine go 9 ?_
 refine wcQ rfl call234 rfl (ihb (_::A) _ _ _ (k+1) hm) ?_
 rintro t3 s3 ⟨x3,k3,d3,e3,rfl,hr3,hk3,he3,hd3,hl3,hu3,rfl⟩
 refine go 7 fun b2=>?_
 by_cases her:e3=0
 ·refine go 4 ?_
  refine wcp false rfl (by rw [her];rfl) (go 9 ?_)
  refine wcQ rfl call241 rfl (zV (_::_::A) _ _ _ l k3 d3 e3 [41] hk3) ?_
  rintro t5 s5 (⟨ha5,rfl,rfl⟩|⟨ha5,rfl,rfl⟩)
  ·refine go 8 ?_
   have hm2:=eF hok.last hk3 ha5
   refine go 4 ?_
   refine wad rfl (go 11 ?_)
   refine wyz rfl (cI ((d3-1:Nat):Int) rfl rfl rfl (by omega) (by omega) (by omega)) (go 12 ?_)
   exact ⟨.inr rfl,_,(ESt A B rw P l (k3+1) (d3-1) (e3)),(aR rfl (aO [_] rfl rfl isAgg73 sizeOf73 (bK rfl rfl))),aA (.cons _ (.cons _ (.refl _))) (.refl _),⟨x3,k3+1,d3-1,e3,rfl,by rw [tV];exact (Run.from hr3).bind (by rw [her,if_pos ha5];exact .ok _ _ _ rfl),hm2,he3,fun h=>by have:=hd3 h;omega,by omega,by omega,rfl⟩⟩
  refine go 7 ?_
  refine wcQ rfl call244 rfl (aDg (_::_::A) _ _ _ l k3 d3 e3 4) ?_
  rintro t8 s8 ⟨rfl,rfl⟩
  refine go 5 ?_
  exact ⟨.inr rfl,_,(ESt A B rw P l (k3) (d3) (4)),(aR rfl (aO [_] rfl rfl isAgg73 sizeOf73 (bK rfl rfl))),aA (.cons _ (.cons _ (.refl _))) (.refl _),⟨.zero,k3,d3,4,rfl,by rw [tV];exact (Run.from hr3).bind (by rw [her,if_neg (by rw [ha5];decide)];exact .err _ _ _ _ rfl (by decide)),hk3,by decide,(fun h=>nomatch h),by omega,by omega,rfl⟩⟩
 refine go 4 ?_
 refine wcp true rfl (by simp [bC,her]) (go 11 ?_)
 exact ⟨.inr rfl,_,(ESt A B rw P l (k3) (d3) (e3)),(aR rfl (aO [_] rfl rfl isAgg73 sizeOf73 (bK rfl rfl))),aA (.cons _ (.cons _ (.refl _))) (.refl _),⟨x3,k3,d3,e3,rfl,by rw [tV];exact (Run.from hr3).bind (.skip her _ _),hk3,he3,fun h=>absurd h her,by omega,by omega,rfl⟩⟩
theorem aJs(A B:List Box)(rw:List bA)(P:Nat)(l:List Tok)(k:Nat)(hok:TOk l)(hk:k<l.length):aL prog 239 [pP P] [P] (ESt A B rw P l k 24 0) (EAn A B rw P l 24 k (bL l 0 k)):=by
 have hlen:=hok.len
 refine acB func239 rfl ?_
 show AWp prog _ ⟨59,[P],⟨A++⟨P,267,[.sl l.length (l.flatMap aW),nC k,nC 24,nC 0]⟩::B,rw⟩,[(0,pP P)]⟩ _
 refine go 6 fun b1=>?_
 refine dx [b1,P] (tz [(0,true),(1,true),(2,true),(3,true),(4,true),(5,true),(6,true),(7,true)] 4 (go 9 ?_))
 refine tx 8 rfl (bH aW aW l bJ (fun _=>rfl) (k) rfl rfl rfl rfl hk (by decide) runUnderlying36 sizeOf66) (tz [(9,true),(10,false),(11,false)] 0 (go 4 fun b2=>?_))
 refine ax (go 5 ?_)
 rcases (show l[k].kind=2∨(¬l[k].kind=2 /\ l[k].kind=1)∨(¬l[k].kind=2 /\ ¬l[k].kind=1) by omega) with h2|⟨h2,h1⟩|⟨h2,h1⟩
 ·have hm:=hok.last.more hk (by rw [bG hk,h2];decide)
  refine go 2 ?_
  refine wcp true rfl (by rw [h2];rfl) (go 10 ?_)
  refine wad rfl (go 16 ?_)
  exact ⟨.inr rfl,_,(ESt A B rw P l (k+1) (24) (0)),(eK (Wk.agg (.r (.r (.r (.n .nil))))) (aR rfl (aO [_] rfl rfl isAgg73 sizeOf73 (bK rfl rfl)))),aA (.cons _ (.cons _ (.refl _))) (.refl _),⟨.mk 1 (l[k].num:Int) aK [],k+1,24,0,rfl,.ok _ _ _ (by unfold bL;rw [bG hk,if_pos h2]),hm,by decide,fun _=>rfl,Nat.le_refl _,by omega,rfl⟩⟩
 ·have hm:=hok.last.more hk (by rw [bG hk,h1];decide)
  refine go 2 ?_
  refine wcp false rfl (by rw [show bC .eql ((l[k].kind:Nat):Int) 2=some (decide (l[k].kind=2)) from jS (n:=2),decide_eq_false h2]) (go 8 ?_)
  refine wcp true rfl (by rw [h1];rfl) (go 10 ?_)
  refine wad rfl (go 16 ?_)
  exact ⟨.inr rfl,_,(ESt A B rw P l (k+1) (24) (0)),(eK (Wk.agg (.r (.r (.r (.n .nil))))) (aR rfl (aO [_] rfl rfl isAgg73 sizeOf73 (bK rfl rfl)))),aA (.cons _ (.cons _ (.refl _))) (.refl _),⟨.mk 2 0 l[k].text [],k+1,24,0,rfl,.ok _ _ _ (by unfold bL;rw [bG hk,if_neg h2,if_pos h1]),hm,by decide,fun _=>rfl,Nat.le_refl _,by omega,rfl⟩⟩
 refine go 2 ?_
 refine wcp false rfl (by rw [show bC .eql ((l[k].kind:Nat):Int) 2=some (decide (l[k].kind=2)) from jS (n:=2),decide_eq_false h2]) (go 8 ?_)
 refine wcp false rfl (by rw [show bC .eql ((l[k].kind:Nat):Int) 1=some (decide (l[k].kind=1)) from jS (n:=1),decide_eq_false h1]) (go 7 ?_)
 refine wcQ rfl call241 rfl (zV (_::_::A) _ _ _ l k 24 0 [45] hk) ?_
 rintro t6 s6 (⟨ha6,rfl,rfl⟩|⟨ha6,rfl,rfl⟩)
 ·refine go 7 ?_
  have hm:=eF hok.last hk ha6
  refine wcQ rfl call242 rfl (xQ (_::_::A) _ _ _ l k 3 hok hk) ?_
  rintro t8 s8 ⟨x8,k8,d8,e8,rfl,hr8,hk8,he8,hd8,hl8,hu8,rfl⟩
  refine go 6 ?_
  exact ⟨.inr rfl,_,(ESt A B rw P l (k8) (d8) (e8)),(aR rfl (aO [_] rfl rfl isAgg73 sizeOf73 (bK rfl rfl))),aA (.cons _ (.cons _ (.refl _))) (.refl _),⟨x8,k8,d8,e8,rfl,hr8.eq fun _=>by unfold bL;rw [if_neg (by rw [bG hk];exact h2),if_neg (by rw [bG hk];exact h1)];rw [if_pos (by simp [ha6])],hk8,he8,hd8,hl8,hu8,rfl⟩⟩
 refine go 7 ?_
 refine wcQ rfl call241 rfl (zV (_::_::A) _ _ _ l k 24 0 [33] hk) ?_
 rintro t10 s10 (⟨ha10,rfl,rfl⟩|⟨ha10,rfl,rfl⟩)
 ·refine go 7 ?_
  have hm:=eF hok.last hk ha10
  refine wcQ rfl call242 rfl (xQ (_::_::A) _ _ _ l k 4 hok hk) ?_
  rintro t12 s12 ⟨x12,k12,d12,e12,rfl,hr12,hk12,he12,hd12,hl12,hu12,rfl⟩
  refine go 6 ?_
  exact ⟨.inr rfl,_,(ESt A B rw P l (k12) (d12) (e12)),(aR rfl (aO [_] rfl rfl isAgg73 sizeOf73 (bK rfl rfl))),aA (.cons _ (.cons _ (.refl _))) (.refl _),⟨x12,k12,d12,e12,rfl,hr12.eq fun _=>by unfold bL;rw [if_neg (by rw [bG hk];exact h2),if_neg (by rw [bG hk];exact h1)];rw [if_pos (by simp [ha10])],hk12,he12,hd12,hl12,hu12,rfl⟩⟩
 refine go 7 ?_
 refine wcQ rfl call241 rfl (zV (_::_::A) _ _ _ l k 24 0 [40] hk) ?_
 rintro t14 s14 (⟨ha14,rfl,rfl⟩|⟨ha14,rfl,rfl⟩)
 ·refine go 7 ?_
  have hm:=eF hok.last hk ha14
  refine wcQ rfl call243 rfl (aE6 (_::_::A) _ _ _ l k hok hk) ?_
  rintro t16 s16 ⟨x16,k16,d16,e16,rfl,hr16,hk16,he16,hd16,hl16,hu16,rfl⟩
  refine go 6 ?_
  exact ⟨.inr rfl,_,(ESt A B rw P l (k16) (d16) (e16)),(aR rfl (aO [_] rfl rfl isAgg73 sizeOf73 (bK rfl rfl))),aA (.cons _ (.cons _ (.refl _))) (.refl _),⟨x16,k16,d16,e16,rfl,hr16.eq fun _=>by unfold bL;rw [if_neg (by rw [bG hk];exact h2),if_neg (by rw [bG hk];exact h1)];rw [if_pos (by simp [ha14])],hk16,he16,hd16,hl16,hu16,rfl⟩⟩
 refine go 10 ?_
 refine wcQ rfl call244 rfl (aDg (_::_::A) _ _ _ l k 24 0 4) ?_
 rintro t18 s18 ⟨rfl,rfl⟩
 refine go 4 ?_
 exact ⟨.inr rfl,_,(ESt A B rw P l (k) (24) (4)),(aR rfl (aO [_] rfl rfl isAgg73 sizeOf73 (bK rfl rfl))),aA (.cons _ (.cons _ (.refl _))) (.refl _),⟨.zero,k,24,4,rfl,.err _ _ _ _ (by unfold bL;rw [if_neg (by rw [bG hk];exact h2),if_neg (by rw [bG hk];exact h1)];rw [ha6,ha10,ha14];rfl) (by decide),hk,by decide,(fun h=>nomatch h),Nat.le_refl _,by omega,rfl⟩⟩
theorem aJi(A B:List Box)(rw:List bA)(P:Nat)(l:List Tok)(k d j:Nat)(hok:TOk l)(hk:k<l.length)(hd:d<24)(ih:∀(A B:List Box)(rw:List bA)(P:Nat)(k:Nat),k<l.length -> aL prog 239 [pP P] [P] (ESt A B rw P l k (d+1) 0) (EAn A B rw P l (d+1) k (bL l j k)))(ihb:∀(A B:List Box)(rw:List bA)(P:Nat)(k:Nat),k<l.length -> aL prog 234 [pP P,.c (.val (.int .i64 1))] [P] (ESt A B rw P l k (d+1) 0) (EAn A B rw P l (d+1) k (gS l (bL l j) 5 k))):aL prog 239 [pP P] [P] (ESt A B rw P l k d 0) (EAn A B rw P l d k (bL l (j+1) k)):=by
 have hlen:=hok.len
 refine acB func239 rfl ?_
 show AWp prog _ ⟨59,[P],⟨A++⟨P,267,[.sl l.length (l.flatMap aW),nC k,nC d,nC 0]⟩::B,rw⟩,[(0,pP P)]⟩ _
 refine go 6 fun b1=>?_
 refine dx [b1,P] (tz [(0,true),(1,true),(2,true),(3,true),(4,true),(5,true),(6,true),(7,true)] 4 (go 9 ?_))
 refine tx 8 rfl (bH aW aW l bJ (fun _=>rfl) (k) rfl rfl rfl rfl hk (by decide) runUnderlying36 sizeOf66) (tz [(9,true),(10,false),(11,false)] 0 (go 4 fun b2=>?_))
 refine ax (go 5 ?_)
 rcases (show l[k].kind=2∨(¬l[k].kind=2 /\ l[k].kind=1)∨(¬l[k].kind=2 /\ ¬l[k].kind=1) by omega) with h2|⟨h2,h1⟩|⟨h2,h1⟩
 ·have hm:=hok.last.more hk (by rw [bG hk,h2];decide)
  refine go 2 ?_
  refine wcp true rfl (by rw [h2];rfl) (go 10 ?_)
  refine wad rfl (go 16 ?_)
  exact ⟨.inr rfl,_,(ESt A B rw P l (k+1) (d) (0)),(eK (Wk.agg (.r (.r (.r (.n .nil))))) (aR rfl (aO [_] rfl rfl isAgg73 sizeOf73 (bK rfl rfl)))),aA (.cons _ (.cons _ (.refl _))) (.refl _),⟨.mk 1 (l[k].num:Int) aK [],k+1,d,0,rfl,.ok _ _ _ (by rw [bL.eq_2];rw [bG hk,if_pos h2]),hm,by decide,fun _=>rfl,Nat.le_refl _,by omega,rfl⟩⟩
 ·have hm:=hok.last.more hk (by rw [bG hk,h1];decide)
  refine go 2 ?_
  refine wcp false rfl (by rw [show bC .eql ((l[k].kind:Nat):Int) 2=some (decide (l[k].kind=2)) from jS (n:=2),decide_eq_false h2]) (go 8 ?_)
  refine wcp true rfl (by rw [h1];rfl) (go 10 ?_)
  refine wad rfl (go 16 ?_)
  exact ⟨.inr rfl,_,(ESt A B rw P l (k+1) (d) (0)),(eK (Wk.agg (.r (.r (.r (.n .nil))))) (aR rfl (aO [_] rfl rfl isAgg73 sizeOf73 (bK rfl rfl)))),aA (.cons _ (.cons _ (.refl _))) (.refl _),⟨.mk 2 0 l[k].text [],k+1,d,0,rfl,.ok _ _ _ (by rw [bL.eq_2];rw [bG hk,if_neg h2,if_pos h1]),hm,by decide,fun _=>rfl,Nat.le_refl _,by omega,rfl⟩⟩
 refine go 2 ?_
 refine wcp false rfl (by rw [show bC .eql ((l[k].kind:Nat):Int) 2=some (decide (l[k].kind=2)) from jS (n:=2),decide_eq_false h2]) (go 8 ?_)
 refine wcp false rfl (by rw [show bC .eql ((l[k].kind:Nat):Int) 1=some (decide (l[k].kind=1)) from jS (n:=1),decide_eq_false h1]) (go 7 ?_)
 refine wcQ rfl call241 rfl (zV (_::_::A) _ _ _ l k d 0 [45] hk) ?_
 rintro t6 s6 (⟨ha6,rfl,rfl⟩|⟨ha6,rfl,rfl⟩)
 ·refine go 7 ?_
  have hm:=eF hok.last hk ha6
  refine wcQ rfl call242 rfl (wW (_::_::A) _ _ _ l k d j 3 hok hk hm (by omega) ih) ?_
  rintro t8 s8 ⟨x8,k8,d8,e8,rfl,hr8,hk8,he8,hd8,hl8,hu8,rfl⟩
  refine go 6 ?_
  exact ⟨.inr rfl,_,(ESt A B rw P l (k8) (d8) (e8)),(aR rfl (aO [_] rfl rfl isAgg73 sizeOf73 (bK rfl rfl))),aA (.cons _ (.cons _ (.refl _))) (.refl _),⟨x8,k8,d8,e8,rfl,hr8.eq fun _=>by rw [bL.eq_2];rw [if_neg (by rw [bG hk];exact h2),if_neg (by rw [bG hk];exact h1)];rw [if_pos ha6],hk8,he8,hd8,hl8,hu8,rfl⟩⟩
 refine go 7 ?_
 refine wcQ rfl call241 rfl (zV (_::_::A) _ _ _ l k d 0 [33] hk) ?_
 rintro t10 s10 (⟨ha10,rfl,rfl⟩|⟨ha10,rfl,rfl⟩)
 ·refine go 7 ?_
  have hm:=eF hok.last hk ha10
  refine wcQ rfl call242 rfl (wW (_::_::A) _ _ _ l k d j 4 hok hk hm (by omega) ih) ?_
  rintro t12 s12 ⟨x12,k12,d12,e12,rfl,hr12,hk12,he12,hd12,hl12,hu12,rfl⟩
  refine go 6 ?_
  exact ⟨.inr rfl,_,(ESt A B rw P l (k12) (d12) (e12)),(aR rfl (aO [_] rfl rfl isAgg73 sizeOf73 (bK rfl rfl))),aA (.cons _ (.cons _ (.refl _))) (.refl _),⟨x12,k12,d12,e12,rfl,hr12.eq fun _=>by rw [bL.eq_2];rw [if_neg (by rw [bG hk];exact h2),if_neg (by rw [bG hk];exact h1)];rw [if_neg (by rw [ha6];decide),if_pos ha10],hk12,he12,hd12,hl12,hu12,rfl⟩⟩
 refine go 7 ?_
 refine wcQ rfl call241 rfl (zV (_::_::A) _ _ _ l k d 0 [40] hk) ?_
 rintro t14 s14 (⟨ha14,rfl,rfl⟩|⟨ha14,rfl,rfl⟩)
 ·refine go 7 ?_
  have hm:=eF hok.last hk ha14
  refine wcQ rfl call243 rfl (aFj (_::_::A) _ _ _ l k d j hok hk hm (by omega) ihb) ?_
  rintro t16 s16 ⟨x16,k16,d16,e16,rfl,hr16,hk16,he16,hd16,hl16,hu16,rfl⟩
  refine go 6 ?_
  exact ⟨.inr rfl,_,(ESt A B rw P l (k16) (d16) (e16)),(aR rfl (aO [_] rfl rfl isAgg73 sizeOf73 (bK rfl rfl))),aA (.cons _ (.cons _ (.refl _))) (.refl _),⟨x16,k16,d16,e16,rfl,hr16.eq fun _=>by rw [bL.eq_2];rw [if_neg (by rw [bG hk];exact h2),if_neg (by rw [bG hk];exact h1)];rw [if_neg (by rw [ha6];decide),if_neg (by rw [ha10];decide),if_pos ha14],hk16,he16,hd16,hl16,hu16,rfl⟩⟩
 refine go 10 ?_
 refine wcQ rfl call244 rfl (aDg (_::_::A) _ _ _ l k d 0 4) ?_
 rintro t18 s18 ⟨rfl,rfl⟩
 refine go 4 ?_
 exact ⟨.inr rfl,_,(ESt A B rw P l (k) (d) (4)),(aR rfl (aO [_] rfl rfl isAgg73 sizeOf73 (bK rfl rfl))),aA (.cons _ (.cons _ (.refl _))) (.refl _),⟨.zero,k,d,4,rfl,.err _ _ _ _ (by rw [bL.eq_2];rw [if_neg (by rw [bG hk];exact h2),if_neg (by rw [bG hk];exact h1)];rw [if_neg (by rw [ha6];decide),if_neg (by rw [ha10];decide),if_neg (by rw [ha14];decide)]) (by decide),hk,by decide,(fun h=>nomatch h),Nat.le_refl _,by omega,rfl⟩⟩
end
end Go.Proofs.YtojinfngbbajgaaGreatDoor
