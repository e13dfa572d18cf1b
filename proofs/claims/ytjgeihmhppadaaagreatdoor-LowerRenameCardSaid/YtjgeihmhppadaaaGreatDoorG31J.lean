import Derived.Test.YtjgeihmhppadaaaGreatDoorG30J
set_option linter.all false
set_option synthInstance.maxHeartbeats 1000000
set_option synthInstance.maxSize 1000000
namespace Go.Proofs.YtjgeihmhppadaaaGreatDoor
open List (length_append length_cons length_nil mem_append mem_cons not_mem_nil append_assoc getElem_mem take_of_length_le)
section
theorem VE.sane9{e:aH}(h:VE e):e.sane:=by
 induction h with
 |num n h=>rw [aH.sane];exact ⟨F4,V,trivial⟩
 |name s h=>rw [aH.sane];exact ⟨F4,by have:=dV h;omega,trivial⟩
 |un op x h hx ih=>rw [aH.sane,iI,iI];exact ⟨F4,V,ih,trivial⟩
 |bin op x y h hx hy ihx ihy=>rw [aH.sane,iI,iI,iI];exact ⟨F4,V,ihx,ihy,trivial⟩
theorem VE.shape9{e:aH}(h:VE e):eO e=true:=by
 induction h with
 |num n h=>rw [eO,dY,show aM 1=6 from rfl,if_pos rfl,jG,arity,show aM 1=6 from rfl,if_pos rfl];simp
 |name s h=>rw [eO,dY,show aM 2=6 from rfl,if_pos rfl,jG,arity,show aM 2=6 from rfl,if_pos rfl,h];simp
 |un op x h hx ih=>
  have hs:=aDj h
  rw [eO,dY,dY,arity,hs,if_neg V,if_neg V,if_pos rfl,ih];simp
 |bin op x y h hx hy ihx ihy=>
  have hs:=sX h.1 h.2
  rw [eO,dY,dY,dY,arity,if_neg J,if_neg J,if_neg J,ihx,ihy];simp
theorem VX.valid9{e:aH}(h:VX e):dM e=true:=by rw [dM,h.1.shape9,decide_eq_true h.2];rfl
theorem bXx:aH.zero.sane:=by unfold aH.zero;rw [aH.sane];exact ⟨F4,V,trivial⟩
theorem bXu:cY.zero.sane:=⟨V,trivial⟩
theorem bX5:bLg .zero=true:=B6
theorem bXz:kM .zero=true:=B6
theorem VR.sane9{r:cY}(h:VR r):r.sane:=by
 cases h with
 |one n h=>exact ⟨by have:=dV h;dsimp only;omega,trivial⟩
 |el n e h he=>exact ⟨by have:=dV h;dsimp only;omega,he.1.sane9,trivial⟩
theorem VR.ok9{r:cY}(h:VR r):okRefB r=true:=by
 cases h with
 |one n h=>unfold okRefB;rw [h];rfl
 |el n e h he=>unfold okRefB;rw [h];dsimp only;rw [he.valid9];rfl
theorem VA.sane9{a:eN}(h:VA a):a.sane:=by
 cases h with
 |mutex r h=>exact ⟨h.sane9,bXx⟩
 |expr e h=>exact ⟨bXu,h.1.sane9⟩
theorem VA.ok9{a:eN}(h:VA a):fY a=true:=by
 cases h with
 |mutex r h=>unfold fY;rw [if_pos rfl,h.ok9,bX5];rfl
 |expr e h=>unfold fY;rw [if_neg G0,h.valid9,bXz];rfl
theorem VSs.sane9{d:Nat}{l:List aJ}(h:VSs d l):gC l:=by
 have hn:∀a:eN,a∈([]:List eN) -> a.sane:=λa ha=>by cases ha
 have hz:aK.size <= 4611686018427387904:=V
 induction h with
 |nil=>trivial
 |var hn9 he h ih=>rw [gC,aJ.sane];exact ⟨⟨Ha,he.1.sane9,bXu,hn,trivial,trivial⟩,ih⟩
 |assign hn9 he h ih=>rw [gC,aJ.sane];exact ⟨⟨Ha,he.1.sane9,bXu,hn,trivial,trivial⟩,ih⟩
 |call hn9 ha h ih=>rw [gC,aJ.sane];exact ⟨⟨Ha,bXx,bXu,λa h=>(ha a h).sane9,trivial,trivial⟩,ih⟩
 |go hn9 ha h ih=>rw [gC,aJ.sane];exact ⟨⟨Ha,bXx,bXu,λa h=>(ha a h).sane9,trivial,trivial⟩,ih⟩
 |lock hf h ih=>rw [gC,aJ.sane];exact ⟨⟨hz,bXx,hf.sane9,hn,trivial,trivial⟩,ih⟩
 |unlock hf h ih=>rw [gC,aJ.sane];exact ⟨⟨hz,bXx,hf.sane9,hn,trivial,trivial⟩,ih⟩
 |cond he ht hf h iht ihf ih=>rw [gC,aJ.sane];exact ⟨⟨hz,he.1.sane9,bXu,hn,iht,ihf⟩,ih⟩
 |loop he ht h iht ih=>rw [gC,aJ.sane];exact ⟨⟨hz,he.1.sane9,bXu,hn,iht,trivial⟩,ih⟩
 |ret h ih=>rw [gC,aJ.sane];exact ⟨⟨hz,bXx,bXu,hn,trivial,trivial⟩,ih⟩
theorem VSs.ok9{d:Nat}{l:List aJ}(h:VSs d l):∀D,D+d<24 -> bM D l=true:=by
 induction h with
 |nil=>intro D hd;rw [bM];exact decide_eq_true J
 |var hn he h ih=>intro D hd;rw [bM,bK9,ih D hd,hn,he.valid9,bXz];rfl
 |assign hn he h ih=>intro D hd;rw [bM,bK9,ih D hd,hn,he.valid9,bXz];rfl
 |@call d n a r hn ha h ih=>
  intro D hd
  have h9:a.all fY=true:=List.all_eq_true.2 λx hx=>(ha x hx).ok9
  rw [bM,bK9,ih D hd,hn,bXz,bX5,h9];rfl
 |@go d n a r hn ha h ih=>
  intro D hd
  have h9:a.all fY=true:=List.all_eq_true.2 λx hx=>(ha x hx).ok9
  rw [bM,bK9,ih D hd,hn,bXz,bX5,h9];rfl
 |lock hf h ih=>intro D hd;rw [bM,bK9,ih D hd,bX5,hf.ok9];rfl
 |unlock hf h ih=>intro D hd;rw [bM,bK9,ih D hd,bX5,hf.ok9];rfl
 |cond he ht hf h iht ihf ih=>
  intro D hd
  rw [bM,bK9,ih D hd,he.valid9,bXz,iht (D+1) J,ihf (D+1) J]
  simp
 |loop he ht h iht ih=>
  intro D hd
  rw [bM,bK9,ih D hd,he.valid9,bXz,iht (D+1) J]
  simp
 |ret h ih=>intro D hd;rw [bM,bK9,ih D hd,bX5,bXz];rfl
theorem bX7.sane{p:cK}{n:Nat}(h:bX7 p n):p.sane:=
 ⟨λg hg=>by have:=h.gl g hg;have h2:=dV this.1;have h3:=this.2;exact ⟨F4,J⟩,
  λg hg=>by obtain ⟨h1,h2,h3,h4⟩:=h.ml g hg;have h5:=dV h1;exact ⟨F4,J⟩,
  λg hg=>by obtain ⟨h1,h2,h3,h4⟩:=h.fl g hg;have h5:=dV h1;exact ⟨J,λx hx=>by have:=dV (h3 x hx);omega,h4.sane9⟩⟩
theorem bX7.form{p:cK}{n:Nat}(h:bX7 p n):nY p=true:=by
 unfold nY
 simp only [Bool.and_eq_true,decide_eq_true_eq]
 refine ⟨⟨⟨⟨h.lg,h.lm,h.lf⟩,List.all_eq_true.2 λg hg=>?_⟩,List.all_eq_true.2 λg hg=>?_⟩,List.all_eq_true.2 λg hg=>?_⟩
 ·obtain ⟨h1,h2⟩:=h.gl g hg
  unfold gH;rw [h1,decide_eq_true J];rfl
 ·obtain ⟨h1,h2,h3,h4⟩:=h.ml g hg
  unfold fS
  rw [h1,decide_eq_true ⟨h2,h3⟩]
  cases hr:g.reentrant with
  |false=>rfl
  |true=>rw [h4 hr];rfl
 obtain ⟨h1,h2,h3,h4⟩:=h.fl g hg
 unfold gW
 rw [h1,decide_eq_true h2,h4.ok9 0 J,List.all_eq_true.2 h3];rfl
theorem VE.nodes9{e:aH}(h:VE e):e.nodes+2 <= 3*(aT e).length:=by
 induction h with
 |num n h=>rw [uO,aH.nodes,cZ];simp
 |name s h=>rw [sC,aH.nodes,cZ];simp
 |un op x h hx ih=>rw [yB h,aH.nodes,cZ,cZ,length_cons,bXy];omega
 |bin op x y h hx hy ihx ihy=>rw [uI h,aH.nodes,cZ,cZ,cZ,length_append,length_cons,bXy,bXy];omega
theorem VR.wt9{r:cY}(h:VR r):r.wt <= 3*(hY r).length:=by
 cases h with
 |one n h=>show 1+cZ [] <= 3*1;rw [cZ];omega
 |el n e h he=>
  have:=he.1.nodes9
  have h9:(hY ⟨n,[e]⟩).length=(aT e).length+3:=by simp [hY]
  rw [h9];unfold cY.wt;rw [cZ,cZ];omega
theorem VA.wt9{a:eN}(h:VA a):a.wt <= 4*(wH a).length:=by
 cases h with
 |mutex r h=>
  have:=h.wt9
  have h9:(wH ⟨true,r,.zero⟩).length=(hY r).length+1:=Y
  have h8:aH.zero.nodes=1:=Y
  rw [h9];unfold eN.wt;dsimp only;omega
 |expr e h=>
  have:=h.1.nodes9
  have h9:(wH ⟨false,.zero,e⟩).length=(aT e).length:=Y
  have h8:cY.zero.wt=1:=Y
  rw [h9];unfold eN.wt;dsimp only;omega
theorem bYq:∀{l:List eN},(∀x,x∈l -> VA x) -> wtA l <= 4*(fZ wH l).length
 |[],_=>by simp [wtA]
 |[x],h=>by
  have:=(h x G0).wt9
  have h9:(fZ wH [x]).length=(wH x).length:=by simp [fZ]
  rw [h9,wtA,wtA];omega
 |x::y::r,h=>by
  have h1:=(h x G0).wt9
  have h2:=bYq (l:=y::r) λz hz=>h z (List.mem_cons_of_mem _ hz)
  rw [nW,wtA,length_append,length_cons];omega
theorem VSs.wt9{d:Nat}{l:List aJ}(h:VSs d l):wtS l <= 4*(aQ l).length:=by
 have h8:aH.zero.nodes=1:=Y
 have h7:cY.zero.wt=1:=Y
 have h6:wtA []=0:=Y
 have h5:wtS []=0:=Y
 induction h with
 |nil=>simp [wtS]
 |@var d n e r hn he h ih=>
  have:=he.1.nodes9
  rw [wtS,aJ.wt,aQ,length_append,show (cE (.mk 1 n e .zero [] [] [])).length=(aT e).length+4 by rw [cE];simp];omega
 |@assign d n e r hn he h ih=>
  have:=he.1.nodes9
  rw [wtS,aJ.wt,aQ,length_append,show (cE (.mk 2 n e .zero [] [] [])).length=(aT e).length+3 by rw [cE];simp];omega
 |@call d n a r hn ha h ih=>
  have:=bYq ha
  have h9:(iG a).length=(fZ wH a).length+2:=by simp [iG]
  rw [wtS,aJ.wt,aQ,length_append,show (cE (.mk 3 n .zero .zero a [] [])).length=(iG a).length+2 by rw [cE];simp];omega
 |@go d n a r hn ha h ih=>
  have:=bYq ha
  have h9:(iG a).length=(fZ wH a).length+2:=by simp [iG]
  rw [wtS,aJ.wt,aQ,length_append,show (cE (.mk 4 n .zero .zero a [] [])).length=(iG a).length+3 by rw [cE];simp];omega
 |@lock d f r hf h ih=>
  have:=hf.wt9
  rw [wtS,aJ.wt,aQ,length_append,show (cE (.mk 5 aK .zero f [] [] [])).length=(hY f).length+2 by rw [cE];simp];omega
 |@unlock d f r hf h ih=>
  have:=hf.wt9
  rw [wtS,aJ.wt,aQ,length_append,show (cE (.mk 6 aK .zero f [] [] [])).length=(hY f).length+2 by rw [cE];simp];omega
 |@cond d e t f r he ht hf h iht ihf ih=>
  have:=he.1.nodes9
  have h9:(aT e).length+(aQ t).length+(aQ f).length+3 <= (cE (.mk 7 aK e .zero [] t f)).length:=by
   rw [cE]
   by_cases hz:f.length=0
   ·obtain rfl:=List.length_eq_zero_iff.1 hz
    simp [aQ];omega
   simp [hz];omega
  rw [wtS,aJ.wt,aQ,length_append];omega
 |@loop d e t r he ht h iht ih=>
  have:=he.1.nodes9
  rw [wtS,aJ.wt,aQ,length_append,show (cE (.mk 8 aK e .zero [] t [])).length=(aT e).length+(aQ t).length+3 by rw [cE];simp;omega];omega
 |@ret d r h ih=>
  rw [wtS,aJ.wt,aQ,length_append,show (cE (.mk 9 aK .zero .zero [] [] [])).length=2 by rw [cE];simp];omega
theorem bYn{α:Type}(f:α -> List PT)(l:List α)(h:∀x,x∈l -> 1 <= (f x).length):l.length <= (l.map f).flatten.length:=by
 induction l with
 |nil=>simp
 |cons x l ih=>
  have h1:=h x G0
  have h2:=ih λy hy=>h y (List.mem_cons_of_mem _ hy)
  simp only [length_cons,List.map_cons,List.flatten_cons,length_append];omega
theorem bYb{α:Type}(f:α -> List PT)(h:∀x,1 <= (f x).length):∀l:List α,l.length <= (fZ f l).length
 |[]=>G0
 |[x]=>by have:=h x;simp [fZ];omega
 |x::y::r=>by have h1:=bYb f h (y::r);have h2:=h x;rw [nW,length_append,length_cons];simp only [length_cons] at h1⊢;omega
theorem bY9(x:aS):1 <= (lQ x).length:=by unfold lQ;simp
theorem bYl(f:bS):(kA f).length=(fZ lQ f.params).length+(aQ f.body).length+6:=by simp [kA];omega
theorem bYy:∀{l:List bS},(∀f,f∈l -> VF f) -> (l.map bS.wt).sum <= 4*(l.map kA).flatten.length
 |[],_=>G0
 |f::l,h=>by
  have h1:=(h f G0).2.2.2.wt9
  have h2:=bYy (l:=l) λg hg=>h g (List.mem_cons_of_mem _ hg)
  have h3:=bYb lQ bY9 f.params
  have h4:=bYl f
  simp only [List.map_cons,List.sum_cons,List.flatten_cons,length_append]
  unfold bS.wt at h2⊢;omega
theorem bX7.wt{p:cK}{n:Nat}(h:bX7 p n):p.wt <= 4*n:=by
 have h1:=bYn bEr p.globals (λx _=>by unfold bEr;simp)
 have h2:=bYn gT p.mutexes (λx _=>by unfold gT;simp)
 have h3:=bYy h.fl
 have h4:=h.sum
 unfold cK.wt;omega
theorem bY3(b:Bool)(t:List UInt8):(aH3 b t).length=t.length+2*(if b then 1 else 0):=by cases b<;>simp [aH3]
theorem bY2(n:Nat)(h:n <= 9223372036854775807):(cO n).length <= 19:=aGa 19 n J J
theorem bXq{s:ByteArray}(h:bQ s=true):s.data.toList.length <= 16:=dV h
theorem VE.len9{e:aH}(h:VE e):(aP e).length <= 20*(aT e).length:=by
 induction h with
 |num n h=>have:=bY2 n h;rw [uO,wE];simp only [length_cons,length_nil];omega
 |name s h=>have:=bXq h;rw [sC,zB];simp only [length_cons,length_nil];omega
 |un op x h hx ih=>rw [yB h,aFl h,length_cons,length_cons,bXy,bY3];omega
 |bin op x y h hx hy ihx ihy=>
  have:=aAr op
  rw [uI h,aB4 h]
  simp only [length_append,length_cons,length_nil,bXy,bY3];omega
theorem VR.len9{r:cY}(h:VR r):(dC r).length <= 20*(hY r).length:=by
 cases h with
 |one n h=>have:=bXq h;show n.data.toList.length <= 20*1;omega
 |el n e h he=>
  have:=he.1.len9
  have:=bXq h
  have h9:(hY ⟨n,[e]⟩).length=(aT e).length+3:=by simp [hY]
  rw [h9]
  show (n.data.toList++[91]++aP e++[93]).length <= _
  simp only [length_append,length_cons,length_nil];omega
theorem VA.len9{a:eN}(h:VA a):(dE a).length <= 20*(wH a).length:=by
 cases h with
 |mutex r h=>
  have:=h.len9
  have h9:(wH ⟨true,r,.zero⟩).length=(hY r).length+1:=Y
  rw [h9]
  show ([109,117,116,101,120,32]++dC r).length <= _
  simp only [length_append,length_cons,length_nil];omega
 |expr e h=>exact h.1.len9
theorem bX8{α:Type}{fT:α -> List UInt8}{fK:α -> List PT}:∀(l:List α),(∀x,x∈l -> (fT x).length <= 20*(fK x).length) -> (bW fT l).length <= 20*(fZ fK l).length
 |[],_=>FE
 |[x],h=>by have:=h x G0;simpa [bW,fZ] using this
 |x::y::q,h=>by
  have h1:=bX8 (y::q) λz hz=>h z (List.mem_cons_of_mem _ hz)
  have h2:=h x G0
  rw [aHu,nW]
  simp only [length_append,length_cons,length_nil] at h1⊢;omega
theorem bYw{l:List eN}(h:∀x,x∈l -> VA x):(dF l).length <= 20*(iG l).length:=by
 have h1:=bX8 (fT:=dE) (fK:=wH) l λx hx=>(h x hx).len9
 have h9:(iG l).length=(fZ wH l).length+2:=by simp [iG]
 unfold dF
 simp only [length_append,length_cons,length_nil];omega
theorem VSs.len9{d:Nat}{l:List aJ}(h:VSs d l):∀tabs:List UInt8,tabs.length+d <= 24 -> (aC tabs l).length <= 60*(aQ l).length:=by
 induction h with
 |nil=>intro tabs _;simp [aC]
 |@var d n e r hn he h ih=>
  intro tabs ht
  have h0:=ih tabs ht
  have h1:=he.1.len9
  have h2:=bXq hn
  rw [aC,aQ,length_append,length_append,show (cE (.mk 1 n e .zero [] [] [])).length=(aT e).length+4 by rw [cE];simp,bY,if_pos rfl]
  simp only [length_append,length_cons,length_nil];omega
 |@assign d n e r hn he h ih=>
  intro tabs ht
  have h0:=ih tabs ht
  have h1:=he.1.len9
  have h2:=bXq hn
  rw [aC,aQ,length_append,length_append,show (cE (.mk 2 n e .zero [] [] [])).length=(aT e).length+3 by rw [cE];simp,bY,if_neg V,if_pos rfl]
  simp only [length_append,length_cons,length_nil];omega
 |@call d n a r hn ha h ih=>
  intro tabs ht
  have h0:=ih tabs ht
  have h1:=bYw ha
  have h2:=bXq hn
  rw [aC,aQ,length_append,length_append,show (cE (.mk 3 n .zero .zero a [] [])).length=(iG a).length+2 by rw [cE];simp,bY,if_neg V,if_neg V,if_pos rfl]
  simp only [length_append,length_cons,length_nil];omega
 |@go d n a r hn ha h ih=>
  intro tabs ht
  have h0:=ih tabs ht
  have h1:=bYw ha
  have h2:=bXq hn
  rw [aC,aQ,length_append,length_append,show (cE (.mk 4 n .zero .zero a [] [])).length=(iG a).length+3 by rw [cE];simp,bY,if_neg V,if_neg V,if_neg V,if_pos rfl]
  simp only [length_append,length_cons,length_nil];omega
 |@lock d f r hf h ih=>
  intro tabs ht
  have h0:=ih tabs ht
  have h1:=hf.len9
  rw [aC,aQ,length_append,length_append,show (cE (.mk 5 aK .zero f [] [] [])).length=(hY f).length+2 by rw [cE];simp,bY,if_neg V,if_neg V,if_neg V,if_neg V,if_pos rfl]
  simp only [length_append,length_cons,length_nil];omega
 |@unlock d f r hf h ih=>
  intro tabs ht
  have h0:=ih tabs ht
  have h1:=hf.len9
  rw [aC,aQ,length_append,length_append,show (cE (.mk 6 aK .zero f [] [] [])).length=(hY f).length+2 by rw [cE];simp,bY,if_neg V,if_neg V,if_neg V,if_neg V,if_neg V,if_pos rfl]
  simp only [length_append,length_cons,length_nil];omega
 |@cond d e t f r he htt hf h iht ihf ih=>
  intro tabs ht
  have h0:=ih tabs ht
  have h1:=he.1.len9
  have ht2:(tabs++[9]).length+d <= 24:=DR
  have h2:=iht (tabs++[9]) ht2
  have h3:=ihf (tabs++[9]) ht2
  have h9:(aT e).length+(aQ t).length+(if f.length=0 then 0 else (aQ f).length+3)+3 <= (cE (.mk 7 aK e .zero [] t f)).length:=by
   rw [cE]
   by_cases hz:f.length=0
   ·simp [hz];omega
   simp [hz];omega
  rw [aC,aQ,length_append,length_append,bY,if_neg V,if_neg V,if_neg V,if_neg V,if_neg V,if_neg V,if_pos V,if_neg V]
  by_cases hz:f.length=0
  ·rw [if_pos hz] at h9⊢
   simp only [length_append,length_cons,length_nil];omega
  ·rw [if_neg hz] at h9⊢
   simp only [length_append,length_cons,length_nil];omega
 |@loop d e t r he htt h iht ih=>
  intro tabs ht
  have h0:=ih tabs ht
  have h1:=he.1.len9
  have ht2:(tabs++[9]).length+d <= 24:=DR
  have h2:=iht (tabs++[9]) ht2
  rw [aC,aQ,length_append,length_append,show (cE (.mk 8 aK e .zero [] t [])).length=(aT e).length+(aQ t).length+3 by rw [cE];simp;omega,bY,if_neg V,if_neg V,if_neg V,if_neg V,if_neg V,if_neg V,if_pos V,if_pos V,if_pos length_nil]
  simp only [length_append,length_cons,length_nil];omega
 |@ret d r h ih=>
  intro tabs ht
  have h0:=ih tabs ht
  rw [aC,aQ,length_append,length_append,show (cE (.mk 9 aK .zero .zero [] [] [])).length=2 by rw [cE];simp,bY,if_neg V,if_neg V,if_neg V,if_neg V,if_neg V,if_neg V,if_neg V]
  simp only [length_append,length_cons,length_nil];omega
theorem bY6(n:Int)(h:n.natAbs <= 9223372036854775807):(eH n).length <= 20:=by
 have:=bY2 n.natAbs h
 unfold eH
 split
 ·rw [length_cons];omega
 omega
theorem VG.len9{g:aI}(h:VG g):(aU g).length <= 60*(bEr g).length:=by
 have h1:=bXq h.1
 have h2:=bY6 g.init h.2
 have h3:3 <= (bEr g).length:=by unfold bEr;simp
 have h4:(aU g).length <= 50:=by
  unfold aU
  split
  ·simp only [length_append,length_cons,length_nil];omega
  simp only [length_append,length_cons,length_nil];omega
 omega
theorem VM.len9{g:cL}(h:VM g):(bE g).length <= 60*(gT g).length:=by
 have h1:=bXq h.1
 have h2:=bY6 g.size (by have:=h.2.1;have:=h.2.2.1;omega)
 have h3:3 <= (gT g).length:=by unfold gT;simp
 have h4:(bE g).length <= 60:=by
  unfold bE
  split<;>split<;>(simp only [length_append,length_cons,length_nil];omega)
 omega
theorem VF.len9{g:bS}(h:VF g):(funcText g).length <= 60*(kA g).length:=by
 have h1:=bXq h.1
 have h2:=h.2.2.2.len9 [9] V
 have h3:=bX8 (fT:=bX) (fK:=lQ) g.params λx hx=>by
  have:=bXq (h.2.2.1 x hx)
  unfold bX lQ
  split<;>(simp only [length_append,length_cons,length_nil];omega)
 rw [bYl]
 unfold funcText
 simp only [length_append,length_cons,length_nil];omega
theorem bX3{α:Type}{fT:α -> List UInt8}{fK:α -> List PT}:∀(l:List α),(∀x,x∈l -> (fT x).length <= 60*(fK x).length) -> (l.map fT).flatten.length <= 60*(l.map fK).flatten.length
 |[],_=>G0
 |x::l,h=>by
  have h1:=bX3 l λy hy=>h y (List.mem_cons_of_mem _ hy)
  have h2:=h x G0
  simp only [List.map_cons,List.flatten_cons,length_append];omega
theorem bX7.len{p:cK}{n:Nat}(h:bX7 p n):(cR p).length <= 60*n:=by
 have h1:=bX3 p.globals λx hx=>(h.gl x hx).len9
 have h2:=bX3 p.mutexes λx hx=>(h.ml x hx).len9
 have h3:=bX3 p.funcs λx hx=>(h.fl x hx).len9
 have h4:=h.sum
 unfold cR
 simp only [length_append];omega
theorem bX7.toks{p:cK}{n:Nat}(h:bX7 p n):((iA p).map fF.toks).flatten.length <= n:=by
 have h4:=h.sum
 simp only [iA,List.map_append,List.map_map,List.flatten_append,length_append]
 have e1:fF.toks ∘ fF.glob=bEr:=Y
 have e2:fF.toks ∘ fF.mtx=gT:=Y
 have e3:fF.toks ∘ fF.fn=kA:=Y
 rw [e1,e2,e3];omega
end
section
structure Sg (g:ByteArray -> ByteArray):Prop where
 inj:∀{s t},g s=g t -> s=t
 nm:∀s,bQ (g s)=bQ s
 e:g aK=aK
 main:g cFl=cFl
 size:∀s:ByteArray,s.size <= 4611686018427387904 -> (g s).size <= 4611686018427387904
theorem Sg.e'{g:ByteArray -> ByteArray}(h:Sg g)(s:ByteArray):(g s=aK)=(s=aK):=propext ⟨λe=>h.inj (e.trans h.e.symm),λe=>by rw [e,h.e]⟩
def cZm(g:ByteArray -> ByteArray)(x:cFc):cFc:=⟨g x.name,x.kind,x.n⟩
section
variable {g:ByteArray -> ByteArray}(hg:Sg g)
include hg
theorem cZw(l:List cFc)(s:ByteArray):cFa (l.map (cZm g)) (g s)=(cFa l s).map (cZm g):=by
 induction l with
 |nil=>rfl
 |cons x l ih=>
  rw [List.map_cons,cFa,cFa]
  by_cases e:x.name=s
  ·rw [if_pos e,if_pos (show (cZm g x).name=g s by rw [←e];rfl)];rfl
  rw [if_neg e,if_neg (show ¬(cZm g x).name=g s from λh=>e (hg.inj h)),ih]
theorem dAg(l:List cFc)(s:ByteArray):(cFb (l.map (cZm g)) (g s)).kind=(cFb l s).kind /\ (cFb (l.map (cZm g)) (g s)).n=(cFb l s).n:=by
 unfold cFb;rw [cZw hg];cases cFa l s<;>exact ⟨rfl,rfl⟩
theorem dD9(l:List cFc)(s:ByteArray):cJw (l.map (cZm g)) (g s)=cJw l s:=by
 unfold cJw;rw [(dAg hg l s).1,(dAg hg l s).2]
theorem dC7(l:List cFc)(s:ByteArray):cGq (l.map (cZm g)) (g s)=cGq l s:=by
 unfold cGq;rw [cZw hg];cases cFa l s<;>rfl
theorem dEm(l:List cFc)(s:ByteArray):cFv (l.map (cZm g)) (g s)=cFv l s:=by
 unfold cFv;rw [cZw hg,Option.isSome_map]
mutual
theorem dAq(l:List cFc):∀e:aH,cFk (l.map (cZm g)) (mE g e)=cFk l e
 |.mk op num name args=>by
  rw [mE,cFk,cFk]
  by_cases h:op=2
  ·rw [if_pos h,if_pos h,if_pos h,dD9 hg]
  rw [if_neg h,if_neg h,dB6 l args]
theorem dB6(l:List cFc):∀r:List aH,cIl (l.map (cZm g)) (mEs g r)=cIl l r
 |[]=>by rw [mEs,cIl,cIl]
 |e::r=>by rw [mEs,cIl,cIl,dAq l e,dB6 l r]
end
mutual
theorem dA5(l:List cFc):∀e:aH,cFf (l.map (cZm g)) (mE g e)=cFf l e
 |.mk op num name args=>by
  rw [mE,cFf,cFf]
  by_cases h:op=2
  ·rw [if_pos h,if_pos h,if_pos h,dC7 hg]
  rw [if_neg h,if_neg h,dBa l args]
theorem dBa(l:List cFc):∀r:List aH,cFq (l.map (cZm g)) (mEs g r)=cFq l r
 |[]=>by rw [mEs,cFq,cFq]
 |e::r=>by rw [mEs,cFq,cFq,dA5 l e,dBa l r]
end
theorem dDm(l:List cFc)(r:cY):cG6 (l.map (cZm g)) (mR g r)=cG6 l r:=by
 have e:cFk (l.map (cZm g)) ∘ mE g=cFk l:=funext λe=>dAq hg l e
 unfold cG6 mR
 rw [(dAg hg l r.name).1,(dAg hg l r.name).2,List.map_map,e]
variable {p p':cK}(hs:∀n,cHk p' n=cHk p n)(hp:∀n,cGc p' n=(cGc p n).map (mQ g))
include hs
theorem dDn(l:List cFc)(r:cY):cGo p' (l.map (cZm g)) (mR g r)=cGo p l r:=by
 have e:∀(n:Nat)(o:Option cFc),cG3 p' n (o.map (cZm g))=cG3 p n o:=λn o=>by
  cases o with
  |none=>rfl
  |some v=>show cG3 p' n (some (cZm g v))=_;unfold cG3;dsimp only;rw [show (cZm g v).n=v.n from rfl,hs];rfl
 unfold cGo
 rw [show (mR g r).name=g r.name from rfl,cZw hg,e,show (mR g r).index=r.index.map (mE g) from rfl,List.length_map,←cZv,dBa hg]
theorem dD2(l:List cFc)(a:eN):cJh p' (l.map (cZm g)) (mA g a)=cJh p l a:=by
 unfold cJh
 rw [show (mA g a).mutex=a.mutex from rfl,show (mA g a).ref=mR g a.ref from rfl,show (mA g a).expr=mE g a.expr from rfl,dDn hg hs,dA5 hg]
theorem dCh(l:List cFc):∀(al:List eN)(xs:List aS),cF8 p' (l.map (cZm g)) (al.map (mA g)) (xs.map (mQ g))=cF8 p l al xs
 |[],[]=>rfl
 |[],_::_=>rfl
 |_::_,[]=>rfl
 |a::al,x::xs=>by
  rw [List.map_cons,List.map_cons,cF8,cF8,dD2 hg hs,dCh l al xs];rfl
omit hs in
theorem dCq:∀(al:List eN)(xs:List aS),cGb (al.map (mA g)) (xs.map (mQ g))=(cGb al xs).map (mA g)
 |[],[]=>rfl
 |[],_::_=>rfl
 |_::_,[]=>rfl
 |a::al,x::xs=>by
  rw [List.map_cons,List.map_cons,cGb,cGb,dCq al xs]
  show (if a.mutex=x.mutex then _ else _)=_
  split<;>rfl
omit hs in
theorem dDl(l:List cFc):∀al:List eN,cF4 (l.map (cZm g)) (al.map (mA g))=cF4 l al
 |[]=>rfl
 |a::al=>by
  have ih:=dDl l al
  unfold cF4 at ih⊢
  rw [List.map_cons,List.filter_cons,List.filter_cons,show (mA g a).mutex=a.mutex from rfl]
  split
  ·rw [List.map_cons,List.map_cons,ih,show (mA g a).ref=mR g a.ref from rfl,dDm hg]
  exact ih
omit hs in
theorem dCw(l:List cFc):∀al:List eN,cFn (l.map (cZm g)) (al.map (mA g))=cFn l al
 |[]=>rfl
 |a::al=>by
  have ih:=dCw l al
  unfold cFn at ih⊢
  rw [List.map_cons,List.filter_cons,List.filter_cons,show (mA g a).mutex=a.mutex from rfl]
  split
  ·rw [List.map_cons,List.map_cons,ih,show (mA g a).expr=mE g a.expr from rfl,dAq hg]
  exact ih
theorem dDs(hp:∀n,cGc p' n=(cGc p n).map (mQ g))(l:List cFc)(s:aJ):cFy p' (l.map (cZm g)) (mS g s)=cFy p l s:=by
 obtain ⟨k,n,e,r,a,t,f⟩:=s
 rw [mS]
 show cHb p' (l.map (cZm g)) (a.map (mA g)) (cFa (l.map (cZm g)) (g n))=cHb p l a (cFa l n)
 rw [cZw hg]
 cases cFa l n with
 |none=>rfl
 |some v=>
  show cHb p' _ _ (some (cZm g v))=_
  unfold cHb
  dsimp only
  rw [show (cZm g v).n=v.n from rfl,hp,List.length_map,List.length_map,dCh hg hs];rfl
omit hs in
theorem dD1(hp:∀n,cGc p' n=(cGc p n).map (mQ g))(l:List cFc)(s:aJ):cGn p' (l.map (cZm g)) (mS g s)=cGn p l s:=by
 obtain ⟨k,n,e,r,a,t,f⟩:=s
 rw [mS]
 show cG9 p' (l.map (cZm g)) (a.map (mA g)) (if k=4 then 3 else 2) (cFa (l.map (cZm g)) (g n))=cG9 p l a (if k=4 then 3 else 2) (cFa l n)
 rw [cZw hg]
 cases cFa l n with
 |none=>rfl
 |some v=>
  show cG9 p' _ _ _ (some (cZm g v))=_
  unfold cG9
  dsimp only
  rw [show (cZm g v).n=v.n from rfl,hp,List.length_map,List.length_map,dCq hg,dDl hg,dCw hg];rfl
end
section
variable {g:ByteArray -> ByteArray}
theorem dE1(e:aH):(mE g e).op=e.op:=by cases e;rw [mE];rfl
mutual
theorem dBy:∀e:aH,dI (mE g e)=dI e
 |.mk op num name args=>by rw [mE,dI,dI,dBj op 0 args]
theorem dBj(b:Int):∀(k:Nat)(l:List aH),bSm b k (mEs g l)=bSm b k l
 |_,[]=>by rw [mEs]
 |k,e::l=>by rw [mEs,bSm,bSm,dBy e,dE1,dBj b (k+1) l]
end
end
def mX(g:ByteArray -> ByteArray)(x:LS):LS:=⟨x.ents.map (cZm g),x.locals,x.n,x.q,x.code,x.sites⟩
section
variable {g:ByteArray -> ByteArray}(hg:Sg g){p p':cK}(hs:∀n,cHk p' n=cHk p n)(hp:∀n,cGc p' n=(cGc p n).map (mQ g))
include hg hs hp
theorem dC1(s:aJ)(x:LS):cFu p' (mS g s) (mX g x)=mX g (cFu p s x):=by
 have h1:=dDs hg hs hp x.ents s
 have h2:=dD1 hg hp x.ents s
 obtain ⟨k,n,e,r,a,t,f⟩:=s
 rw [mS] at h1 h2⊢
 unfold cFu
 show (if k=1 then _ else if k=2 then _ else if k=3∨k=4 then _ else if k=5 then _ else if k=6 then _ else _)=mX g (if k=1 then _ else if k=2 then _ else if k=3∨k=4 then _ else if k=5 then _ else if k=6 then _ else _)
 have a1:cFv (mX g x).ents (g n)=cFv x.ents n:=dEm hg _ _
 have a2:cGq (mX g x).ents (g n)=cGq x.ents n:=dC7 hg _ _
 have a3:cFf (mX g x).ents (mE g e)=cFf x.ents e:=dA5 hg _ _
 have a4:cFk (mX g x).ents (mE g e)=cFk x.ents e:=dAq hg _ _
 have a5:cGo p' (mX g x).ents (mR g r)=cGo p x.ents r:=dDn hg hs _ _
 have a6:cG6 (mX g x).ents (mR g r)=cG6 x.ents r:=dDm hg _ _
 have a7:(cFb (mX g x).ents (g n)).n=(cFb x.ents n).n:=(dAg hg x.ents n).2
 have a8:(cFb (mX g x).ents (g n)).kind=(cFb x.ents n).kind:=(dAg hg x.ents n).1
 split
 ·show (((mX g x).beg (cFj (cFv (mX g x).ents (g n)) (cFf (mX g x).ents (mE g e)))).put ⟨1,x.locals,false,cFk (mX g x).ents (mE g e),plZ,[],[]⟩ x.n).var (g n)=_
  rw [a1,a3,a4]
  show (⟨x.ents.map (cZm g)++[⟨g n,4,x.locals⟩],_,_,_,_,_⟩:LS)=(⟨List.map (cZm g) (x.ents++[⟨n,4,x.locals⟩]),_,_,_,_,_⟩:LS)
  rw [List.map_append];rfl
 split
 ·show ((mX g x).beg (cFj (cGq (mX g x).ents (g n)) (cFf (mX g x).ents (mE g e)))).put ⟨1,(cFb (mX g x).ents (g n)).n,decide ((cFb (mX g x).ents (g n)).kind=1),cFk (mX g x).ents (mE g e),plZ,[],[]⟩ x.n=_
  rw [a2,a3,a4,a7,a8];rfl
 split
 ·show LS.put (LS.beg (mX g x) (cFy p' (x.ents.map (cZm g)) _)) (cGn p' (x.ents.map (cZm g)) _) _=_
  rw [h1,h2];rfl
 split
 ·show ((mX g x).beg (cGo p' (mX g x).ents (mR g r))).put ⟨4,0,false,.zero,cG6 (mX g x).ents (mR g r),[],[]⟩ x.n=_
  rw [a5,a6];rfl
 split
 ·show ((mX g x).beg (cGo p' (mX g x).ents (mR g r))).put ⟨5,0,false,.zero,cG6 (mX g x).ents (mR g r),[],[]⟩ x.n=_
  rw [a5,a6];rfl
 rfl
theorem dC5(x:LS)(e:aH):(mX g x).branch (mE g e)=mX g (x.branch e):=by
 have a3:cFf (mX g x).ents (mE g e)=cFf x.ents e:=dA5 hg _ _
 have a4:cFk (mX g x).ents (mE g e)=cFk x.ents e:=dAq hg _ _
 unfold LS.branch;rw [a3,a4];rfl
mutual
theorem dD7:∀(s:aJ)(x:LS),cFs p' (mS g s) (mX g x)=mX g (cFs p s x)
 |.mk k n e r a t f,x=>by
  have h0:=dC1 hg hs hp (.mk k n e r a t f) x
  have h1:=dC5 hg hs hp x e
  rw [mS] at h0⊢
  rw [cFs,cFs,h1,dAo t,h0,cZ2 g f,List.length_map,←cZ2]
  split
  ·split
   ·rfl
   have h2:=dAo f ((((x.branch e).back (cFe p t (x.branch e))).put (opI 7 .zero) x.n).patch x.code.length)
   show LS.patch (LS.back _ (cFe p' (mSs g f) (mX g ((((x.branch e).back (cFe p t (x.branch e))).put (opI 7 .zero) x.n).patch x.code.length)))) _=_
   rw [h2];rfl
  split<;>rfl
theorem dAo:∀(l:List aJ)(x:LS),cFe p' (mSs g l) (mX g x)=mX g (cFe p l x)
 |[],x=>by rw [mSs,cFe,cFe]
 |s::l,x=>by rw [mSs,cFe,cFe,dD7 s x,dAo l]
end
end
section
variable {g:ByteArray -> ByteArray}(hg:Sg g)
include hg
theorem dA4:∀(l:List aS)(a:List cFc)(i m:Nat),cGd (l.map (mQ g)) (a.map (cZm g)) i m=(cGd l a i m).map λr=>(r.1.map (cZm g),r.2.1,r.2.2)
 |[],a,i,m=>by rw [List.map_nil,cGd,cGd];rfl
 |x::l,a,i,m=>by
  have e:∀k n,a.map (cZm g)++[⟨(mQ g x).name,k,n⟩]=(a++[(⟨x.name,k,n⟩:cFc)]).map (cZm g):=λk n=>by rw [List.map_append];rfl
  rw [List.map_cons,cGd,cGd,show (mQ g x).name=g x.name from rfl,cZw hg,Option.isSome_map]
  split
  ·rfl
  show (if x.mutex then cGd _ (a.map (cZm g)++[⟨(mQ g x).name,5,m⟩]) i (m+1) else cGd _ (a.map (cZm g)++[⟨(mQ g x).name,4,i⟩]) (i+1) m)=_
  rw [e,e,dA4 l,dA4 l];split<;>rfl
theorem dC6:∀(r l:List cFc),cG0 (l.map (cZm g)) (r.map (cZm g))=cG0 l r
 |[],l=>by rw [List.map_nil,cG0,cG0]
 |x::r,l=>by
  rw [List.map_cons,cG0,cG0,show (cZm g x).name=g x.name from rfl,cZw hg,Option.isSome_map,List.length_map]
  have:=dC6 r (l++[x])
  rw [List.map_append] at this
  rw [←this];rfl
omit hg in
theorem dA7(p:cK):cFd (mP g g p)=(cFd p).map (cZm g):=by
 have m:∀{α:Type} (f:Nat -> α -> cFc) (h:α -> α) (e:∀i a,f i (h a)=cZm g (f i a)) (l:List α),(l.map h).mapIdx f=(l.mapIdx f).map (cZm g):=λf h e l=>by
  apply List.ext_getElem G0
  intro i h1 h2
  simp [e]
 unfold cFd mP
 dsimp only
 rw [List.map_append,List.map_append,m _ (mG g) (λ_ _=>rfl),m _ (mM g) (λ_ _=>rfl),m _ (mF g g) (λ_ _=>rfl)]
omit hg in
theorem dD0(p:cK)(n:Nat):cHk (mP g g p) n=cHk p n:=by
 unfold cHk mP
 dsimp only
 rw [List.getElem?_map];cases p.mutexes[n]?<;>rfl
omit hg in
theorem dCi(p:cK)(n:Nat):cGc (mP g g p) n=(cGc p n).map (mQ g):=by
 unfold cGc mP
 dsimp only
 rw [List.getElem?_map];cases p.funcs[n]?<;>rfl
theorem dEa(p:cK)(f:bS)(l:List cFc)(i:Nat):cJg (mP g g p) (mF g g f) (l.map (cZm g)) i=mX g (cJg p f l i):=by
 have h:=dAo hg (dD0 p) (dCi p) f.body (LS.init l i)
 unfold cJg cRs
 show (LS.back _ (cFe (mP g g p) (mSs g f.body) (mX g (LS.init l i)))).put _ (LS.back _ (cFe (mP g g p) (mSs g f.body) (mX g (LS.init l i)))).n=_
 rw [h];rfl
theorem dDk(p:cK)(f:bS):cGk (mP g g p) (mF g g f)=cGk p f /\ (cGe (mP g g p) (mF g g f)).ints=(cGe p f).ints /\ (cGe (mP g g p) (mF g g f)).locks=(cGe p f).locks /\ (cGe (mP g g p) (mF g g f)).locals=(cGe p f).locals /\ (cGe (mP g g p) (mF g g f)).code=(cGe p f).code:=by
 unfold cGk cGe
 rw [dA7,show (mF g g f).params=f.params.map (mQ g) from rfl,dA4 hg]
 rcases cGd f.params (cFd p) 0 0 with _|⟨l,i,m⟩
 ·exact ⟨Y,Y,Y,Y,Y⟩
 show (cJg (mP g g p) (mF g g f) (l.map (cZm g)) i).q=_ /\ i=_ /\ m=_ /\ (cJg (mP g g p) (mF g g f) (l.map (cZm g)) i).locals=_ /\ (cJg (mP g g p) (mF g g f) (l.map (cZm g)) i).code=_
 rw [dEa hg];exact ⟨rfl,rfl,rfl,rfl,rfl⟩
theorem dB9(p:cK):∀(l:List bS)(k:Nat),cGh (mP g g p) (l.map (mF g g)) k=cGh p l k
 |[],k=>rfl
 |f::l,k=>by rw [List.map_cons,cGh,cGh,(dDk hg p f).1,dB9 p l]
theorem dEb(p:cK):cHa (mP g g p)=cHa p:=by
 have h:=cZw hg (cFd p) cFl
 rw [hg.main] at h
 unfold cHa
 rw [dA7,h]
 rcases cFa (cFd p) cFl with _|v
 ·rfl
 show (decide (v.kind=3) && decide ((cGc (mP g g p) v.n).length=0))=_
 rw [dCi,List.length_map]
theorem dEn(p:cK):(cFb (cFd (mP g g p)) cFl).n=(cFb (cFd p) cFl).n:=by
 have h:=(dAg hg (cFd p) cFl).2
 rw [hg.main] at h
 rw [dA7,h]
mutual
theorem dCm:∀e:aH,eO (mE g e)=eO e
 |.mk op num name args=>by
  rw [mE,eO,eO,dB1 args,cZv,List.length_map]
  have:jG op num (if op=2 then g name else name)=jG op num name:=by
   unfold jG
   by_cases h:op=2
   ·rw [if_pos h,hg.nm,decide_eq_false (show ¬(op=1 /\ 0 <= num) by omega),Bool.false_and,Bool.false_and]
   rw [if_neg h]
  rw [this]
  by_cases h:op=2
  ·have h6:aM op=6:=by subst h;decide
   rw [if_pos h6,if_pos h6]
  rw [if_neg h]
theorem dB1:∀l:List aH,dY (mEs g l)=dY l
 |[]=>by rw [mEs]
 |e::l=>by rw [mEs,dY,dY,dCm e,dB1 l]
end
theorem dC8(e:aH):dM (mE g e)=dM e:=by unfold dM;rw [dCm hg,dBy]
omit hg in
theorem dEc(e:aH):bLg (mE g e)=bLg e:=by
 obtain ⟨op,num,name,args⟩:=e
 rw [mE]
 show (decide (op=0 /\ num=0) && decide ((if op=2 then g name else name)=aK) && decide ((mEs g args).length=0))=(decide (op=0 /\ num=0) && decide (name=aK) && decide (args.length=0))
 rw [cZv,List.length_map]
 by_cases h:op=2
 ·rw [decide_eq_false (show ¬(op=0 /\ num=0) by omega)];rfl
 rw [if_neg h]
theorem dEh(r:cY):kM (mR g r)=kM r:=by
 unfold kM mR
 simp only [hg.e',List.length_map]
theorem dEe(r:cY):okRefB (mR g r)=okRefB r:=by
 obtain ⟨n,ix⟩:=r
 unfold okRefB mR
 dsimp only
 rw [hg.nm]
 rcases ix with _|⟨a,_|⟨b,c⟩⟩
 ·rfl
 ·show (_ && dM (mE g a))=_;rw [dC8 hg]
 rfl
theorem dEx(a:eN):fY (mA g a)=fY a:=by
 unfold fY
 rw [show (mA g a).mutex=a.mutex from rfl,show (mA g a).ref=mR g a.ref from rfl,show (mA g a).expr=mE g a.expr from rfl,dEe hg,dEh hg,dEc,dC8 hg]
theorem dCu{α:Type}{f:α -> Bool}{h:α -> α}(e:∀x,f (h x)=f x)(l:List α):(l.map h).all f=l.all f:=by
 rw [List.all_map];congr 1;exact funext e
mutual
theorem dEy:∀(D:Nat)(s:aJ),bK9 D (mS g s)=bK9 D s
 |D,.mk k n e r a t f=>by
  rw [mS,bK9,bK9,dBv (D+1) t,dBv (D+1) f,hg.nm,dC8 hg,dEc,dEe hg,dEh hg,List.length_map,dCu hg (dEx hg),cZ2,cZ2,List.length_map,List.length_map]
  simp only [hg.e']
theorem dBv:∀(D:Nat)(l:List aJ),bM D (mSs g l)=bM D l
 |D,[]=>by rw [mSs]
 |D,s::l=>by rw [mSs,bM,bM,dEy D s,dBv D l]
end
theorem dDi(p:cK):nY (mP g g p)=nY p:=by
 have e1:∀x,gH (mG g x)=gH x:=λx=>by unfold gH;rw [show (mG g x).name=g x.name from rfl,hg.nm];rfl
 have e2:∀x,fS (mM g x)=fS x:=λx=>by unfold fS;rw [show (mM g x).name=g x.name from rfl,hg.nm];rfl
 have e3:∀x:aS,bQ (mQ g x).name=bQ x.name:=λx=>hg.nm x.name
 have e4:∀x,gW (mF g g x)=gW x:=λx=>by
  unfold gW
  rw [show (mF g g x).name=g x.name from rfl,hg.nm,show (mF g g x).params=x.params.map (mQ g) from rfl,List.length_map,show (mF g g x).body=mSs g x.body from rfl,dBv hg,List.all_map]
  congr 2;exact funext e3
 unfold nY mP
 dsimp only
 rw [dCu hg e1,dCu hg e2,dCu hg e4,List.length_map,List.length_map,List.length_map]
mutual
theorem dBs:∀e:aH,e.sane -> (mE g e).sane
 |.mk op num name args,h=>by
  rw [aH.sane] at h
  rw [mE,aH.sane]
  refine ⟨h.1,?_,dBd args h.2.2⟩
  split
  ·exact hg.size _ h.2.1
  exact h.2.1
theorem dBd:∀l:List aH,iI l -> iI (mEs g l)
 |[],_=>by rw [mEs];trivial
 |e::l,h=>by rw [iI] at h;rw [mEs,iI];exact ⟨dBs e h.1,dBd l h.2⟩
end
theorem dCt(r:cY)(h:r.sane):(mR g r).sane:=⟨hg.size _ h.1,by show iI (r.index.map (mE g));rw [←cZv];exact dBd hg _ h.2⟩
mutual
theorem dD8:∀s:aJ,s.sane -> (mS g s).sane
 |.mk k n e r a t f,h=>by
  rw [aJ.sane] at h
  rw [mS,aJ.sane]
  obtain ⟨h1,h2,h3,h4,h5,h6⟩:=h
  refine ⟨?_,dBs hg e h2,dCt hg r h3,λb hb=>?_,dAp t h5,dAp f h6⟩
  ·exact hg.size _ h1
  obtain ⟨c,hc,rfl⟩:=List.mem_map.1 hb
  exact ⟨dCt hg _ (h4 c hc).1,dBs hg _ (h4 c hc).2⟩
theorem dAp:∀l:List aJ,gC l -> gC (mSs g l)
 |[],_=>by rw [mSs];trivial
 |s::l,h=>by rw [gC] at h;rw [mSs,gC];exact ⟨dD8 s h.1,dAp l h.2⟩
end
theorem dBo{p:cK}(h:p.sane):(mP g g p).sane:=by
 refine ⟨λx hx=>?_,λx hx=>?_,λx hx=>?_⟩
 ·obtain ⟨y,hy,rfl⟩:=List.mem_map.1 hx;have:=h.globals y hy;exact ⟨this.1,hg.size _ this.2⟩
 ·obtain ⟨y,hy,rfl⟩:=List.mem_map.1 hx;have:=h.mutexes y hy;exact ⟨this.1,hg.size _ this.2⟩
 obtain ⟨y,hy,rfl⟩:=List.mem_map.1 hx
 have:=h.funcs y hy
 refine ⟨hg.size _ this.1,λx hx=>?_,dAp hg _ this.2.2⟩
 obtain ⟨z,hz,rfl⟩:=List.mem_map.1 hx;exact hg.size _ (this.2.1 z hz)
end
def mK(g:ByteArray -> ByteArray)(x:PT):PT:=if x.kind=1 then ⟨1,g x.text,x.num⟩ else x
section
variable {g:ByteArray -> ByteArray}
theorem dBt(ts:List (List PT))(i:Nat):(ts.map (List.map (mK g))).getD i []=(ts.getD i []).map (mK g):=by
 rw [List.getD_eq_getElem?_getD,List.getD_eq_getElem?_getD,List.getElem?_map];cases ts[i]?<;>rfl
theorem dCa(s:List UInt8):mK g (sgn s)=sgn s:=rfl
theorem dEq(s:List UInt8):mK g (wrd s)=wrd s:=rfl
theorem dDo(s:ByteArray):mK g (nmT s)=nmT (g s):=rfl
mutual
theorem dA0:∀e:aH,aT (mE g e)=(aT e).map (mK g)
 |.mk op num name args=>by
  rw [mE,aT,aT,dCk op 0 args]
  unfold aM3
  by_cases h1:op=1
  ·rw [if_pos h1,if_pos h1];rfl
  rw [if_neg h1,if_neg h1]
  by_cases h2:op=2
  ·rw [if_pos h2,if_pos h2,if_pos h2];rfl
  rw [if_neg h2,if_neg h2]
  by_cases h3:op=3
  ·rw [if_pos h3,if_pos h3,dBt];rfl
  rw [if_neg h3,if_neg h3]
  by_cases h4:op=4
  ·rw [if_pos h4,if_pos h4,dBt];rfl
  rw [if_neg h4,if_neg h4,dBt,dBt,List.map_append];rfl
theorem dCk(b:Int):∀(k:Nat)(l:List aH),mL b k (mEs g l)=(mL b k l).map (List.map (mK g))
 |_,[]=>by simp only [mEs,mL,List.map_nil]
 |k,e::l=>by
  rw [mEs,mL,mL,dA0 e,dE1,dCk b (k+1) l,List.map_cons]
  congr 1
  unfold dAe
  split
  ·rw [List.map_cons,List.map_append];rfl
  rfl
end
theorem dCp(r:cY):hY (mR g r)=(hY r).map (mK g):=by
 obtain ⟨n,ix⟩:=r
 unfold hY mR
 cases ix with
 |nil=>rfl
 |cons e q=>show nmT (g n)::sgn [91]::(aT (mE g e)++[sgn [93]])=_;rw [dA0];simp [dDo,dCa]
theorem dCv{α:Type}{f:α -> List PT}{h:α -> α}(e:∀x,f (h x)=(f x).map (mK g))(l:List α):fZ f (l.map h)=(fZ f l).map (mK g):=by
 cases l with
 |nil=>rfl
 |cons a l=>
  rw [List.map_cons,fZ,fZ,e,List.map_append,List.map_map]
  congr 1
  rw [List.map_flatten,List.map_map]
  congr 2
  exact funext λx=>by show sgn [44]::f (h x)=_;rw [e];rfl
theorem dEu(a:eN):wH (mA g a)=(wH a).map (mK g):=by
 unfold wH
 rw [show (mA g a).mutex=a.mutex from rfl,show (mA g a).ref=mR g a.ref from rfl,show (mA g a).expr=mE g a.expr from rfl,dCp,dA0]
 split<;>rfl
theorem dDr(l:List eN):iG (l.map (mA g))=(iG l).map (mK g):=by unfold iG;rw [dCv dEu];simp [dCa]
mutual
theorem dDu:∀s:aJ,cE (mS g s)=(cE s).map (mK g)
 |.mk k n e r a t f=>by
  have h1:=dAl t
  have h2:=dAl f
  rw [mS,cE,cE,dA0,dCp,dDr,h1,h2,cZ2 g f,List.length_map]
  repeat' split
  all_goals simp [dCa,dDo,dEq]
theorem dAl:∀l:List aJ,aQ (mSs g l)=(aQ l).map (mK g)
 |[]=>by rw [mSs,aQ];rfl
 |s::l=>by rw [mSs,aQ,aQ,dDu s,dAl l,List.map_append]
end
theorem dEp(p:cK):((iA (mP g g p)).map fF.toks).flatten.length=((iA p).map fF.toks).flatten.length:=by
 have e0:∀{α:Type} (f:α -> List PT) (h:α -> α) (e:∀x,(f (h x)).length=(f x).length) (l:List α),((l.map h).map f).flatten.length=(l.map f).flatten.length:=λf h e l=>by
  induction l with
  |nil=>rfl
  |cons a l ih=>simp only [List.map_cons,List.flatten_cons,length_append,e,ih]
 have e1:∀x,(bEr (mG g x)).length=(bEr x).length:=λx=>Y
 have e2:∀x,(gT (mM g x)).length=(gT x).length:=λx=>Y
 have e3:∀x,(kA (mF g g x)).length=(kA x).length:=λx=>by
  rw [bYl,bYl,show (mF g g x).body=mSs g x.body from rfl,dAl,List.length_map,show (mF g g x).params=x.params.map (mQ g) from rfl,dCv (λy=>by unfold lQ;show (if y.mutex then _ else _)++_=_;split<;>rfl),List.length_map]
 simp only [iA,mP,List.map_append,List.flatten_append,length_append]
 have e4:(List.map (fF.toks ∘ fF.glob ∘ mG g) p.globals).flatten.length=(List.map (fF.toks ∘ fF.glob) p.globals).flatten.length:=by have:=e0 (fF.toks ∘ fF.glob) (mG g) e1 p.globals;rw [List.map_map] at this;exact this
 have e5:(List.map (fF.toks ∘ fF.mtx ∘ mM g) p.mutexes).flatten.length=(List.map (fF.toks ∘ fF.mtx) p.mutexes).flatten.length:=by have:=e0 (fF.toks ∘ fF.mtx) (mM g) e2 p.mutexes;rw [List.map_map] at this;exact this
 have e6:(List.map (fF.toks ∘ fF.fn ∘ mF g g) p.funcs).flatten.length=(List.map (fF.toks ∘ fF.fn) p.funcs).flatten.length:=by have:=e0 (fF.toks ∘ fF.fn) (mF g g) e3 p.funcs;rw [List.map_map] at this;exact this
 simp only [List.map_map]
 omega
end
theorem dBf{p:cK}(hs:p.sane)(hf:nY p=true):jI p=decide (((iA p).map fF.toks).flatten.length <= 4000):=by
 have hd:=aHh hs hf
 by_cases h:((iA p).map fF.toks).flatten.length <= 4000
 ·rw [decide_eq_true h]
  refine aPf hs hf ?_ h
  have hm:∀d,d∈iA p -> d.ok:=hd.1
  have h1:=bX3 (fT:=aU) (fK:=bEr) p.globals λx hx=>VG.len9 (hm (.glob x) (by simp [iA,hx]))
  have h2:=bX3 (fT:=bE) (fK:=gT) p.mutexes λx hx=>VM.len9 (hm (.mtx x) (by simp [iA,hx]))
  have h3:=bX3 (fT:=funcText) (fK:=kA) p.funcs λx hx=>VF.len9 (hm (.fn x) (by simp [iA,hx]))
  simp only [iA,List.map_append,List.map_map,List.flatten_append,length_append] at h
  have e1:fF.toks ∘ fF.glob=bEr:=Y
  have e2:fF.toks ∘ fF.mtx=gT:=Y
  have e3:fF.toks ∘ fF.fn=kA:=Y
  rw [e1,e2,e3] at h
  unfold cR
  simp only [length_append];omega
 rw [decide_eq_false h]
 rcases Bool.eq_false_or_eq_true (jI p) with hv|hv
 ·have h6:=uR (iA p) hd.1 Lx.end
  rw [List.append_nil,List.append_nil,←wC] at h6
  rw [nX,hf,Bool.true_and] at hv
  exact absurd (aNe h6 hv).2 h
 exact hv
theorem dDy{g:ByteArray -> ByteArray}(hg:Sg g){p:cK}(hs:p.sane):jI (mP g g p)=jI p:=by
 rcases Bool.eq_false_or_eq_true (nY p) with hf|hf
 ·rw [dBf hs hf,dBf (dBo hg hs) (by rw [dDi hg];exact hf),dEp]
 rw [nX,nX,dDi hg,hf];rfl
theorem dAz{g:ByteArray -> ByteArray}(hg:Sg g){p:cK}(hs:p.sane):cFx (mP g g p)=cFx p:=by
 unfold cFx
 have hb:=dC6 hg (cFd p) []
 rw [List.map_nil] at hb
 rw [dDy hg hs,dA7,hb,dEb hg,show (mP g g p).funcs=p.funcs.map (mF g g) from rfl,dB9 hg]
end
section
def zzz:ByteArray:=⟨#[122,122,122]⟩
mutual
def gdE(Q:ByteArray -> Prop):aH -> Prop
 |.mk op _ name args=>(op=2 -> Q name) /\ cZ0 Q args
def cZ0(Q:ByteArray -> Prop):List aH -> Prop
 |[]=>True
 |e::l=>gdE Q e /\ cZ0 Q l
end
def gdR(Q:ByteArray -> Prop)(r:cY):Prop:=Q r.name /\ cZ0 Q r.index
def gdA(Q:ByteArray -> Prop)(a:eN):Prop:=gdR Q a.ref /\ gdE Q a.expr
mutual
def gdS(Q:ByteArray -> Prop):aJ -> Prop
 |.mk _ n e r a t f=>Q n /\ gdE Q e /\ gdR Q r /\ (∀x,x∈a -> gdA Q x) /\ cZs Q t /\ cZs Q f
def cZs(Q:ByteArray -> Prop):List aJ -> Prop
 |[]=>True
 |s::l=>gdS Q s /\ cZs Q l
end
structure gdP (Q R:ByteArray -> Prop) (p:cK):Prop where
 globals:∀x,x∈p.globals -> Q x.name
 mutexes:∀x,x∈p.mutexes -> Q x.name
 funcs:∀x,x∈p.funcs -> Q x.name /\ (∀y,y∈x.params -> R y.name) /\ cZs Q x.body
section
variable {Q:ByteArray -> Prop}
theorem dB5:∀{a b:List aJ},cZs Q a -> cZs Q b -> cZs Q (a++b)
 |[],b,_,h=>h
 |s::a,b,ha,h=>by rw [cZs] at ha;rw [List.cons_append,cZs];exact ⟨ha.1,dB5 ha.2 h⟩
end
end
end Go.Proofs.YtjgeihmhppadaaaGreatDoor
