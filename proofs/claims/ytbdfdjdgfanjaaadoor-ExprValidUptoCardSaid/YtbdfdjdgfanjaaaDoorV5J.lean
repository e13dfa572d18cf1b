import Derived.Test.YtbdfdjdgfanjaaaDoorV4J
import Derived.Test.YtbdfdjdgfanjaaaDoorV3J
import Derived.Test.YtbdfdjdgfanjaaaDoorV1J
import Derived.Deep.QuietTactic
import Derived.BigQuiet
import Derived.Test.YtbdfdjdgfanjaaaDoorV0J
set_option linter.all false
set_option synthInstance.maxHeartbeats 1000000
set_option synthInstance.maxSize 1000000
set_option maxHeartbeats 1600000
set_option maxRecDepth 100000
namespace Go.Proofs.YtbdfdjdgfanjaaaDoor
open Go.Proofs.Tryd
open List (length_append length_cons length_nil mem_append mem_cons not_mem_nil append_assoc getElem_mem take_of_length_le)
section
def bN.bind{α β:Type}(r:bN α)(f:α -> Nat -> bN β):bN β:=
 match r with
 |.ok x k=>f x k
 |.err a e=>.err a e
def dN(l:List Tok)(k:Nat)(s:List UInt8):Bool:=decide ((bU l k).kind=3) && decide ((bU l k).text=bytes s)
def bN.At{α:Type}(l:List Tok)(k:Nat):bN α -> Prop
 |.ok _ k'=>k <= k' /\ k'<l.length
 |.err a e=>k <= a /\ a<l.length /\ 0<e /\ e<16
theorem bN.In.at{α:Type}{l:List Tok}{k:Nat}{r:bN α}(h:r.In l k):r.At l k:=by
 cases r<;>unfold bN.In at h<;>unfold bN.At<;>omega
theorem bN.At.mono{α:Type}{l:List Tok}{k j:Nat}{r:bN α}(h:r.At l k)(hj:j <= k):r.At l j:=by
 cases r<;>unfold bN.At at h⊢<;>omega
theorem bN.At.in{α:Type}{l:List Tok}{k j:Nat}{r:bN α}(h:r.At l k)(hj:j<k):r.In l j:=by
 cases r<;>unfold bN.At at h<;>unfold bN.In<;>omega
theorem bN.In.bind{α β:Type}{l:List Tok}{k:Nat}{r:bN α}{f:α -> Nat -> bN β}(h:r.In l k)(hf:∀x k',k<k' -> k'<l.length -> (f x k').At l k'):(r.bind f).In l k:=by
 cases r with
 |ok x k'=>unfold bN.In at h;exact (hf x k' h.1 h.2).in h.1
 |err a e=>exact h
theorem bN.At.bind{α β:Type}{l:List Tok}{k:Nat}{r:bN α}{f:α -> Nat -> bN β}(h:r.At l k)(hf:∀x k',k <= k' -> k'<l.length -> (f x k').At l k'):(r.bind f).At l k:=by
 cases r with
 |ok x k'=>unfold bN.At at h;exact (hf x k' h.1 h.2).mono h.1
 |err a e=>exact h
section
variable {l:List Tok}(hl:rP l)
include hl
theorem eF{k:Nat}{s:List UInt8}(hk:k<l.length)(h:cS l k s=true):k+1<l.length:=hl.more hk (by rw [(mD h).1];decide)
section
variable {blk:Nat -> bN (List aJ)}(hb:∀k,k<l.length -> (blk k).In l k)
include hb
end
end
end
section
def Run{α:Type}(e0 k0:Nat)(r:bN α)(x:α)(k e:Nat):Prop:=
 (e0≠0 /\ k=k0 /\ e=e0)∨(e0=0 /\ ((r=.ok x k /\ e=0)∨(r=.err k e /\ e≠0)))
section
variable {α β:Type}{e0 k0 k k2 e e2:Nat}{r:bN α}{x:α}{y:β}
theorem Run.skip(h:e0≠0)(r:bN α)(x:α):Run e0 k0 r x k0 e0:=.inl ⟨h,rfl,rfl⟩
theorem Run.ok(x:α)(k0 k:Nat)(h:r=.ok x k):Run 0 k0 r x k 0:=.inr ⟨rfl,.inl ⟨h,rfl⟩⟩
theorem Run.err(x:α)(k0 k e:Nat)(h:r=.err k e)(he:e≠0):Run 0 k0 r x k e:=.inr ⟨rfl,.inr ⟨h,he⟩⟩
theorem Run.pure(x:α)(k e:Nat):Run e k (.ok x k) x k e:=by
 by_cases h:e=0
 ·subst h;exact .ok x k k rfl
 exact .skip h _ _
theorem Run.bind{f:α -> Nat -> bN β}(h:Run e0 k0 r x k e)(h2:Run e k (f x k) y k2 e2):Run e0 k0 (r.bind f) y k2 e2:=by
 rcases h with ⟨h0,rfl,rfl⟩|⟨rfl,⟨rfl,rfl⟩|⟨rfl,he⟩⟩
 ·rcases h2 with ⟨_,rfl,rfl⟩|⟨h3,_⟩
  ·exact .inl ⟨h0,rfl,rfl⟩
  exact absurd h3 h0
 ·rcases h2 with ⟨h3,_⟩|⟨_,h2⟩
  ·exact absurd rfl h3
  exact .inr ⟨rfl,h2⟩
 rcases h2 with ⟨_,rfl,rfl⟩|⟨h3,_⟩
 ·exact .inr ⟨rfl,.inr ⟨rfl,he⟩⟩
 exact absurd h3 he
theorem Run.map{f:α -> β}(h:Run e0 k0 r x k e):Run e0 k0 (r.bind fun x k=>.ok (f x) k) (f x) k e:=h.bind (Run.pure _ _ _)
theorem Run.from{k1:Nat}(h:Run 0 k1 r x k e):Run 0 k0 r x k e:=by
 rcases h with ⟨h0,_⟩|h
 ·exact absurd rfl h0
 exact .inr h
theorem Run.eq{r':bN α}(h:Run e0 k0 r x k e)(hr:e0=0 -> r=r'):Run e0 k0 r' x k e:=by
 rcases h with ⟨h0,h1,h2⟩|⟨h0,h⟩
 ·exact .inl ⟨h0,h1,h2⟩
 rw [hr h0] at h;exact .inr ⟨h0,h⟩
theorem Run.good(h:Run e0 k0 r x k e)(he:e=0):e0=0 /\ r=.ok x k:=by
 rcases h with ⟨h0,_,rfl⟩|⟨rfl,⟨rfl,rfl⟩|⟨rfl,h1⟩⟩
 ·exact absurd he h0
 ·exact ⟨rfl,rfl⟩
 exact absurd he h1
theorem Run.place{l:List Tok}(h:Run e0 k0 r x k e)(hk:k0<l.length)(hr:e0=0 -> r.At l k0):k0 <= k /\ k<l.length:=by
 rcases h with ⟨h0,rfl,rfl⟩|⟨rfl,⟨rfl,rfl⟩|⟨rfl,h1⟩⟩
 ·exact ⟨Nat.le_refl _,hk⟩
 ·exact hr rfl
 exact ⟨(hr rfl).1,(hr rfl).2.1⟩
end
def kX{α:Type}(e0 b0:Nat)(r:bN α)(x:α)(k b e:Nat):Prop:=
 (e0≠0 /\ b=b0 /\ e=e0)∨(e0=0 /\ ((r=.ok x k /\ e=0 /\ b=b0)∨(r=.err b e /\ e≠0)))
section
variable {α β:Type}{e0 b0 k k0 b k2 b2 e e2:Nat}{r:bN α}{x:α}{y:β}
theorem kX.skip(h:e0≠0)(r:bN α)(x:α)(k:Nat):kX e0 b0 r x k b0 e0:=.inl ⟨h,rfl,rfl⟩
theorem kX.ok(x:α)(k b0:Nat)(h:r=.ok x k):kX 0 b0 r x k b0 0:=.inr ⟨rfl,.inl ⟨h,rfl,rfl⟩⟩
theorem kX.err(x:α)(k b0 b e:Nat)(h:r=.err b e)(he:e≠0):kX 0 b0 r x k b e:=.inr ⟨rfl,.inr ⟨h,he⟩⟩
theorem kX.pure(x:α)(k b e:Nat):kX e b (.ok x k) x k b e:=by
 by_cases h:e=0
 ·subst h;exact .ok x k b rfl
 exact .skip h _ _ _
theorem kX.bind{f:α -> Nat -> bN β}(h:kX e0 b0 r x k b e)(h2:kX e b (f x k) y k2 b2 e2):kX e0 b0 (r.bind f) y k2 b2 e2:=by
 rcases h with ⟨h0,rfl,rfl⟩|⟨rfl,⟨rfl,rfl,rfl⟩|⟨rfl,he⟩⟩
 ·rcases h2 with ⟨_,rfl,rfl⟩|⟨h3,_⟩
  ·exact .inl ⟨h0,rfl,rfl⟩
  exact absurd h3 h0
 ·rcases h2 with ⟨h3,_⟩|⟨_,h2⟩
  ·exact absurd rfl h3
  exact .inr ⟨rfl,h2⟩
 rcases h2 with ⟨_,rfl,rfl⟩|⟨h3,_⟩
 ·exact .inr ⟨rfl,.inr ⟨rfl,he⟩⟩
 exact absurd h3 he
theorem kX.map{f:α -> β}(h:kX e0 b0 r x k b e):kX e0 b0 (r.bind fun x k=>.ok (f x) k) (f x) k b e:=h.bind (kX.pure _ _ _ _)
theorem kX.eq{r':bN α}(h:kX e0 b0 r x k b e)(hr:e0=0 -> r=r'):kX e0 b0 r' x k b e:=by
 rcases h with ⟨h0,h1,h2⟩|⟨h0,h⟩
 ·exact .inl ⟨h0,h1,h2⟩
 rw [hr h0] at h;exact .inr ⟨h0,h⟩
theorem kX.good(h:kX e0 b0 r x k b e)(he:e=0):e0=0 /\ r=.ok x k /\ b=b0:=by
 rcases h with ⟨h0,_,rfl⟩|⟨rfl,⟨rfl,rfl,rfl⟩|⟨rfl,h1⟩⟩
 ·exact absurd he h0
 ·exact ⟨rfl,rfl,rfl⟩
 exact absurd he h1
end
end
section
open Go.RowKit
section
variable {P:Program}{U T:List Nat}{o:Oper}{n d:Nat}{ts:List (Nat×AT)}{s:Sto}{K:AS -> Prop}{st:AS}
theorem aNq{x y:Operand}{tys:Array TypeId}{m k:Int}(r:Int)(ho:o.op=.call {callee:=.builtin .max,args:=#[x,y],argTypes:=tys})(hx:evA st x=some (.c (.val (.int .i64 m))))(hy:evA st y=some (.c (.val (.int .i64 k))))(hr:max m k=r):AY P U o st (.c (.val (.int .i64 r))):=
 fW rfl fun a w hs w'=>by
  subst hr
  simp only [execOp,ho,resolve,List.map_toArray,List.map_cons,List.map_nil,hs.val hx,hs.val hy]
  simp [go_sem,invoke,builtin]
theorem aL5{w:World}{a:Option Addr}{k cap z l h:Nat}{cs:List AC}(hr:Rep w (.sl k cs) (.slice a k cap))(h1:l <= h)(h2:h <= k):Rep w (.sl (h-l) ((cs.drop (l*z)).take ((h-l)*z))) (.slice (if cap=l then a else a.map (·.add (l*z))) (h-l) (cap-l)):=by
 cases hr with
 |sl _ _ us _ hra hl hh hcap=>
  obtain ⟨a',cap',he,hc,hcell⟩:=hra
  cases he
  have hR:fG w cs us:=⟨hl,hh⟩
  have hR2:=(hR.drop (l*z)).take ((h-l)*z)
  refine .sl _ _ ((us.drop (l*z)).take ((h-l)*z)) _ ⟨_,_,rfl,by omega,?_⟩ hR2.len hR2.at_ (fun _ _ _ h9=>by cases h9;have:=hcap _ _ _ rfl;omega)
  rcases hcell with h0|⟨b,off,rfl,hcell⟩
  ·left;subst h0;simp
  by_cases hcl:cap=l
  ·left
   have:h-l=0:=by omega
   rw [this];simp
  right
  rw [if_neg hcl]
  refine ⟨b,off+l*z,by simp [oU],fun j u hj=>?_⟩
  rw [List.getElem?_take] at hj
  split at hj
  ·rw [List.getElem?_drop] at hj;rw [Nat.add_assoc];exact hcell _ _ hj
  cases hj
theorem aI0{w:World}{k:Nat}{cs:List AC}{v:Value}(h:dO w (.c (.sl k cs)) v):∃a cap,v=.slice a k cap /\ k <= cap /\ Rep w (.sl k cs) (.slice a k cap):=by
 cases h with
 |c _ _ h=>cases h with
  |sl _ _ us _ hr hl hh hc=>obtain ⟨a,cap,rfl,hk,hx⟩:=hr;exact ⟨a,cap,rfl,hk,.sl _ _ us _ ⟨a,cap,rfl,hk,hx⟩ hl hh hc⟩
theorem aGm{t e:TypeId}{x y':Operand}{k h z:Nat}{k2:IntKind}{j:Int}{cs r:List AC}(ho:o.op=.slice t x none (some y') none)(hx:evA st x=some (.c (.sl k cs)))(hy':evA st y'=some (.c (.val (.int k2 j))))(hj:j=h)(h2:h <= k)
  (ht:P.underlying t=some (.slice (P.elem t))) (he:P.elem t=e) (hz:∀w,(sizeOf e).run P w=.ok z w) (hr:cs.take (h*z)=r):AY P U o st (.c (.sl h r)):=by
 intro a w hs _
 have hv:=hs.ev hx
 generalize hxe:a.eval x=v at hv
 obtain ⟨p,cap,rfl,hk,hrep⟩:=aI0 hv
 subst hr;subst hj;subst he
 have h9:=aL5 (z:=z) (l:=0) hrep (Nat.zero_le _) h2
 simp only [Nat.zero_mul,List.drop_zero,Nat.sub_zero] at h9
 refine ⟨_,.c _ _ h9,fun w' _=>?_⟩
 simp only [execOp,ho,hxe,hs.val hy',Option.map_some,Option.map_none]
 rw [Sem.run_bind,run_sliceAt_slice (h:=ht),run_slice_h (ht:=ht) (h0:=Int.natCast_nonneg h) (h2:=Int.ofNat_le.2 (Nat.le_trans h2 hk)),hz]
 simp [Result.andThen,go_sem,sliced]
theorem aDc{E E' e:TypeId}{x:Operand}{b:ByteArray}(ho:o.op=.convert E E' x)(hd:o.dst=some d)(hn:d<n)(hx:evA ⟨n,T,s,ts⟩ x=some (.c (.val (.string b))))(hE:P.underlying E=some .string)(hE':P.underlying E'=some (.slice e))(he:P.underlying e=some (.int .u8))(hb:b.size<9223372036854775808){N:Nat}{cs:List AC}(hN:b.size=N)(hcs:iF b.data.toList=cs)
  (h:K ⟨n,T,s,(d,.c (.sl N cs))::ts⟩):AO P U o ⟨n,T,s,ts⟩ K:=by
 subst hN;subst hcs
 intro a w hs KK QQ hK
 obtain ⟨C,hC⟩:∃C,C=grownCap w b.size 0 e:=⟨_,rfl⟩
 obtain ⟨g1,g2⟩:=grownCap_le w b.size e hb
 have hrun:(execOp a.eval o).run P w=.ok (.value (.slice (some ⟨w.heap.size,0,none⟩) b.size C)) (w.drew.alloc (.cells (bytesRow b C) e ((bytesRow b C).size,(bytesRow b C).size+1))):=by
  subst hC
  simp only [execOp,ho,Sem.run_bind,hs.val hx]
  rw [run_bytes_of_string w E E' e b hE hE' he];rfl
 rw [←hC] at g1 g2
 clear hC
 unfold Oper.wp
 rw [hrun,Oper.upon_value,hd]
 have hrow:=aAt w b C e g1 ((bytesRow b C).size,(bytesRow b C).size+1)
 generalize hw1:w.drew.alloc (.cells (bytesRow b C) e ((bytesRow b C).size,(bytesRow b C).size+1))=w1 at hrow
 have hk:cW [] w w1:=by rw [←hw1];exact (cW.refl _ _).drew.alloc _
 have hsz:w1.heap.size=w.heap.size+1:=by rw [←hw1];show (w.heap.push _).size=_;simp
 have hub:Up2 (bI s.bl w) (bI s.bl w1):=jA hk (fun _ h=>by cases h) (fun b h=>.inl h)
 obtain ⟨m1,m2⟩:=hs.mem.up hub (fun b hb=>hk.block b (hs.mem.lt b hb) (by simp))
 have hm:Mem s w1:=⟨hs.mem.nodup,fun b hb=>Nat.lt_of_lt_of_le (hs.mem.lt b hb) hk.size,m1,m2⟩
 have s1:=hs.step (w1:=w1) T (hk.mono (by simp)) hm (fun b hb=>.inl hb)
 have hrep:dO (bI s.bl w1) (.c (.sl b.size (iF b.data.toList))) (.slice (some ⟨w.heap.size,0,none⟩) b.size C):=by
  have hne:w.heap.size∉s.bl:=fun hm=>by have:w.heap.size<w.heap.size:=hs.mem.lt _ hm;omega
  have hR:=gU (bI s.bl w1) (cC b.data.toList) (fun u hu=>by obtain ⟨c,_,rfl⟩:=List.mem_map.1 hu;rfl)
  have e1:(cC b.data.toList).map AC.val=iF b.data.toList:=by simp [cC,iF]
  rw [e1] at hR
  refine .c _ _ (.sl _ _ (cC b.data.toList) _ ?_ hR.len hR.at_ (fun _ _ _ h=>by cases h;exact g2))
  obtain ⟨a',c',he',hc',hr'⟩:=hrow
  cases he'
  refine ⟨_,_,rfl,g1,?_⟩
  rcases hr' with h0|⟨b',off,hb',hr'⟩
  ·exact .inl h0
  cases hb'
  exact .inr ⟨_,_,rfl,fun j u hu=>by rw [eW _ _ _ hne];exact hr' j u hu⟩
 exact hK _ _ _ h (s1.put hn hrep) ⟨hk.mono (by simp),hk.mono (by simp),fun b hb=>.inl hb,fun b hb=>.inl hb⟩ (hk.mono (by simp))
abbrev aA2(t:AT)(m:Int):AT:=.fact (.fact t 2 0 (words.map fun x=>.val (.string x))) 5 0 [.val (.int .i64 m)]
theorem aBl{s:Sto}{w w':World}(hm:Mem s w)(hb:Below w.heap.size w w'):cW [] w w' /\ Mem s w':=by
 have hk:cW [] w w':=cW.of_below hb
 have hu:Up2 (bI s.bl w) (bI s.bl w'):=jA hk (fun _ h=>by cases h) (fun b h=>.inl h)
 obtain ⟨m1,m2⟩:=hm.up hu (fun b hb'=>hk.block b (hm.lt b hb') (by simp))
 exact ⟨hk,hm.nodup,fun b hb'=>Nat.lt_of_lt_of_le (hm.lt b hb') hk.size,m1,m2⟩
theorem aP3{F:FuncId}{ts:List AT}{us:List Value}{u:Value}(h1:u.oneCell'=true)(hts:ts=us.map fun u=>.c (.val u))(h:∀w,Calls P F us.toArray w fun e w'=>e=.returned u /\ w=w')(s:Sto):aL P F ts [] s fun r s'=>r=.c (.val u) /\ s'=s:=by
 intro vs w hm _ hl hr
 subst hts
 obtain rfl:vs=us:=by
  refine List.ext_getElem (by simpa using hl) fun i h1 h2=>?_
  have h3:=hr i (by simpa using h2) h1
  simp only [List.getElem_map] at h3
  exact h3.val
 exact (h w).mono fun e w' ⟨h2,h3⟩=>by subst h3;exact ⟨_,_,s,h2,⟨rfl,rfl⟩,.c _ _ (.val _ h1),hm,cW.refl _ _,fun b hb=>.inl hb⟩
theorem aLg{w:World}{l:List Int}{a:Option Addr}{cap:Nat}(h:dD w (.slice a l.length cap) l.length (l.map (.int .i64)))(hc:cap <= 9223372036854775807):dO (bI [] w) (.c (.sl l.length (l.map fun i=>.val (.int .i64 i)))) (.slice a l.length cap):=by
 have hid:∀a:Addr,(bI [] w).cell? a=w.cell? a:=fun a=>eW _ _ _ (by simp)
 have hR:=gU (bI [] w) (l.map (.int .i64)) (fun u hu=>by obtain ⟨c,_,rfl⟩:=List.mem_map.1 hu;rfl)
 rw [List.map_map] at hR
 exact .c _ _ (.sl _ _ _ _ (h.mono fun a u h=>by rw [hid];exact h) hR.len hR.at_ (fun _ _ _ h=>by cases h;exact hc))
theorem aJe{F:FuncId}{ts:List AT}{vs:List Value}{w:World}(h:aL P F ts [] ⟨[],[]⟩ fun r s'=>r=.c (.val (.bool true)) /\ s'=⟨[],[]⟩)(hl:vs.length=ts.length)(hv:∀i (h:i<ts.length) (h':i<vs.length),dO (bI [] w) ts[i] vs[i]):Calls P F vs.toArray w fun e w'=>e=.returned (.bool true) /\ Below w.heap.size w w':=by
 have hm:Mem ⟨[],[]⟩ w:=⟨List.nodup_nil,(fun b hb=>absurd hb (by simp [Sto.bl])),(fun x hx=>absurd hx (by simp)),(fun x hx=>absurd hx (by simp))⟩
 refine (h vs w hm (fun b hb=>absurd hb (by simp)) hl hv).mono fun e w' ⟨r,v',s',h1,⟨h2,h3⟩,h4,h5,h6,h7⟩=>?_
 subst h2;subst h3
 cases h4 with
 |c _ _ h4=>cases h4;exact ⟨h1,⟨h6.os,h6.tape,h6.output,h6.size,fun k hk=>h6.block k hk (by simp)⟩⟩
end
end
section
open Go.RowKit
theorem xF(x n:Int)(hn:0<n):-n<x.tmod n:=by
 by_cases hx:0 <= x
 ·have:=Int.tmod_nonneg n hx;omega
 have h1:=Int.tmod_lt_of_pos (-x) hn
 rw [Int.neg_tmod] at h1;omega
theorem aD5(x n:Int)(hn:0<n):(x.tmod n+n).tmod n=x%n:=by
 have h1:=Int.tmod_lt_of_pos x hn
 have h2:=xF x n hn
 rw [Int.tmod_eq_emod_of_nonneg (by omega),Int.add_emod_right]
 rw [Int.tmod_def]
 rw [show x-n*x.tdiv n=x+n*(-(x.tdiv n)) by rw [Int.mul_neg];omega,Int.add_mul_emod_self_left]
theorem aG9(x n:Int)(w:World)(hn:0<n)(hn2:n <= 4611686018427387904):
  Calls prog 14 #[.int .i64 x,.int .i64 n] w fun e w'=>e=.returned (.int .i64 (x%n)) /\ w=w':=by
 have h1:=Int.tmod_lt_of_pos x hn
 have h2:=xF x n hn
 have h3:=aD5 x n hn
 have h4:0 <= x%n:=Int.emod_nonneg x (by omega)
 have h5:x%n<n:=Int.emod_lt_of_pos x hn
 have hw1:IntKind.i64.wrap (x.tmod n)=x.tmod n:=IntWalk.i64_in _ (by omega)
 have hw2:IntKind.i64.wrap (x.tmod n+n)=x.tmod n+n:=IntWalk.i64_in _ (by omega)
 have hw3:IntKind.i64.wrap (x%n)=x%n:=IntWalk.i64_in _ (by omega)
 go_enter func14,Tryd.ntmps14
 go_wp2
 go_ret
 exact ⟨gG (by simp [h3]),rfl⟩
end
section
open Go.RowKit
theorem aNz(x n:Int)(hn:0<n)(hn2:n <= 4611686018427387904)(s:Sto):aL prog 14 [.c (.val (.int .i64 x)),.c (.val (.int .i64 n))] [] s fun r s'=>r=.c (.val (.int .i64 (x%n))) /\ s'=s:=
 aP3 rfl rfl (us:=[.int .i64 x,.int .i64 n]) (fun w=>aG9 x n w hn hn2) s
theorem eU{p:Prop}[Decidable p](h:p):some (decide p)=some true:=by rw [decide_eq_true h]
theorem eE{p:Prop}[Decidable p](h:¬p):some (decide p)=some false:=by rw [decide_eq_false h]
end
section
open Go.RowKit
abbrev SSt(A B:List Box)(rw:List bA)(S:Nat)(l:List Int)(i:Nat):Sto:=⟨A++⟨S,42,[.sl l.length (l.map fun i=>.val (.int .i64 i)),nC i]⟩::B,rw⟩
theorem aTv(l:List Int)(n:Nat)(s:Sto):aL prog 15 [.c (.sl l.length (l.map fun i=>.val (.int .i64 i))),nI n] [] s fun r s'=>r=.c (.sl (l.take n).length ((l.take n).map fun i=>.val (.int .i64 i))) /\ s'=s:=by
 obtain ⟨bx,rw⟩:=s
 refine acX 13 func15 ?_
 refine go 11 ?_
 by_cases hlt:n<l.length
 ·refine wcp true rfl (by first|exact eU (by omega)|(simp [bC]<;>omega)) (go 7 ?_)
  refine wyz rfl (aGm (h:=(l.take n).length) (z:=1) rfl rfl rfl (by rw [List.length_take];omega) (by rw [List.length_take];omega) (by kernel_rfl) (by kernel_rfl) sizeOf3 (by rw [List.length_take,Nat.min_eq_left (by omega),Nat.mul_one,←List.map_take])) (go 5 ?_)
  exact bHe (s':=⟨bx,rw⟩) rfl sb0 ⟨rfl,rfl⟩
 rw [take_of_length_le (l:=l) (i:=n) (by omega)]
 refine wcp false rfl (by first|exact eE (by omega)|(simp [bC]<;>omega)) (go 12 ?_)
 exact bHe (s':=⟨bx,rw⟩) rfl sb0 ⟨rfl,rfl⟩
theorem aC2(A B:List Box)(rw:List bA)(S:Nat)(l:List Int)(i0:Nat)(n:Int)(hi0:i0 <= l.length)(hl:l.length <= 1000000)(hn0:0<n)(hn1:n <= 4611686018427387904):aL prog 17 [pP S,.c (.val (.int .i64 n))] [S] (SSt A B rw S l i0) fun r s=>∃(z:Int) (i:Nat),r=.c (.val (.int .i64 z)) /\ 0 <= z /\ z<n /\ i <= l.length /\ s=SSt A B rw S l i:=by
 refine acX 35 func17 ?_
 refine go 7 ?_
 refine dx [S] (tz [(0,true),(1,true),(2,true),(3,true),(4,true),(5,true),(6,true),(7,true),(8,true)] 1 (go 10 ?_))
 refine tx 9 rfl (bO _ rfl rfl rfl rfl) ?_
 refine ax (go 1 ?_)
 refine gY rfl (fun hc1=>?_) (fun hc1=>?_)
 ·have hge:l.length <= i0:=by simpa using hc1
  refine go 7 ?_
  exact bHe (s':=SSt A B rw S l i0) rfl sb0 ⟨0,i0,rfl,by omega,hn0,hi0,rfl⟩
 have hlt:i0<l.length:=by simpa using hc1
 refine go 8 ?_
 refine wad rfl (go 6 ?_)
 refine dx [S] (tz [(0,true),(1,true),(2,true),(3,true),(4,true),(5,true),(6,true),(7,true)] 6 (go 9 ?_))
 refine tx 8 rfl (cI ((i0:Nat):Int) rfl rfl rfl (by omega) (by omega) (by omega)) ?_
 refine tx 9 rfl (rT (fun i=>.val (.int .i64 i)) l i0 rfl rfl rfl rfl hlt runUnderlying22 sizeOf3) (tz [(10,true),(11,true)] 2 (go 3 ?_))
 refine ox 12 rfl rfl (bD [] rfl rfl (by decide) call14 rfl (aNz _ _ hn0 hn1 _) bDl bDl (fun _=>bDl) ?_)
 rintro rj sj ⟨rfl,rfl⟩
 refine tz [(13,true)] 0 (go 2 ?_)
 refine ax (go 2 ?_)
 exact bHe (s':=SSt A B rw S l (i0+1)) rfl sb0 ⟨l[i0]%n,i0+1,rfl,Int.emod_nonneg _ (by omega),Int.emod_lt_of_pos _ hn0,hlt,rfl⟩
theorem vH(A B:List Box)(rw:List bA)(S:Nat)(l:List Int)(i0:Nat)(hi0:i0 <= l.length)(hl:l.length <= 1000000):aL prog 26 [pP S] [S] (SSt A B rw S l i0) fun r s=>∃(z:Int) (i:Nat),r=.c (.val (.int .i64 z)) /\ 0 <= z /\ z<4611686018427387904 /\ i <= l.length /\ s=SSt A B rw S l i:=by
 refine acX 10 func26 ?_
 refine go 9 ?_
 refine wo rfl (bD [S] rfl rfl (by decide) call17 rfl (aC2 A _ _ _ l i0 _ hi0 hl (by decide) (by decide)) (bDj (by simp)) (bDj (by simp [Sto.bl])) (fun _=>bDj (by simp)) ?_)
 rintro r1 s1 ⟨z1,i1,rfl,hz1,hy1,hi1,rfl⟩
 refine wyz rfl (bO _ rfl rfl rfl rfl) (go 2 ?_)
 refine gY rfl (fun hc1=>?_) (fun hc1=>?_)
 ·refine go 3 ?_
  refine wo rfl (bD [S] rfl rfl (by decide) call17 rfl (aC2 A _ _ _ l i1 _ hi1 hl (by decide) (by decide)) (bDj (by simp)) (bDj (by simp [Sto.bl])) (fun _=>bDj (by simp)) ?_)
  rintro r2 s2 ⟨z2,i2,rfl,hz2,hy2,hi2,rfl⟩
  refine go 5 ?_
  exact bHe (s':=SSt A B rw S l i2) rfl sb0 ⟨z2,i2,rfl,hz2,by omega,hi2,rfl⟩
 refine go 5 ?_
 refine wo rfl (bD [S] rfl rfl (by decide) call17 rfl (aC2 A _ _ _ l i1 _ hi1 hl (by decide) (by decide)) (bDj (by simp)) (bDj (by simp [Sto.bl])) (fun _=>bDj (by simp)) ?_)
 rintro r2 s2 ⟨z2,i2,rfl,hz2,hy2,hi2,rfl⟩
 refine go 4 ?_
 exact bHe (s':=SSt A B rw S l i2) rfl sb0 ⟨z2,i2,rfl,hz2,by omega,hi2,rfl⟩
end
section
inductive eT (names:List ByteArray):Nat -> aH -> Prop
 |name {d:Nat} {x:ByteArray} (h:x∈names):eT names d (.mk 2 0 x [])
 |num {d:Nat} {n:Int} (h0:0 <= n) (h1:n<4611686018427387904):eT names d (.mk 1 n aK [])
 |un {d:Nat} {op:Int} {e:aH} (ho:op=3∨op=4) (he:eT names d e):eT names (d+1) (.mk op 0 aK [e])
 |bin {d:Nat} {op:Int} {a b:aH} (h0:5 <= op) (h1:op <= 17) (ha:eT names d a) (hb:eT names d b):eT names (d+1) (.mk op 0 aK [a,b])
theorem eT.mono{names:List ByteArray}{d d':Nat}{e:aH}(h:eT names d e)(hd:d <= d'):eT names d' e:=by
 induction h generalizing d' with
 |name h=>exact .name h
 |num h0 h1=>exact .num h0 h1
 |@un d op e ho he ih=>
  obtain ⟨k,rfl⟩:∃k,d'=k+1:=⟨d'-1,by omega⟩
  exact .un ho (ih (by omega))
 |@bin d op a b h0 h1 ha hb iha ihb=>
  obtain ⟨k,rfl⟩:∃k,d'=k+1:=⟨d'-1,by omega⟩
  exact .bin h0 h1 (iha (by omega)) (ihb (by omega))
end
section
open Go.RowKit
instance (priority:=900) boxIn_appG{A0 R A B:List Box}{b:Nat}{T:TypeId}{cs:List AC}[h:lY R b A T cs B]:lY (A0++R) b (A0++A) T cs B:=⟨by rw [h.h,append_assoc]⟩
instance (priority:=1050) appL_app{A0 X ds r:List Box}[h:aDk X ds r]:aDk (A0++X) ds (A0++r):=⟨by rw [append_assoc,h.h]⟩
instance aS8:hP 1 1 2:=⟨rfl⟩
instance aSv:hP 1 2 3:=⟨rfl⟩
instance aSi:hP 1 3 4:=⟨rfl⟩
instance aTa:hP 1 4 5:=⟨rfl⟩
instance aTf:hP 1 5 6:=⟨rfl⟩
instance aS0:hP 2 1 3:=⟨rfl⟩
instance aSx:hP 2 2 4:=⟨rfl⟩
instance aTk:hP 2 3 5:=⟨rfl⟩
instance aT2:hP 2 4 6:=⟨rfl⟩
instance aRx:hP 2 5 7:=⟨rfl⟩
instance aTw:hP 3 1 4:=⟨rfl⟩
instance aSs:hP 3 2 5:=⟨rfl⟩
instance aSa:hP 3 3 6:=⟨rfl⟩
instance aS6:hP 3 4 7:=⟨rfl⟩
instance aRv:hP 3 5 8:=⟨rfl⟩
instance aR2:hP 4 1 5:=⟨rfl⟩
instance aSy:hP 4 2 6:=⟨rfl⟩
instance aR1:hP 4 3 7:=⟨rfl⟩
instance aSw:hP 4 4 8:=⟨rfl⟩
instance aTt:hP 4 5 9:=⟨rfl⟩
instance aSj:hP 5 1 6:=⟨rfl⟩
instance aSz:hP 5 2 7:=⟨rfl⟩
instance aTg:hP 5 3 8:=⟨rfl⟩
instance aR9:hP 5 4 9:=⟨rfl⟩
instance aTb:hP 5 5 10:=⟨rfl⟩
instance aS4:hP 6 1 7:=⟨rfl⟩
instance aT5:hP 6 2 8:=⟨rfl⟩
instance aSt:hP 6 3 9:=⟨rfl⟩
instance aS5:hP 6 4 10:=⟨rfl⟩
instance aSl:hP 6 5 11:=⟨rfl⟩
instance aSu:hP 7 1 8:=⟨rfl⟩
instance aTz:hP 7 2 9:=⟨rfl⟩
instance aTl:hP 7 3 10:=⟨rfl⟩
instance aS3:hP 7 4 11:=⟨rfl⟩
instance aR7:hP 7 5 12:=⟨rfl⟩
instance aR6:hP 8 1 9:=⟨rfl⟩
instance aTy:hP 8 2 10:=⟨rfl⟩
instance aS2:hP 8 3 11:=⟨rfl⟩
instance aR5:hP 8 4 12:=⟨rfl⟩
instance aSe:hP 8 5 13:=⟨rfl⟩
theorem kV{P:Program}{U:List Nat}{o:Oper}{st:AS}{x:Operand}{t e E:TypeId}{v:Value}{z n:Nat}{cs:List AC}(A:List bA){B:List bA}(ho:o.op=.call {callee:=.builtin .len,args:=#[x],argTypes:=#[t]})(hx:evA st x=some (.c (.val v)))(hrow:st.s.rows=A++⟨v,E,z,n,cs⟩::B)(hu:∀w,(underlying t).run P w=.ok (.slice e) w)(hz:0<z:=by decide):AY P U o st (.c (.val (.int .i64 n))):=
 fW rfl fun a w hs w'=>by
  obtain ⟨us,hownR,-⟩:=hs.mem.row ⟨v,E,z,n,cs⟩ (by rw [hrow];simp)
  have hown:=hownR.row hz
  have hv:∃p c,v=.slice p n c:=by
   rcases hown.2 with ⟨h1,h2⟩|⟨g,cap,cur,h1,-⟩
   ·dsimp only at h1 h2;subst h2;exact ⟨_,_,h1⟩
   exact ⟨_,_,h1⟩
  obtain ⟨p,c,rfl⟩:=hv
  simp only [execOp,ho,resolve,List.map_toArray,List.map_cons,List.map_nil,hs.val hx]
  simp [go_sem,invoke,builtin,Builtin.len_,hu,goInt]
class aL0 (bx:List Box) (Z:List Nat):Prop where h:∀z,z∈Z -> z∈bx.map Box.b
instance aTn{bx:List Box}:aL0 bx []:=⟨by simp⟩
instance aRr{bx:List Box}{z:Nat}{Z:List Nat}[h1:BIn bx z][h2:aL0 bx Z]:aL0 bx (z::Z):=⟨fun y hy=>by rcases mem_cons.1 hy with rfl|h;exact h1.h;exact h2.h _ h⟩
theorem qW{bx:List Box}{rw:List bA}{Z:List Nat}{v:Value}{E:TypeId}{z n b:Nat}{cs:List AC}[h1:aL0 bx Z](hn:(⟨bx,⟨v,E,z,n,cs⟩::rw⟩:Sto).bl.Nodup)(hb:b∈aY v):b∈lM ⟨bx,⟨v,E,z,n,cs⟩::rw⟩ Z:=by
 have h3:b∈(⟨v,E,z,n,cs⟩::rw:List bA).flatMap fun r=>aY r.v:=by simp [hb]
 refine kH.2 ⟨List.mem_append_right _ h3,fun hz=>?_⟩
 exact (List.nodup_append.1 hn).2.2 b (h1.h b hz) b h3 rfl
theorem aE1{P:Program}{ops:Array Oper}{n:Nat}{T:List Nat}{bx:List Box}{rw:List bA}{ts:List (Nat×AT)}{Q:Exit -> AS -> Prop}{l:List Oper}(i:Nat){v:Value}{E:TypeId}{z k:Nat}{cs:List AC}(hi:look ts i=some (.c (.val v)))(h:eQ P ops l ⟨n,T,⟨bx,rw⟩,(i,.c (.sl k cs))::ts⟩ Q)(hz:0<z:=by decide):eQ P ops l ⟨n,T,⟨bx,⟨v,E,z,k,cs⟩::rw⟩,ts⟩ Q:=
 uQ (yS (st:=⟨n,T,⟨bx,⟨v,E,z,k,cs⟩::rw⟩,ts⟩) (A:=[]) i hi rfl hz) h
end
section
open Go.RowKit
section
variable {P:Program}{ops:Array Oper}{U T:List Nat}{o:Oper}{n d:Nat}{bx:List Box}{rw:List bA}{ts:List (Nat×AT)}{Q:Exit -> AS -> Prop}{l:List Oper}{K:AS -> Prop}{st:AS}{t:AT}
theorem rV{s:Sto}{w:World}(hm:Mem s w){r:bA}(hr:r∈s.rows)(hn:0<r.n)(hz:0<r.z):∃g cap,r.v=.slice (some ⟨g,0,none⟩) r.n cap:=by
 obtain ⟨us,h0,-⟩:=hm.row r hr
 obtain ⟨h1,h2⟩:=h0.row hz
 rcases h2 with ⟨-,h2⟩|⟨g,cap,cur,h2,-⟩
 ·omega
 exact ⟨g,cap,h2⟩
theorem aF1(A:List bA){B:List bA}{v:Value}{E:TypeId}{z k:Nat}{cs:List AC}(hk:0<k)(h:∀g cap,v=.slice (some ⟨g,0,none⟩) k cap -> eQ P ops l ⟨n,T,⟨bx,A++⟨v,E,z,k,cs⟩::B⟩,ts⟩ Q)(hz:0<z:=by decide):eQ P ops l ⟨n,T,⟨bx,A++⟨v,E,z,k,cs⟩::B⟩,ts⟩ Q:=fun a w hs QQ hQ=>by
 obtain ⟨g,cap,hv⟩:=rV hs.mem (r:=⟨v,E,z,k,cs⟩) (by simp) hk hz
 exact h g cap hv a w hs QQ hQ
theorem aTr{E e:TypeId}{z:Nat}(ho:o.op=.buildSlice E 0 #[])(hd:o.dst=some d)(hn:d<n)(hu:P.underlying E=some (.slice e))(hS:∀w,(sizeOf e).run P w=.ok z w)
  (h:∀g,K ⟨n,g::T,⟨bx,⟨.slice (some ⟨g,0,none⟩) 0 0,e,z,0,[]⟩::rw⟩,(d,.c (.val (.slice (some ⟨g,0,none⟩) 0 0)))::ts⟩):AO P U o ⟨n,T,⟨bx,rw⟩,ts⟩ K:=by
 intro a w hs KK QQ hK
 unfold Oper.wp
 have hrun:(execOp a.eval o).run P w=.ok (.value (.slice (some ⟨w.heap.size,0,none⟩) 0 0)) (w.alloc (.cells #[] e)):=by
  have h1:(underlying E).run P w=.ok (.slice e) w:=run_underlying hu w
  have h2:(sizeOf e).run P w=.ok z w:=hS w
  simp only [execOp,ho,Instr.buildSlice,Sem.run_bind,h1,Result.andThen_ok,h2,Nat.zero_mul]
  simp [go_sem,Instr.fill,newRow]
 rw [hrun,Oper.upon_value,hd]
 have hk:cW [] w (w.alloc (.cells #[] e)):=(cW.refl _ _).alloc _
 have hne:w.heap.size∉(⟨bx,rw⟩:Sto).bl:=fun hm=>by have h9:w.heap.size<w.heap.size:=hs.mem.lt _ hm;omega
 have hbl:(⟨bx,⟨.slice (some ⟨w.heap.size,0,none⟩) 0 0,e,z,0,[]⟩::rw⟩:Sto).bl=bx.map Box.b++w.heap.size::rw.flatMap fun r=>aY r.v:=by unfold Sto.bl;simp [aY,Value.ownBlock]
 have hsub:∀b,b∈(⟨bx,⟨.slice (some ⟨w.heap.size,0,none⟩) 0 0,e,z,0,[]⟩::rw⟩:Sto).bl -> b∈(⟨bx,rw⟩:Sto).bl∨w.heap.size <= b:=fun b hb=>by
  rw [hbl] at hb
  simp only [mem_append,mem_cons] at hb
  rcases hb with h|rfl|h
  ·exact .inl (List.mem_append_left _ h)
  ·exact .inr (Nat.le_refl _)
  exact .inl (List.mem_append_right _ h)
 have hup:Up2 (bI (⟨bx,rw⟩:Sto).bl w) (bI (⟨bx,⟨.slice (some ⟨w.heap.size,0,none⟩) 0 0,e,z,0,[]⟩::rw⟩:Sto).bl (w.alloc (.cells #[] e))):=jA hk (fun _ h=>by cases h) hsub
 have hsz:(w.alloc (.cells #[] e)).heap.size=w.heap.size+1:=by simp
 have hm:Mem ⟨bx,⟨.slice (some ⟨w.heap.size,0,none⟩) 0 0,e,z,0,[]⟩::rw⟩ (w.alloc (.cells #[] e)):=by
  refine ⟨?_,fun b hb=>?_,fun x hx=>?_,fun r hr=>?_⟩
  ·rw [hbl]
   have hnd:(bx.map Box.b++rw.flatMap fun r=>aY r.v).Nodup:=hs.mem.nodup
   rw [List.nodup_append] at hnd⊢
   refine ⟨hnd.1,List.nodup_cons.2 ⟨fun h=>hne (List.mem_append_right _ h),hnd.2.1⟩,fun a ha b hb=>?_⟩
   rcases mem_cons.1 hb with rfl|hb
   ·intro he;subst he;exact hne (List.mem_append_left _ ha)
   exact hnd.2.2 a ha b hb
  ·rw [hbl] at hb
   simp only [mem_append,mem_cons] at hb
   rw [hsz]
   rcases hb with h|rfl|h
   ·exact Nat.lt_succ_of_lt (hs.mem.lt b (List.mem_append_left _ h))
   ·exact Nat.lt_succ_self _
   exact Nat.lt_succ_of_lt (hs.mem.lt b (List.mem_append_right _ h))
  ·obtain ⟨us,e1,e2⟩:=hs.mem.box x hx
   exact ⟨us,by rw [hk.block _ (hs.mem.lt _ (List.mem_append_left _ (List.mem_map.2 ⟨x,hx,rfl⟩))) (by simp)];exact e1,e2.mono hup⟩
  rcases mem_cons.1 hr with rfl|hr
  ·refine ⟨[],.inl ⟨by simp,.inr ⟨w.heap.size,0,#[],rfl,Nat.zero_le _,?_,Nat.le_refl _,Nat.zero_le _,by simp,by simp⟩⟩,.nil _⟩
   show (w.heap.push _)[w.heap.size]?=_
   simp
  obtain ⟨us,e1,e2⟩:=hs.mem.row r hr
  exact ⟨us,e1.keep fun g hg=>hk.block g (hs.mem.lt g (List.mem_append_right _ (List.mem_flatMap.2 ⟨r,hr,hg⟩))) (by simp),e2.mono hup⟩
 have s1:=hs.step (st:=⟨n,T,⟨bx,rw⟩,ts⟩) (w.heap.size::T) (hk.mono (by simp)) hm hsub
 refine hK _ _ _ (h _) (s1.put (v:=.slice (some ⟨w.heap.size,0,none⟩) 0 0) hn (.c _ _ (.val _ rfl))) ⟨hk.mono (by simp),hk.mono (by simp),hsub,fun b hb=>?_⟩ (hk.mono (by simp))
 rcases mem_cons.1 hb with rfl|hb
 ·exact .inr (Nat.le_refl _)
 exact .inl hb
end
end
section
mutual
def aH.nodes:aH -> Nat
 |.mk _ _ _ args=>1+cZ args
def cZ:List aH -> Nat
 |[]=>0
 |e::es=>1+e.nodes+cZ es
end
theorem nM:∀(l:List aH)(k:Nat)(h:k<l.length),l[k].nodes<cZ l
 |[],k,h=>by simp at h
 |e::es,0,h=>by rw [cZ];simp;omega
 |e::es,k+1,h=>by have:=nM es k (by simpa using h);rw [cZ];simp;omega
theorem tN:∀(l:List aH),l.length <= cZ l
 |[]=>by simp
 |e::es=>by have:=tN es;rw [cZ];simp;omega
end
section
open Go.RowKit
theorem pZ(k:Nat):cO k=(if k/10=0 then [] else cO (k/10))++[UInt8.ofNat (48+k%10)]:=by
 conv=>lhs;rw [cO]
 by_cases h:k<10
 ·rw [if_pos h,if_pos (by omega),show k%10=k by omega];rfl
 rw [if_neg h,if_neg (by omega)]
theorem aGa(m:Nat):∀n,n<10 ^ m -> 0<m -> (cO n).length <= m:=by
 induction m with
 |zero=>intro n _ h;omega
 |succ m ih=>
  intro n hn _
  rw [pZ]
  by_cases h:n/10=0
  ·rw [if_pos h];simp
  rw [if_neg h,length_append]
  have h1:n/10<10 ^ m:=by rw [Nat.pow_succ] at hn;omega
  have hm:0<m:=by
   rcases Nat.eq_zero_or_pos m with rfl|h2
   ·simp at h1;omega
   exact h2
  have:=ih (n/10) h1 hm
  simp;omega
theorem kC(n:Nat)(hn:n<18446744073709551616):(cO n).length <= 20:=
 aGa 20 n (Nat.lt_trans hn (by decide)) (by omega)
end
section
theorem aI4{c:Prop}[Decidable c]{l r:List UInt8}{n:Nat}(h1:l.length <= n)(h2:r.length <= n):(if c then l else r).length <= n:=by
 by_cases h:c
 ·rw [if_pos h];exact h1
 rw [if_neg h];exact h2
theorem aAr(op:Int):(iW op).length <= 2:=by
 unfold iW
 repeat' (with_reducible apply aI4)
 all_goals decide
end
section
def zJ(n:Nat)(l:List UInt8):Nat:=l.foldl (fun n c=>10*n+(c.toNat-48)) n
theorem aEo(n:Nat):zJ n []=n:=rfl
theorem vY(n:Nat)(c:UInt8)(r:List UInt8):zJ n (c::r)=zJ (10*n+(c.toNat-48)) r:=by unfold zJ;rw [List.foldl_cons]
theorem aJ4(l:List UInt8)(c:UInt8)(n:Nat):zJ n (l++[c])=10*zJ n l+(c.toNat-48):=by
 unfold zJ;rw [List.foldl_append];rfl
theorem aEy(k:Nat):cD (UInt8.ofNat (48+k%10))=true:=by
 have hc:(UInt8.ofNat (48+k%10)).toNat=48+k%10:=by rw [UInt8.toNat_ofNat'];omega
 simp only [cD,decide_eq_true_eq,hc];omega
theorem aOv(l:List UInt8):∀n,n <= zJ n l:=by
 induction l with
 |nil=>intro n;exact Nat.le_refl _
 |cons c r ih=>intro n;have:=ih (10*n+(c.toNat-48));rw [vY];omega
theorem aK8(l:List UInt8)(h:∀c∈l,cD c=true):∀n,n <= 9223372036854775807 -> iT n l=if zJ n l <= 9223372036854775807 then some (zJ n l) else none:=by
 induction l with
 |nil=>intro n hn;rw [iT,aEo,if_pos hn]
 |cons c r ih=>
  intro n hn
  have hc:=h c (List.mem_cons_self ..)
  simp only [cD,decide_eq_true_eq] at hc
  rw [iT,vY]
  by_cases ho:(9223372036854775807-(c.toNat-48))/10<n
  ·rw [if_pos ho]
   have:=aOv r (10*n+(c.toNat-48))
   rw [if_neg (by omega)]
  rw [if_neg ho,ih (fun d hd=>h d (List.mem_cons_of_mem _ hd)) _ (by omega)]
theorem aKo(c:UInt8)(h:cD c=true):fU c=false /\ isSp c=false /\ c≠47:=by
 simp only [cD,decide_eq_true_eq] at h
 refine ⟨?_,?_,?_⟩
 ·simp only [fU,decide_eq_false_iff_not];omega
 ·simp only [isSp,decide_eq_false_iff_not];omega
 rintro rfl;revert h;decide
end
section
structure PT where
 kind:Nat
 text:ByteArray
 num:Nat
def Tok.pt(t:Tok):PT:=⟨t.kind,t.text,t.num⟩
def sgn(s:List UInt8):PT:=⟨4,bytes s,0⟩
def wrd(s:List UInt8):PT:=⟨3,bytes s,0⟩
inductive Lx:List UInt8 -> List PT -> Prop where
 |nil {s:List UInt8} (h:eY s=[]):Lx s []
 |cons {s r:List UInt8} {kind len num:Nat} {ps:List PT} (h:eY s=r) (h0:r≠[]) (hn:dQ r=.tok kind len num) (ht:Lx (r.drop len) ps):Lx s (⟨kind,bytes (r.take len),num⟩::ps)
theorem Lx.same{s s':List UInt8}{ps:List PT}(h:Lx s ps)(he:eY s'=eY s):Lx s' ps:=by
 cases h with
 |nil h=>exact .nil (he.trans h)
 |cons h h0 hn ht=>exact .cons (he.trans h) h0 hn ht
theorem Lx.sp{c:UInt8}{r:List UInt8}{ps:List PT}(h:Lx r ps)(hc:isSp c=true):Lx (c::r) ps:=h.same (oP hc)
theorem Lx.bl{r:List UInt8}{ps:List PT}(h:Lx r ps):Lx (32::r) ps:=h.sp (by decide)
theorem Lx.end:Lx [] []:=.nil lO
def uL(r:List UInt8):Prop:=∀c,r.head?=some c -> cT c=false
theorem tB{p:UInt8 -> Bool}{l r:List UInt8}(h:∀c∈l,p c=true)(hr:∀c,r.head?=some c -> p c=false):(l++r).takeWhile p=l:=by
 induction l with
 |nil=>
  cases r with
  |nil=>rfl
  |cons c r=>rw [List.nil_append,List.takeWhile_cons_of_neg];rw [hr c rfl];simp
 |cons c l ih=>rw [List.cons_append,List.takeWhile_cons_of_pos (h c (List.mem_cons_self ..)),ih fun d hd=>h d (List.mem_cons_of_mem _ hd)]
theorem aCe{c:UInt8}(h:fU c=true):isSp c=false /\ c≠47:=by
 simp only [fU,decide_eq_true_eq] at h
 refine ⟨?_,?_⟩
 ·simp only [isSp,decide_eq_false_iff_not];omega
 rintro rfl;revert h;decide
theorem Lx.letters{s r:List UInt8}{ps:List PT}(h:Lx r ps)(c:UInt8)(q:List UInt8)(hs:s=c::q)(hc:fU c=true)(hq:∀d∈q,cT d=true)(hl:s.length <= 16)(hr:uL r):Lx (s++r) (⟨if dA (bytes s) then 3 else 1,bytes s,0⟩::ps):=by
 subst hs
 have ht:((c::q)++r).takeWhile cT=c::q:=tB (fun d hd=>by
  rcases mem_cons.1 hd with rfl|hd
  ·simp [cT,hc]
  exact hq d hd) hr
 have hn:dQ ((c::q)++r)=.tok (if dA (bytes (c::q)) then 3 else 1) (c::q).length 0:=by
  rw [List.cons_append] at ht⊢
  rw [kK hc,ht,if_neg (by omega)]
 have:=Lx.cons (s:=(c::q)++r) (r:=(c::q)++r) (iK (r:=q++r) (aCe hc).1 (fun h=>(aCe hc).2 h.1)) (by simp) hn (ps:=ps) (by rw [List.drop_left];exact h)
 rw [List.take_left] at this
 exact this
theorem aK4(s:ByteArray):bytes s.data.toList=s:=by simp [bytes]
theorem Lx.name{r:List UInt8}{ps:List PT}(h:Lx r ps)(s:ByteArray)(hs:bQ s=true)(hr:uL r):Lx (s.data.toList++r) (⟨1,s,0⟩::ps):=by
 unfold bQ at hs
 split at hs
 ·cases hs
 rename_i c q he
 simp only [Bool.and_eq_true,List.all_eq_true,decide_eq_true_eq,Bool.not_eq_true'] at hs
 obtain ⟨⟨⟨h1,h2⟩,h3⟩,h4⟩:=hs
 have:=h.letters (s:=s.data.toList) c q he h1 h2 (by exact h3) hr
 rw [aK4,h4] at this
 exact this
theorem zI(n:Nat):∀c∈cO n,cD c=true:=by
 induction n using cO.induct with
 |case1 n h=>
  rw [cO,if_pos h]
  intro c hc
  simp only [List.mem_singleton] at hc
  subst hc
  have:=aEy n
  rwa [Nat.mod_eq_of_lt h] at this
 |case2 n h ih=>
  rw [cO,if_neg h]
  intro c hc
  rcases mem_append.1 hc with hc|hc
  ·exact ih c hc
  simp only [List.mem_singleton] at hc;subst hc;exact aEy n
theorem aBi(n:Nat):cO n≠[]:=by rw [cO];split<;>simp
theorem aGk(n:Nat):zJ 0 (cO n)=n:=by
 induction n using cO.induct with
 |case1 n h=>
  have hc:(UInt8.ofNat (48+n)).toNat=48+n:=by rw [UInt8.toNat_ofNat'];omega
  rw [cO,if_pos h,vY,aEo,hc];omega
 |case2 n h ih=>
  have hc:(UInt8.ofNat (48+n%10)).toNat=48+n%10:=by rw [UInt8.toNat_ofNat'];omega
  rw [cO,if_neg h,aJ4,ih,hc];omega
theorem Lx.num{r:List UInt8}{ps:List PT}(h:Lx r ps)(n:Nat)(hn:n <= 9223372036854775807)(hr:uL r):Lx (cO n++r) (⟨2,bytes (cO n),n⟩::ps):=by
 obtain ⟨c,q,he⟩:=List.exists_cons_of_ne_nil (aBi n)
 have hd:=zI n
 have hv:=aK8 (cO n) hd 0 (by omega)
 rw [aGk,if_pos hn] at hv
 have ht:(cO n++r).takeWhile cD=cO n:=tB hd fun c hc=>by
  have:=hr c hc
  unfold cT at this
  simp only [Bool.or_eq_false_iff] at this
  exact this.2
 have hc:=hd c (by rw [he];exact List.mem_cons_self ..)
 have hx:=aKo c hc
 have hnx:dQ (cO n++r)=.tok 2 (cO n).length n:=by
  rw [he,List.cons_append] at ht⊢
  rw [lP hx.1 hc (n:=n) (by rw [ht,←he];exact hv),ht]
 have:=Lx.cons (s:=cO n++r) (r:=cO n++r) (by rw [he];exact iK (r:=q++r) hx.2.1 (fun h=>hx.2.2 h.1)) (by rw [he];simp) hnx (ps:=ps) (by rw [List.drop_left];exact h)
 rw [List.take_left] at this
 exact this
theorem aEc:∀c,c∈dW -> fU c=false /\ cD c=false /\ isSp c=false:=by decide
theorem Lx.one{r:List UInt8}{ps:List PT}(h:Lx r ps)(c:UInt8)(hc:c∈dW)(hr:∀d,r.head?=some d -> [c,d]∉fE /\ ¬(c=47 /\ d=47)):Lx (c::r) (sgn [c]::ps):=by
 obtain ⟨h1,h2,h3⟩:=aEc c hc
 have hno:¬(2 <= (c::r).length /\ (c::r).take 2∈fE):=by
  rintro ⟨h4,h5⟩
  cases r with
  |nil=>simp at h4
  |cons d r=>exact (hr d rfl).1 h5
 have hn:dQ (c::r)=.tok 4 1 0:=by rw [iN h1 h2,oR hno hc];rfl
 exact Lx.cons (iK h3 (fun ⟨h4,h5⟩=>(hr 47 h5).2 ⟨h4,rfl⟩)) (by simp) hn h
theorem aJw:∀x,x∈fE -> fU (x.headD 0)=false /\ cD (x.headD 0)=false /\ isSp (x.headD 0)=false /\ x.headD 0≠47:=by decide
theorem Lx.two{r:List UInt8}{ps:List PT}(h:Lx r ps)(c d:UInt8)(hc:[c,d]∈fE):Lx (c::d::r) (sgn [c,d]::ps):=by
 obtain ⟨h1,h2,h3,h4⟩:=aJw _ hc
 have hn:dQ (c::d::r)=.tok 4 2 0:=by rw [iN (c:=c) h1 h2,pA (l:=c::d::r) (by simp) hc];rfl
 exact Lx.cons (iK h3 (fun h5=>h4 h5.1)) (by simp) hn h
def Fin(r:List UInt8):Prop:=∀c,r.head?=some c -> c∈([32,41,93,59,44]:List UInt8)
theorem Fin.cons{c:UInt8}{r:List UInt8}(h:c∈([32,41,93,59,44]:List UInt8)):Fin (c::r):=fun d hd=>by cases hd;exact h
theorem Fin.nil:Fin []:=fun c hc=>by cases hc
theorem uL.cons{c:UInt8}{r:List UInt8}(h:cT c=false):uL (c::r):=fun d hd=>by cases hd;exact h
theorem aL9:∀c,c∈([40,41,123,125,91,93,44,59,43,45,42,37]:List UInt8) -> c∈dW /\ c≠47 /\ ∀x,x∈fE -> x.headD 0≠c:=by decide
theorem Lx.free{r:List UInt8}{ps:List PT}(h:Lx r ps)(c:UInt8)(hc:c∈([40,41,123,125,91,93,44,59,43,45,42,37]:List UInt8)):Lx (c::r) (sgn [c]::ps):=by
 obtain ⟨h1,h2,h3⟩:=aL9 c hc
 exact h.one c h1 fun d _=>⟨fun hm=>h3 _ hm rfl,fun h4=>h2 h4.1⟩
end
end Go.Proofs.YtbdfdjdgfanjaaaDoor
