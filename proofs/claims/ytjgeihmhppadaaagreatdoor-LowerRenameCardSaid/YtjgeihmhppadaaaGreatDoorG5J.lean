import Derived.Test.YtjgeihmhppadaaaGreatDoorG4J
import Derived.BigQuiet
import Derived.Lib.SlBytesConst
set_option linter.all false
set_option synthInstance.maxHeartbeats 1000000
set_option synthInstance.maxSize 1000000
set_option maxHeartbeats 1600000
set_option maxRecDepth 100000
namespace Go.Proofs.YtjgeihmhppadaaaGreatDoor
open Go.Proofs.Tryz
open List (length_append length_cons length_nil mem_append mem_cons not_mem_nil append_assoc getElem_mem take_of_length_le)
section
open Go.RowKit
theorem mC(s:List UInt8)(k0:Nat)(z:Int)(hz:z=k0)(a:Option Addr)(cap:Nat)(w:World)(hr:cC s=[]∨∃b off,a=some ⟨b,off,none⟩ /\ ∀j u,(cC s)[j]?=some u -> w.cell? ⟨b,off+j,none⟩=some u)(hc:s.length <= cap)(hs:s.length <= 1000000)(hk:k0 <= s.length):
  Calls prog 80 #[.slice a s.length cap,.int .i64 z] w λe w'=>e=.returned (.int .i64 (bF s k0)) /\ w=w':=by
 subst hz;exact aK0 s k0 _ w ⟨a,cap,rfl,hc,hr⟩ hs hk
theorem cZz{s:List UInt8}{k p kind len num:Nat}{toks:List Tok}(HP:p=bF s k)(hk:k <= s.length)(hlt:p<s.length)(hN:dQ (s.drop p)=.tok kind len num)(hn:toks.length≠4000)(HLX:kD s 0 0=fX.app toks (kD s k toks.length)):
  kD s 0 0=fX.app (toks++[⟨kind,bytes ((s.drop p).take len),num,p⟩]) (kD s (p+len) (toks++[(⟨kind,bytes ((s.drop p).take len),num,p⟩:Tok)]).length):=by
 subst HP;rw [HLX,nD hk hlt hN hn,fX.app_cons];simp
theorem nV{s:List UInt8}{k p kind len num:Nat}{toks:List Tok}(hs:s.length <= 262144)(HP:p=bF s k)(hlt:p<s.length)(hN:dQ (s.drop p)=.tok kind len num)(hn:toks.length=4000)(HLX:kD s 0 0=fX.app toks (kD s k toks.length)):iH s=.err p 3:=by
 subst HP;unfold iH;rw [if_neg J,HLX,hn,sG hlt hN];rfl
theorem rD{s:List UInt8}{k p e:Nat}{toks:List Tok}(hs:s.length <= 262144)(HP:p=bF s k)(hlt:p<s.length)(hN:dQ (s.drop p)=.err e)(HLX:kD s 0 0=fX.app toks (kD s k toks.length)):iH s=.err p e:=by
 subst HP;unfold iH;rw [if_neg J,HLX,uY hlt hN];rfl
theorem mO{l:List UInt8}(h:dA (bytes l)=true):l.length <= 16:=by
 rw [cZx] at h
 have hall:∀x∈words,x.data.toList.length <= 16:=V
 have:=hall _ h
 rw [jR] at this;exact this
theorem dAb{w:World}{a:Addr}{u:Value}{b o:Nat}(h:b≠a.block):(w.setCell a u).cell? ⟨b,o,none⟩=w.cell? ⟨b,o,none⟩:=
 World.cell?_of_block (a:=⟨b,o,none⟩) (Below.heap_setCell w a u b h)
theorem pH{s:List UInt8}{b off:Nat}{w:World}(hr:∀j u,(cC s)[j]?=some u -> w.cell? ⟨b,off+j,none⟩=some u)(p len cap:Nat)(hpl:p+len <= s.length)(hcl:len <= cap /\ s.length <= 1000000)(hd:∀c∈(s.drop p).take len,cD c=true)(w':World)(hw:∀o,w'.cell? ⟨b,o,none⟩=w.cell? ⟨b,o,none⟩):
  Calls prog 84 #[.slice (some ⟨b,off+p,none⟩) len cap] w' λe w''=>e=.returned (.int .i64 (xU ((s.drop p).take len))) /\ w'=w'':=by
 have hl:((s.drop p).take len).length=len:=EM
 refine aFd ((s.drop p).take len) _ w' ⟨_,cap,by rw [hl],by rw [hl];exact hcl.1,.inr ⟨b,off+p,Y,λj u hu=>by rw [hw];exact aIo hr p len j u hu⟩⟩ (by rw [hl];omega) hd
theorem jF{s:List UInt8}{a:Option Addr}{w w':World}(hr:cC s=[]∨∃b off,a=some ⟨b,off,none⟩ /\ ∀j u,(cC s)[j]?=some u -> w.cell? ⟨b,off+j,none⟩=some u)(hb:Below w.heap.size w w'):
  cC s=[]∨∃b off,a=some ⟨b,off,none⟩ /\ ∀j u,(cC s)[j]?=some u -> w'.cell? ⟨b,off+j,none⟩=some u:=
 hr.imp id λ⟨b,off,ha,h⟩=>⟨b,off,ha,λj u hu=>by
  have h1:=h j u hu
  rw [hb.cell (p:=⟨b,off+j,none⟩) (gV h1)];exact h1⟩
theorem aNh(s:List UInt8)(a:Option Addr)(cap:Nat)(w:World)(hs:s.length <= 262144)(hc:s.length <= cap)(hcm:cap <= 9223372036854775807)
  (hr:cC s=[]∨∃b off,a=some ⟨b,off,none⟩ /\ ∀j u,(cC s)[j]?=some u -> w.cell? ⟨b,off+j,none⟩=some u):
  Calls prog 58 #[.slice a s.length cap] w λe w'=>(∃v pos er,e=.returned (.tuple #[v,.int .i64 pos,.int .i64 er]) /\ aCp w' w.heap.size s v pos er) /\ Below w.heap.size w w':=by
 obtain ⟨i0,hi,hz0,hz1,hz2⟩:=info_parts aI5
 have HR:=Lib.hid hr
 clear hr
 go_enter func58,Tryz.ntmps58
 go_wp2_with (first|(go_at_call 80;refine (mC s 0 _ rfl _ _ _ HR.out hc J J).mono ?_;rintro e w' ⟨rfl,rfl⟩))
 go_loopw [5,6] (λv at_ wr=>∃(k:Nat) (toks:List Tok),at_=.int .i64 (bF s k) /\ k <= s.length /\ wr.ownsRow w.heap.size 154 4 v toks.length (dL toks) /\ kD s 0 0=fX.app toks (kD s k toks.length) /\ toks.length <= 4000 /\ Below w.heap.size w wr) (λ_ at_ _=>s.length-(intOf at_).toNat)
 case atStart=>exact ⟨0,[],rfl,J,ownsRow_nil _ _ _ _,by rw [fX.app_nil];rfl,G0,Below.refl _ _⟩
 case round=>
  obtain ⟨k,toks,rfl,hk,hown,hlx,hlen,hbel⟩:=hrel
  obtain ⟨oa,oc,rfl⟩:=lR hown
  have HLX:=Lib.hid hlx
  have hrr:=jF HR.out hbel
  have HRR:=Lib.hid hrr
  clear hlx hrr
  have hle:=aLf s k
  by_cases hend:s.length <= bF s k
  ·have hee:bF s k=s.length:=J
   have heq:((bF s k:Int) == s.length)=true:=EQ
   have HE:=Lib.hid hee
   clear hee
   go_wp2_with (at_builtin;refine wpList_append_own _ rfl _ _ 139 rfl w.heap.size 154 i0 _ 4 40 underlying139 hi hz0 hz1 hz2 rfl V _ toks.length (dL toks) rfl (ownsRow_below hown ((Below.refl _ _).alloc (Nat.le_refl _) _) (Nat.le_refl _)) ⟨wr.heap.size,0,none⟩ 1 1 [.int .i64 5,.string ⟨#[]⟩,.int .i64 0,.int .i64 (bF s k)] rfl rfl (sK _ _ _) Bz B1 J Df ?_)
   intro v' w1 hown1 hgrow _
   have hb1:Below w.heap.size w w1:=Below.grow (hbel.alloc hbel.size _) hgrow Df (ownsRow_below hown ((Below.refl _ _).alloc (Nat.le_refl _) _) (Nat.le_refl _)) (Nat.le_refl _)
   clear hgrow
   go_wp2_with fail
   go_ret3
   refine ⟨⟨_,_,_,Y,.inl ⟨toks++[⟨5,⟨#[]⟩,0,s.length⟩],?_,?_,by rw [HE.out],Y,DR⟩⟩,hb1⟩
   ·unfold iH
    rw [if_neg J,HLX.out,dAd hend];rfl
   have:=hown1
   rw [←eP,←HE.out];simpa using this
  have hlt:bF s k<s.length:=J
  have hne:((bF s k:Int) == s.length)=false:=DG
  obtain ⟨p,hp⟩:∃p,p=bF s k:=⟨_,rfl⟩
  have HP:=Lib.hid hp
  rw [←hp] at hlt hne hle⊢
  clear hp hend
  rcases HRR.out with h0|⟨b,off,rfl,hr⟩
  ·have:s.length=0:=CY
   omega
  have hblt:b<wr.heap.size:=gV (ByteRow.cell hr p hlt)
  have hcell:=ByteRow.cell hr p hlt
  have HB:=Lib.hid hr
  clear hr
  cases hl:fU s[p] with
  |true=>
   obtain ⟨len,hlen2⟩:∃len,len=((s.drop p).takeWhile cT).length:=⟨_,rfl⟩
   have hpl:p+len <= s.length:=by have:=(List.takeWhile_sublist (l:=s.drop p) cT).length_le;rw [←hlen2,List.length_drop] at this;omega
   have hname:dQ (s.drop p)=if 16<len then .err 3 else .tok (if dA (bytes ((s.drop p).take len)) then 3 else 1) len 0:=by
    have h1:=kK (c:=s[p]) (r:=s.drop (p+1)) hl
    rw [←dR s p hlt,←hlen2] at h1
    rw [show (s.drop p).take len=(s.drop p).takeWhile cT from by rw [hlen2];exact takeWhile_take cT (s.drop p)]
    exact h1
   have hl0:0<len:=by rw [hlen2,dR s p hlt,List.takeWhile_cons_of_pos (by simp [cT,hl])];simp
   have HNM:=Lib.hid hname
   have HL2:=Lib.hid hlen2
   clear hlen2 hname
   go_wp2_with (first|(go_at_call 81;refine (eL _ _).mono ?_;rintro e w' ⟨rfl,rfl⟩))
   go_hide hQ
   go_loop [8] (λv=>∃d:Nat,d <= len /\ v=.int .i64 ((p:Int)+d) /\ len=d+(((s.drop p).drop d).takeWhile cT).length) (λv=>s.length-(intOf v).toNat)
   case atStart=>exact ⟨0,J,G0,by rw [HL2.out];simp⟩
   case round=>
    obtain ⟨d,hd,rfl,hinv⟩:=hrel
    have HI:=Lib.hid hinv
    clear hinv
    by_cases hlt2:p+d<s.length
    ·have g1:(p:Int)+d<s.length:=J
     have hcell2:=ByteRow.cell HB.out (p+d) hlt2
     have hst:=lH cT (s.drop p) d DI (by rw [←HL2.out];exact HI.out)
     rw [List.getElem_drop,←HL2.out] at hst
     have HST:=Lib.hid hst
     clear hst
     cases hn:cT s[p+d] with
     |true=>
      have hnx:=HST.out.1 hn
      have HNX:=Lib.hid hnx
      have hdl:d+1 <= len:=J
      unfold cT at hn
      have HN:=Lib.hid hn
      clear hnx hn
      go_wp2_with (first|(go_at_call 81;refine (eL _ _).mono ?_;rintro e w' ⟨rfl,rfl⟩)|(go_at_call 82;refine (fJ _ _).mono ?_;rintro e w' ⟨rfl,rfl⟩))
      all_goals first
       |(go_round;(case rel=>exact ⟨d+1,hdl,DR,HNX.out⟩);(case measure=>simp [intOf];omega))
       |(exfalso;have h:=HN.out;simp_all)
     |false=>
      have hnx:=HST.out.2 hn
      have hdl:len=d:=hnx
      unfold cT at hn
      rw [Bool.or_eq_false_iff] at hn
      obtain ⟨hn1,hn2⟩:=hn
      subst hdl
      clear hnx
      go_wp2_with (first|(go_at_call 81;((with_reducible refine (eL _ _).mono ?_);rintro e w' ⟨rfl,rfl⟩))|(go_at_call 82;((with_reducible refine (fJ _ _).mono ?_);rintro e w' ⟨rfl,rfl⟩)))
      subst hQ
      have hsz:=hbel.size
      have hge:=lG s (p+len) hpl
      go_wp2_with (first|(rw [iR HB.out p len _ hpl _ (λo=>World.cell?_alloc_lt wr _ ⟨b,o,none⟩ hblt)];go_simp)|(go_at_call 83;((with_reducible refine (oN _ _).mono ?_);rintro e w1 ⟨rfl,hb⟩;obtain ⟨hcc,hcf⟩:=tF hb;have hbw1:Below wr.heap.size wr w1:=((Below.refl _ _).alloc (Nat.le_refl _) _).trans (hb.mono G0);have hbW1:Below w.heap.size w w1:=hbel.trans (hbw1.mono hsz);have hsz1:=hbw1.size)))
      ·have h4:((toks.length:Int) == 4000)=true:=Dp
       go_ret3
       exact ⟨⟨_,_,_,Y,.inr ⟨p,3,nV hs HP.out hlt (show dQ (s.drop p)=.tok 3 len 0 from by have hq:dA (bytes ((s.drop p).take len))=true:=by {assumption};rw [HNM.out,if_neg AR,if_pos hq]) Br HLX.out,rfl,rfl,rfl,J⟩⟩,B8⟩
      ·have h4:((toks.length:Int) == 4000)=false:=Dp
       have h4':toks.length≠4000:=Bn
       have h5:toks.length<4000:=J
       have HN:=Lib.hid (show dQ (s.drop p)=.tok 3 len 0 from by have hq:dA (bytes ((s.drop p).take len))=true:=by {assumption};rw [HNM.out,if_neg AR,if_pos hq])
       have H4:=Lib.hid h4'
       clear h4'
       go_wp2_with (first|(rw [iR HB.out p len _ hpl _ (λo=>G2)];go_simp)|(at_builtin;refine wpList_append_own _ rfl _ _ 139 rfl w.heap.size 154 i0 _ 4 40 underlying139 hi hz0 hz1 hz2 rfl V _ toks.length (dL toks) rfl (ownsRow_below hown B8 (Nat.le_refl _)) _ 1 1 [.int .i64 3,.string (bytes ((s.drop p).take len)),.int .i64 0,.int .i64 p] rfl rfl (bXs _ _ _ _ G0) Bz B1 J DR ?_))
       intro v' w2 hown2 hgrow _
       have hb2:Below w.heap.size w w2:=Below.grow B8 hgrow DR (ownsRow_below hown B8 (Nat.le_refl _)) (Nat.le_refl _)
       clear hgrow
       go_wp2_with ((go_at_call 80;((with_reducible refine (mC s (p+len) _ J _ _ _ (jF HR.out hb2) hc J hpl).mono ?_);rintro e w' ⟨rfl,rfl⟩)))
       go_roundw
       case rel=>exact ⟨p+len,toks++[⟨3,bytes ((s.drop p).take len),0,p⟩],rfl,hpl,Bs,cZz HP.out hk hlt HN.out H4.out HLX.out,DR,hb2⟩
       case measure=>simp [intOf];omega
      ·go_ret3
       exact ⟨⟨_,_,_,Y,.inr ⟨p,3,rD hs HP.out hlt (by rw [HNM.out,if_pos J]) HLX.out,Y,Y,Y,J⟩⟩,B8⟩
      ·have h4:((toks.length:Int) == 4000)=true:=Dp
       go_ret3
       exact ⟨⟨_,_,_,Y,.inr ⟨p,3,nV hs HP.out hlt (show dQ (s.drop p)=.tok 1 len 0 from by have hq:dA (bytes ((s.drop p).take len))=false:=by {assumption};rw [HNM.out,if_neg J,if_neg (by simp [hq])]) Br HLX.out,rfl,rfl,rfl,J⟩⟩,B8⟩
      have h4:((toks.length:Int) == 4000)=false:=Dp
      have h4':toks.length≠4000:=Bn
      have h5:toks.length<4000:=J
      have HN:=Lib.hid (show dQ (s.drop p)=.tok 1 len 0 from by have hq:dA (bytes ((s.drop p).take len))=false:=by {assumption};rw [HNM.out,if_neg J,if_neg (by simp [hq])])
      have H4:=Lib.hid h4'
      clear h4'
      go_wp2_with (first|(rw [iR HB.out p len _ hpl _ (λo=>G2)];go_simp)|(at_builtin;refine wpList_append_own _ rfl _ _ 139 rfl w.heap.size 154 i0 _ 4 40 underlying139 hi hz0 hz1 hz2 rfl V _ toks.length (dL toks) rfl (ownsRow_below hown B8 (Nat.le_refl _)) _ 1 1 [.int .i64 1,.string (bytes ((s.drop p).take len)),.int .i64 0,.int .i64 p] rfl rfl (bXs _ _ _ _ G0) Bz B1 J DR ?_))
      intro v' w2 hown2 hgrow _
      have hb2:Below w.heap.size w w2:=Below.grow B8 hgrow DR (ownsRow_below hown B8 (Nat.le_refl _)) (Nat.le_refl _)
      clear hgrow
      go_wp2_with ((go_at_call 80;((with_reducible refine (mC s (p+len) _ J _ _ _ (jF HR.out hb2) hc J hpl).mono ?_);rintro e w' ⟨rfl,rfl⟩)))
      go_roundw
      case rel=>exact ⟨p+len,toks++[⟨1,bytes ((s.drop p).take len),0,p⟩],rfl,hpl,Bs,cZz HP.out hk hlt HN.out H4.out HLX.out,DR,hb2⟩
      case measure=>simp [intOf];omega
    ·have hdl:len=d:=CG
     have g1:(s.length:Int) <= p+d:=J
     subst hdl
     go_wp2_with (first|(go_at_call 81;((with_reducible refine (eL _ _).mono ?_);rintro e w' ⟨rfl,rfl⟩))|(go_at_call 82;((with_reducible refine (fJ _ _).mono ?_);rintro e w' ⟨rfl,rfl⟩)))
     subst hQ
     have hsz:=hbel.size
     have hge:=lG s (p+len) hpl
     go_wp2_with (first|(rw [iR HB.out p len _ hpl _ (λo=>World.cell?_alloc_lt wr _ ⟨b,o,none⟩ hblt)];go_simp)|(go_at_call 83;((with_reducible refine (oN _ _).mono ?_);rintro e w1 ⟨rfl,hb⟩;obtain ⟨hcc,hcf⟩:=tF hb;have hbw1:Below wr.heap.size wr w1:=((Below.refl _ _).alloc (Nat.le_refl _) _).trans (hb.mono G0);have hbW1:Below w.heap.size w w1:=hbel.trans (hbw1.mono hsz);have hsz1:=hbw1.size)))
     ·have h4:((toks.length:Int) == 4000)=true:=Dp
      go_ret3
      exact ⟨⟨_,_,_,Y,.inr ⟨p,3,nV hs HP.out hlt (show dQ (s.drop p)=.tok 3 len 0 from by have hq:dA (bytes ((s.drop p).take len))=true:=by {assumption};rw [HNM.out,if_neg AR,if_pos hq]) Br HLX.out,rfl,rfl,rfl,J⟩⟩,B8⟩
     ·have h4:((toks.length:Int) == 4000)=false:=Dp
      have h4':toks.length≠4000:=Bn
      have h5:toks.length<4000:=J
      have HN:=Lib.hid (show dQ (s.drop p)=.tok 3 len 0 from by have hq:dA (bytes ((s.drop p).take len))=true:=by {assumption};rw [HNM.out,if_neg AR,if_pos hq])
      have H4:=Lib.hid h4'
      clear h4'
      go_wp2_with (first|(rw [iR HB.out p len _ hpl _ (λo=>G2)];go_simp)|(at_builtin;refine wpList_append_own _ rfl _ _ 139 rfl w.heap.size 154 i0 _ 4 40 underlying139 hi hz0 hz1 hz2 rfl V _ toks.length (dL toks) rfl (ownsRow_below hown B8 (Nat.le_refl _)) _ 1 1 [.int .i64 3,.string (bytes ((s.drop p).take len)),.int .i64 0,.int .i64 p] rfl rfl (bXs _ _ _ _ G0) Bz B1 J DR ?_))
      intro v' w2 hown2 hgrow _
      have hb2:Below w.heap.size w w2:=Below.grow B8 hgrow DR (ownsRow_below hown B8 (Nat.le_refl _)) (Nat.le_refl _)
      clear hgrow
      go_wp2_with ((go_at_call 80;((with_reducible refine (mC s (p+len) _ J _ _ _ (jF HR.out hb2) hc J hpl).mono ?_);rintro e w' ⟨rfl,rfl⟩)))
      go_roundw
      case rel=>exact ⟨p+len,toks++[⟨3,bytes ((s.drop p).take len),0,p⟩],rfl,hpl,Bs,cZz HP.out hk hlt HN.out H4.out HLX.out,DR,hb2⟩
      case measure=>simp [intOf];omega
     ·go_ret3
      exact ⟨⟨_,_,_,Y,.inr ⟨p,3,rD hs HP.out hlt (by rw [HNM.out,if_pos J]) HLX.out,Y,Y,Y,J⟩⟩,B8⟩
     ·have h4:((toks.length:Int) == 4000)=true:=Dp
      go_ret3
      exact ⟨⟨_,_,_,Y,.inr ⟨p,3,nV hs HP.out hlt (show dQ (s.drop p)=.tok 1 len 0 from by have hq:dA (bytes ((s.drop p).take len))=false:=by {assumption};rw [HNM.out,if_neg J,if_neg (by simp [hq])]) Br HLX.out,rfl,rfl,rfl,J⟩⟩,B8⟩
     ·have h4:((toks.length:Int) == 4000)=false:=Dp
      have h4':toks.length≠4000:=Bn
      have h5:toks.length<4000:=J
      have HN:=Lib.hid (show dQ (s.drop p)=.tok 1 len 0 from by have hq:dA (bytes ((s.drop p).take len))=false:=by {assumption};rw [HNM.out,if_neg J,if_neg (by simp [hq])])
      have H4:=Lib.hid h4'
      clear h4'
      go_wp2_with (first|(rw [iR HB.out p len _ hpl _ (λo=>G2)];go_simp)|(at_builtin;refine wpList_append_own _ rfl _ _ 139 rfl w.heap.size 154 i0 _ 4 40 underlying139 hi hz0 hz1 hz2 rfl V _ toks.length (dL toks) rfl (ownsRow_below hown B8 (Nat.le_refl _)) _ 1 1 [.int .i64 1,.string (bytes ((s.drop p).take len)),.int .i64 0,.int .i64 p] rfl rfl (bXs _ _ _ _ G0) Bz B1 J DR ?_))
      intro v' w2 hown2 hgrow _
      have hb2:Below w.heap.size w w2:=Below.grow B8 hgrow DR (ownsRow_below hown B8 (Nat.le_refl _)) (Nat.le_refl _)
      clear hgrow
      go_wp2_with ((go_at_call 80;((with_reducible refine (mC s (p+len) _ J _ _ _ (jF HR.out hb2) hc J hpl).mono ?_);rintro e w' ⟨rfl,rfl⟩)))
      go_roundw
      case rel=>exact ⟨p+len,toks++[⟨1,bytes ((s.drop p).take len),0,p⟩],rfl,hpl,Bs,cZz HP.out hk hlt HN.out H4.out HLX.out,DR,hb2⟩
      case measure=>simp [intOf];omega
  |false=>
   cases hdg:cD s[p] with
   |true=>
    obtain ⟨len,hlen2⟩:∃len,len=((s.drop p).takeWhile cD).length:=⟨_,rfl⟩
    have hpl:p+len <= s.length:=by have:=(List.takeWhile_sublist (l:=s.drop p) cD).length_le;rw [←hlen2,List.length_drop] at this;omega
    have htw:(s.drop p).take len=(s.drop p).takeWhile cD:=by rw [hlen2];exact takeWhile_take cD (s.drop p)
    have hnn:iT 0 ((s.drop p).take len)=none -> dQ (s.drop p)=.err 2:=by
     intro h
     have h1:=nK (c:=s[p]) (r:=s.drop (p+1)) hl hdg (by rw [←dR s p hlt,←htw];exact h)
     rw [←dR s p hlt] at h1;exact h1
    have hns:∀nv,iT 0 ((s.drop p).take len)=some nv -> dQ (s.drop p)=.tok 2 len nv:=by
     intro nv h
     have h1:=lP (c:=s[p]) (r:=s.drop (p+1)) hl hdg (by rw [←dR s p hlt,←htw];exact h)
     rw [←dR s p hlt,←hlen2] at h1;exact h1
    have hdall:Hid (∀c∈(s.drop p).take len,cD c=true):=Lib.hid (by rw [htw];exact λc hc=>(List.all_eq_true.1 (List.all_takeWhile (p:=cD) (l:=s.drop p))) c hc)
    have hl0:0<len:=by rw [hlen2,dR s p hlt,List.takeWhile_cons_of_pos hdg];simp
    have HNN:=Lib.hid hnn
    have HNS:=Lib.hid hns
    have HL2:=Lib.hid hlen2
    have hsz:=hbel.size
    have hge:=lG s (p+len) hpl
    clear hlen2 hnn hns htw
    go_wp2_with (first|(go_at_call 81;((with_reducible refine (eL _ _).mono ?_);rintro e w' ⟨rfl,rfl⟩))|(go_at_call 82;((with_reducible refine (fJ _ _).mono ?_);rintro e w' ⟨rfl,rfl⟩)))
    go_hide hQ
    go_loop [8] (λv=>∃d:Nat,d <= len /\ v=.int .i64 ((p:Int)+d) /\ len=d+(((s.drop p).drop d).takeWhile cD).length) (λv=>s.length-(intOf v).toNat)
    case atStart=>exact ⟨0,J,G0,by rw [HL2.out];simp⟩
    case round=>
     obtain ⟨d,hd,rfl,hinv⟩:=hrel
     have HI:=Lib.hid hinv
     clear hinv
     by_cases hlt2:p+d<s.length
     ·have g1:(p:Int)+d<s.length:=J
      have hcell2:=ByteRow.cell HB.out (p+d) hlt2
      have hst:=lH cD (s.drop p) d DI (by rw [←HL2.out];exact HI.out)
      rw [List.getElem_drop,←HL2.out] at hst
      have HST:=Lib.hid hst
      clear hst
      cases hn:cD s[p+d] with
      |true=>
       have hnx:=HST.out.1 hn
       have HNX:=Lib.hid hnx
       have hdl:d+1 <= len:=J
       clear hnx
       go_wp2_with (first|(go_at_call 81;((with_reducible refine (eL _ _).mono ?_);rintro e w' ⟨rfl,rfl⟩))|(go_at_call 82;((with_reducible refine (fJ _ _).mono ?_);rintro e w' ⟨rfl,rfl⟩)))
       go_round
       case rel=>exact ⟨d+1,hdl,DR,HNX.out⟩
       case measure=>simp [intOf];omega
      |false=>
       have hdl:len=d:=HST.out.2 hn
       subst hdl
       cases hnum:iT 0 ((s.drop p).take len) with
       |none=>
        have hni:xU ((s.drop p).take len)=-1:=En
        have HNI:=Lib.hid hni
        have HE:=Lib.hid (HNN.out hnum)
        clear hni hnum
        go_wp2_with (first|(go_at_call 81;((with_reducible refine (eL _ _).mono ?_);rintro e w' ⟨rfl,rfl⟩))|(go_at_call 82;((with_reducible refine (fJ _ _).mono ?_);rintro e w' ⟨rfl,rfl⟩)))
        subst hQ
        go_wp2_with (go_at_call 84;((with_reducible refine (pH HB.out p len _ hpl J hdall.out _ (λo=>World.cell?_alloc_lt wr _ ⟨b,o,none⟩ hblt)).mono ?_);rintro e w' ⟨rfl,rfl⟩;rw [HNI.out]))
        go_ret3
        exact ⟨⟨_,_,_,Y,.inr ⟨p,2,rD hs HP.out hlt HE.out HLX.out,Y,Y,Y,J⟩⟩,B8⟩
       |some nv=>
        have hni:xU ((s.drop p).take len)=nv:=En
        have HNI:=Lib.hid hni
        have HNM:=Lib.hid (HNS.out nv hnum)
        clear hni hnum
        go_wp2_with (first|(go_at_call 81;((with_reducible refine (eL _ _).mono ?_);rintro e w' ⟨rfl,rfl⟩))|(go_at_call 82;((with_reducible refine (fJ _ _).mono ?_);rintro e w' ⟨rfl,rfl⟩)))
        subst hQ
        go_wp2_with (go_at_call 84;((with_reducible refine (pH HB.out p len _ hpl J hdall.out _ (λo=>World.cell?_alloc_lt wr _ ⟨b,o,none⟩ hblt)).mono ?_);rintro e w' ⟨rfl,rfl⟩;rw [HNI.out]))
        ·have h4:((toks.length:Int) == 4000)=true:=Dp
         go_ret3
         exact ⟨⟨_,_,_,Y,.inr ⟨p,3,nV hs HP.out hlt (show dQ (s.drop p)=.tok 2 len nv from HNM.out) Br HLX.out,Y,Y,Y,J⟩⟩,B8⟩
        have h4:((toks.length:Int) == 4000)=false:=Dp
        have h4':toks.length≠4000:=Bn
        have h5:toks.length<4000:=J
        have HN:=Lib.hid (show dQ (s.drop p)=.tok 2 len nv from HNM.out)
        have H4:=Lib.hid h4'
        clear h4'
        go_wp2_with (first|(rw [iR HB.out p len _ hpl _ (λo=>World.cell?_alloc_lt wr _ ⟨b,o,none⟩ hblt)];go_simp)|(at_builtin;refine wpList_append_own _ rfl _ _ 139 rfl w.heap.size 154 i0 _ 4 40 underlying139 hi hz0 hz1 hz2 rfl V _ toks.length (dL toks) rfl (ownsRow_below hown B8 (Nat.le_refl _)) _ 1 1 [.int .i64 2,.string (bytes ((s.drop p).take len)),.int .i64 nv,.int .i64 p] rfl rfl (bXs _ _ _ _ G0) Bz B1 J DR ?_))
        intro v' w2 hown2 hgrow _
        have hb2:Below w.heap.size w w2:=Below.grow B8 hgrow DR (ownsRow_below hown B8 (Nat.le_refl _)) (Nat.le_refl _)
        clear hgrow
        go_wp2_with ((go_at_call 80;((with_reducible refine (mC s (p+len) _ J _ _ _ (jF HR.out hb2) hc J hpl).mono ?_);rintro e w' ⟨rfl,rfl⟩)))
        go_roundw
        case rel=>exact ⟨p+len,toks++[⟨2,bytes ((s.drop p).take len),nv,p⟩],rfl,hpl,Bs,cZz HP.out hk hlt HN.out H4.out HLX.out,DR,hb2⟩
        case measure=>simp [intOf];omega
     ·have hdl:len=d:=CG
      have g1:(s.length:Int) <= p+d:=J
      subst hdl
      cases hnum:iT 0 ((s.drop p).take len) with
      |none=>
       have hni:xU ((s.drop p).take len)=-1:=En
       have HNI:=Lib.hid hni
       have HE:=Lib.hid (HNN.out hnum)
       clear hni hnum
       go_wp2_with (first|(go_at_call 81;((with_reducible refine (eL _ _).mono ?_);rintro e w' ⟨rfl,rfl⟩))|(go_at_call 82;((with_reducible refine (fJ _ _).mono ?_);rintro e w' ⟨rfl,rfl⟩)))
       subst hQ
       go_wp2_with (go_at_call 84;((with_reducible refine (pH HB.out p len _ hpl J hdall.out _ (λo=>World.cell?_alloc_lt wr _ ⟨b,o,none⟩ hblt)).mono ?_);rintro e w' ⟨rfl,rfl⟩;rw [HNI.out]))
       go_ret3
       exact ⟨⟨_,_,_,Y,.inr ⟨p,2,rD hs HP.out hlt HE.out HLX.out,Y,Y,Y,J⟩⟩,B8⟩
      |some nv=>
       have hni:xU ((s.drop p).take len)=nv:=En
       have HNI:=Lib.hid hni
       have HNM:=Lib.hid (HNS.out nv hnum)
       clear hni hnum
       go_wp2_with (first|(go_at_call 81;((with_reducible refine (eL _ _).mono ?_);rintro e w' ⟨rfl,rfl⟩))|(go_at_call 82;((with_reducible refine (fJ _ _).mono ?_);rintro e w' ⟨rfl,rfl⟩)))
       subst hQ
       go_wp2_with (go_at_call 84;((with_reducible refine (pH HB.out p len _ hpl J hdall.out _ (λo=>World.cell?_alloc_lt wr _ ⟨b,o,none⟩ hblt)).mono ?_);rintro e w' ⟨rfl,rfl⟩;rw [HNI.out]))
       ·have h4:((toks.length:Int) == 4000)=true:=Dp
        go_ret3
        exact ⟨⟨_,_,_,Y,.inr ⟨p,3,nV hs HP.out hlt (show dQ (s.drop p)=.tok 2 len nv from HNM.out) Br HLX.out,Y,Y,Y,J⟩⟩,B8⟩
       ·have h4:((toks.length:Int) == 4000)=false:=Dp
        have h4':toks.length≠4000:=Bn
        have h5:toks.length<4000:=J
        have HN:=Lib.hid (show dQ (s.drop p)=.tok 2 len nv from HNM.out)
        have H4:=Lib.hid h4'
        clear h4'
        go_wp2_with (first|(rw [iR HB.out p len _ hpl _ (λo=>World.cell?_alloc_lt wr _ ⟨b,o,none⟩ hblt)];go_simp)|(at_builtin;refine wpList_append_own _ rfl _ _ 139 rfl w.heap.size 154 i0 _ 4 40 underlying139 hi hz0 hz1 hz2 rfl V _ toks.length (dL toks) rfl (ownsRow_below hown B8 (Nat.le_refl _)) _ 1 1 [.int .i64 2,.string (bytes ((s.drop p).take len)),.int .i64 nv,.int .i64 p] rfl rfl (bXs _ _ _ _ G0) Bz B1 J DR ?_))
        intro v' w2 hown2 hgrow _
        have hb2:Below w.heap.size w w2:=Below.grow B8 hgrow DR (ownsRow_below hown B8 (Nat.le_refl _)) (Nat.le_refl _)
        clear hgrow
        go_wp2_with ((go_at_call 80;((with_reducible refine (mC s (p+len) _ J _ _ _ (jF HR.out hb2) hc J hpl).mono ?_);rintro e w' ⟨rfl,rfl⟩)))
        go_roundw
        case rel=>exact ⟨p+len,toks++[⟨2,bytes ((s.drop p).take len),nv,p⟩],rfl,hpl,Bs,cZz HP.out hk hlt HN.out H4.out HLX.out,DR,hb2⟩
        case measure=>simp [intOf];omega
   |false=>
    obtain ⟨len,hlen2⟩:∃len,len=jE (s.drop p):=⟨_,rfl⟩
    have hpl:p+len <= s.length:=by have:=(aEk (s.drop p)).2;rw [←hlen2,List.length_drop] at this;omega
    have hsn:=iN (c:=s[p]) (r:=s.drop (p+1)) hl hdg
    rw [←dR s p hlt,←hlen2] at hsn
    have hsz:=hbel.size
    have hge:=lG s (p+len) hpl
    have HSN:=Lib.hid hsn
    clear hsn
    have HSG:=Lib.hid hlen2
    clear hlen2
    by_cases h0:len=0
    ·have HE:=Lib.hid (show dQ (s.drop p)=.err 1 by rw [HSN.out,if_pos h0])
     have hq:((p:Int)+len == p)=true:=EQ
     have H0:=Lib.hid h0
     clear h0
     go_wp2_with (first|(go_at_call 81;((with_reducible refine (eL _ _).mono ?_);rintro e w' ⟨rfl,rfl⟩))|(go_at_call 82;((with_reducible refine (fJ _ _).mono ?_);rintro e w' ⟨rfl,rfl⟩))|(go_at_call 85;((with_reducible refine (aBz s p b off cap _ (λj u hu=>CQ) hc hcm J hlt).mono ?_);rintro e w1 ⟨rfl,hb⟩;rw [←HSG.out];obtain ⟨hcc,hcf⟩:=tF hb;have hbw1:Below wr.heap.size wr w1:=((Below.refl _ _).alloc (Nat.le_refl _) _).trans (hb.mono G0);have hbW1:Below w.heap.size w w1:=hbel.trans (hbw1.mono hsz);have hsz1:=hbw1.size)))
     go_ret3
     exact ⟨⟨_,_,_,Y,.inr ⟨p,1,rD hs HP.out hlt HE.out HLX.out,Y,Y,Y,J⟩⟩,B8⟩
    have HNM:=Lib.hid (show dQ (s.drop p)=.tok 4 len 0 by rw [HSN.out,if_neg h0])
    have hq:((p:Int)+len == p)=false:=DG
    have hl0:0<len:=J
    clear h0
    go_wp2_with (first|(go_at_call 81;((with_reducible refine (eL _ _).mono ?_);rintro e w' ⟨rfl,rfl⟩))|(go_at_call 82;((with_reducible refine (fJ _ _).mono ?_);rintro e w' ⟨rfl,rfl⟩))|(go_at_call 85;((with_reducible refine (aBz s p b off cap _ (λj u hu=>CQ) hc hcm J hlt).mono ?_);rintro e w1 ⟨rfl,hb⟩;rw [←HSG.out];obtain ⟨hcc,hcf⟩:=tF hb;have hbw1:Below wr.heap.size wr w1:=((Below.refl _ _).alloc (Nat.le_refl _) _).trans (hb.mono G0);have hbW1:Below w.heap.size w w1:=hbel.trans (hbw1.mono hsz);have hsz1:=hbw1.size)))
    ·have h4:((toks.length:Int) == 4000)=true:=Dp
     go_ret3
     exact ⟨⟨_,_,_,Y,.inr ⟨p,3,nV hs HP.out hlt (show dQ (s.drop p)=.tok 4 len 0 from HNM.out) Br HLX.out,Y,Y,Y,J⟩⟩,B8⟩
    have h4:((toks.length:Int) == 4000)=false:=Dp
    have h4':toks.length≠4000:=Bn
    have h5:toks.length<4000:=J
    have HN:=Lib.hid (show dQ (s.drop p)=.tok 4 len 0 from HNM.out)
    have H4:=Lib.hid h4'
    clear h4'
    go_wp2_with (first|(rw [iR HB.out p len _ hpl _ (λo=>G2)];go_simp)|(at_builtin;refine wpList_append_own _ rfl _ _ 139 rfl w.heap.size 154 i0 _ 4 40 underlying139 hi hz0 hz1 hz2 rfl V _ toks.length (dL toks) rfl (ownsRow_below hown B8 (Nat.le_refl _)) _ 1 1 [.int .i64 4,.string (bytes ((s.drop p).take len)),.int .i64 0,.int .i64 p] rfl rfl (bXs _ _ _ _ G0) Bz B1 J DR ?_))
    intro v' w2 hown2 hgrow _
    have hb2:Below w.heap.size w w2:=Below.grow B8 hgrow DR (ownsRow_below hown B8 (Nat.le_refl _)) (Nat.le_refl _)
    clear hgrow
    go_wp2_with ((go_at_call 80;((with_reducible refine (mC s (p+len) _ J _ _ _ (jF HR.out hb2) hc J hpl).mono ?_);rintro e w' ⟨rfl,rfl⟩)))
    go_roundw
    case rel=>exact ⟨p+len,toks++[⟨4,bytes ((s.drop p).take len),0,p⟩],rfl,hpl,Bs,cZz HP.out hk hlt HN.out H4.out HLX.out,DR,hb2⟩
    case measure=>simp [intOf];omega
theorem aKn(a:Option Addr)(n cap:Nat)(w:World)(hs:(262144:Int)<n):
  Calls prog 58 #[.slice a n cap] w λe w'=>e=.returned (.tuple #[.slice none 0 0,.int .i64 262144,.int .i64 3]) /\ w=w':=by
 go_enter func58,Tryz.ntmps58
 go_wp2_with fail
 go_ret3
 exact ⟨Y,Y⟩
theorem aLm(s:List UInt8)(v:Value)(w:World)(hv:dD w v s.length (cC s))(hcm:∀a n c,v=.slice a n c -> c <= 9223372036854775807):
  Calls prog 58 #[v] w λe w'=>(∃v pos er,e=.returned (.tuple #[v,.int .i64 pos,.int .i64 er]) /\ aCp w' w.heap.size s v pos er) /\ Below w.heap.size w w':=by
 obtain ⟨a,cap,rfl,hc,hr⟩:=hv
 by_cases hs:262144<s.length
 ·refine (aKn a _ cap w J).mono λe w' ⟨h,hw⟩=>?_
  subst hw
  refine ⟨⟨_,_,_,h,.inr ⟨262144,3,?_,Y,Y,Y,J⟩⟩,Below.refl _ _⟩
  unfold iH;rw [if_pos J]
 exact aNh s a cap w J hc (hcm _ _ _ Y) hr
abbrev iF(s:List UInt8):List AC:=s.map λc=>.val (.int .u8 c.toNat)
def aOk(s:List UInt8)(t:AT):Prop:=
 (∃l,iH s=.ok l /\ t=.tup [.c (Sq aW l),Ci (s.length:Int),nI 0] /\ l.length <= 4001)∨(∃p e:Nat,iH s=.err p e /\ t=.tup [.c (Nl),Ci (p:Int),Ci (e:Int)] /\ e≠0)
theorem aEs{N:List Nat}{w:World}{base:Nat}{e:TypeId}{size:Nat}{v:Value}{n:Nat}{xs:List Value}(h:w.ownsRow base e size v n xs)(hN:∀x,x∈N -> x<base):dD (bI N w) v n xs:=by
 obtain ⟨h1,h2⟩:=h
 have h9:=dD.of_owns (⟨h1,h2⟩:w.ownsRow base e size v n xs)
 rcases h2 with ⟨rfl,rfl⟩|⟨g,cap,cur,rfl,hg,-⟩
 ·obtain rfl:xs=[]:=List.eq_nil_of_length_eq_zero C2
  exact .nil _
 obtain ⟨a,c,he,hc,hr⟩:=h9
 refine ⟨a,c,he,hc,?_⟩
 rcases hr with h0|⟨b,off,rfl,hr⟩
 ·exact .inl h0
 cases he
 refine .inr ⟨g,0,Y,λj v hj=>?_⟩
 rw [eW]
 ·exact hr j v hj
 intro hm;have h9:g<base:=hN g hm;omega
theorem uW(l:List Tok):l.flatMap aW=(dL l).map .val:=by
 induction l with
 |nil=>rfl
 |cons t l ih=>rw [List.flatMap_cons,ih];unfold dL;rw [List.flatMap_cons,List.map_append];rfl
theorem aEv(l:List Tok):∀u,u∈dL l -> u.oneCell'=true:=by
 intro u hu
 unfold dL at hu
 obtain ⟨t,_,h⟩:=List.mem_flatMap.1 hu
 unfold Tok.cells at h
 simp only [mem_cons,not_mem_nil,or_false] at h
 rcases h with rfl|rfl|rfl|rfl<;>rfl
theorem aBm{w:World}{v:Value}{n:Nat}{s:List UInt8}(h:dO w (.c (.sl n (iF s))) v):dD w v n (cC s) /\ ∀a k c,v=.slice a k c -> c <= 9223372036854775807:=by
 cases h with
 |c _ _ h=>cases h with
  |sl _ _ us _ hr hl hh hcap=>
   refine ⟨?_,hcap⟩
   have:us=cC s:=by
    refine List.ext_getElem (by rw [hl];simp [iF,cC]) λi h1 h2=>?_
    have h3:=hh i (by rw [←hl];exact h1) h1
    generalize hx:(iF s)[i]'(by rw [←hl];exact h1)=x at h3
    unfold iF at hx
    rw [List.getElem_map] at hx
    subst hx
    have hi:i<s.length:=by simpa [cC] using h2
    have h4:us[i]=.int .u8 s[i].toNat:=by
     generalize us[i]=u at h3
     cases h3;rfl
    rw [h4];simp [cC]
   rw [←this];exact hr
theorem aQt{F:FuncId}{bs:List UInt8}{s:Sto}(W:World -> Prop)(hW:∀w,Mem s w -> W w)(hF:∀v w,W w -> dD w v bs.length (cC bs) -> (∀a k c,v=.slice a k c -> c <= 9223372036854775807) -> Calls prog F #[v] w λe w'=>(∃v pos er,e=.returned (.tuple #[v,.int .i64 pos,.int .i64 er]) /\ aCp w' w.heap.size bs v pos er) /\ Below w.heap.size w w'):
  aL prog F [.c (.sl bs.length (iF bs))] [] s λt s'=>aOk bs t /\ s'=s:=by
 intro vs w hm _ hl hr
 obtain ⟨v,rfl⟩:∃v,vs=[v]:=by
  cases vs with
  |nil=>cases hl
  |cons v vs=>cases vs with
   |nil=>exact ⟨v,rfl⟩
   |cons _ _=>simp at hl
 obtain ⟨hv,hcap⟩:=aBm (hr 0 G0 G0)
 refine (hF v w (hW w hm) (hv.mono λa u h=>(gA h).1) hcap).mono λe w' ⟨⟨v',pos,er,he,hf⟩,hb⟩=>?_
 have hk:cW [] w w':=cW.of_below hb
 have hu:Up2 (bI s.bl w) (bI s.bl w'):=jA hk Bu (λb h=>.inl h)
 obtain ⟨m1,m2⟩:=hm.up hu CS
 have hm':Mem s w':=⟨hm.nodup,λb hb'=>Nat.lt_of_lt_of_le (hm.lt b hb') hk.size,m1,m2⟩
 have t3:∀(x:AT)(p e2:Int),dO (bI s.bl w') x v' -> dO (bI s.bl w') (.tup [x,Ci p,Ci e2]) (.tuple #[v',.int .i64 p,.int .i64 e2]):=λx p e2 hx=>by
  refine .tup _ [v',.int .i64 p,.int .i64 e2] Y λi h h'=>?_
  match i,h,h' with
  |0,_,_=>exact hx
  |1,_,_=>exact .c _ _ (.val _ rfl)
  |2,_,_=>exact .c _ _ (.val _ rfl)
 subst he
 rcases hf with ⟨l,h1,h2,rfl,rfl,h3⟩|⟨p,e2,h1,rfl,rfl,rfl,h2⟩
 ·refine ⟨_,_,s,Y,⟨.inl ⟨l,h1,Y,h3⟩,Y⟩,t3 _ _ _ (.c _ _ (.sl _ _ (dL l) _ (aEs h2 hm.lt) ?_ ?_ ?_)),hm',hk,λb hb=>.inl hb⟩
  ·rw [uW];simp
  ·rw [uW];exact (gU _ _ (aEv l)).at_
  exact uK h2
 exact ⟨_,_,s,Y,⟨.inr ⟨p,e2,h1,Y,h2⟩,Y⟩,t3 _ _ _ (.c _ _ (.val _ Y)),hm',hk,λb hb=>.inl hb⟩
theorem aLb(bs:List UInt8)(s:Sto):aL prog 58 [.c (.sl bs.length (iF bs))] [] s λt s'=>aOk bs t /\ s'=s:=
 aQt (λ_=>True) (λ_ _=>trivial) λv w _ hv hc=>aLm bs v w hv hc
section
variable {P:Program}{U T:List Nat}{o:Oper}{n d:Nat}{ts:List (Nat×AT)}{s:Sto}{K:AS -> Prop}
theorem rL{F:FuncId}{x:Operand}{fst cap:Array Value}{ars:Array Operand}{tys:Array TypeId}{us:List AT}(T':List Nat){QQ:AT -> Sto -> Prop}(ho:o.op=.call {callee:=.value x,args:=ars,argTypes:=tys})(hx:evA ⟨n,T,s,ts⟩ x=some (Cv (.func (.func F) fst cap)))(hd:o.dst=some d)(hn:d<n)
  (hcf:∀args w,(callFunc F args).run P w=.ok (.enter F args) w) (has:ars.toList.map (evA ⟨n,T,s,ts⟩)=us.map some) (hc:aL P F (fst.toList.map cst++us++cap.toList.map cst) T' s QQ) (hT:∀b,b∈T' -> b∈T) (hTb:∀b,b∈T' -> b∈s.bl) (hU:s.bl.Nodup -> ∀b,b∈T' -> b∈U)
  (h:∀r s',QQ r s' -> ∃T2,(s'.bl.Nodup -> ∀b,b∈T2 -> b∈s'.bl /\ (b∈s.bl -> b∈T)) /\ K ⟨n,T2++T,s',(d,r)::ts⟩):AO P U o ⟨n,T,s,ts⟩ K:=by
 intro a w hs KK QQ' hK
 obtain ⟨h1,h2⟩:=rU hs has
 obtain ⟨c1,c2⟩:=aA7 (bI s.bl w) fst.toList
 obtain ⟨d1,d2⟩:=aA7 (bI s.bl w) cap.toList
 obtain ⟨g1,g2⟩:=aBo c1 c2 h1 h2
 obtain ⟨g3,g4⟩:=aBo g1 g2 d1 d2
 unfold Oper.wp
 rw [show (execOp a.eval o).run P w=.ok (.enter F (fst.toList++ars.toList.map a.eval++cap.toList).toArray) w from by
  simp only [execOp,ho,resolve,hs.val hx,Deferred.ofValue,Sem.run_bind,Sem.run_pure,Result.andThen_ok,invoke]
  rw [hcf]
  congr 2
  rw [←Array.toList_inj];simp,Oper.upon_enter]
 refine (hc _ w hs.mem hTb g3 g4).mono ?_
 rintro en w' ⟨r,v,s',rfl,hq,hr,hm,hk,hb⟩
 dsimp only
 rw [hd]
 obtain ⟨T2,ht,hK2⟩:=h r s' hq
 have s1:=hs.step (T2++T) (hk.mono hTb) hm hb
 refine hK _ _ _ hK2 (s1.put hn hr) ⟨hk.mono hTb,hk.mono hT,hb,λb hb2=>?_⟩ (hk.mono (hU hs.mem.nodup))
 rcases mem_append.1 hb2 with hb2|hb2
 ·obtain ⟨e1,e2⟩:=ht hm.nodup b hb2
  exact (hb b e1).imp e2 id
 exact .inl hb2
theorem aFb{bx bx':List Box}{r r':bA}{rw:List bA}{b:Nat}(hb:bx'.map Box.b=bx.map Box.b)(hn:(⟨bx',r'::rw⟩:Sto).bl.Nodup)(h1:b∈aY r'.v)(h2:b∈(⟨bx,r::rw⟩:Sto).bl):b∈aY r.v:=by
 unfold Sto.bl at hn h2
 simp only [List.flatMap_cons,mem_append] at h2
 simp only [List.flatMap_cons] at hn
 rw [hb] at hn
 rcases h2 with h|h|h
 ·exact absurd Y ((List.nodup_append.1 hn).2.2 b h b (List.mem_append_left _ h1))
 ·exact h
 exact absurd Y ((List.nodup_append.1 (List.nodup_append.1 hn).2.1).2.2 b h1 b h)
end
end
section
open Go.RowKit
def aGg(places:Bool)(l m:List Tok):Prop:=l.length=m.length /\ ∀k (h:k<l.length) (h':k<m.length),l[k].kind=m[k].kind /\ l[k].text=m[k].text /\ l[k].num=m[k].num /\ (places=true -> l[k].pos=m[k].pos)
theorem aGg.refl(p:Bool)(l:List Tok):aGg p l l:=⟨rfl,λ_ _ _=>⟨rfl,rfl,rfl,λ_=>rfl⟩⟩
abbrev aC0(bs:List UInt8)(m:Int):AT:=.fact (.fact (.c (.sl bs.length (iF bs))) 0 0 (words.map λx=>Vs x)) 2 0 [Vi m]
theorem aIt{t:AT}{b o:Nat}{cs:List AC}:Wk (.fact t b o cs) t:=λw v h=>by cases h with|fact _ _ _ _ us _ h _ _=>exact h
theorem aLu{bs:List UInt8}{m:Int}:Wk (aC0 bs m) (.c (.sl bs.length (iF bs))):=λw v h=>aIt w v (aIt w v h)
theorem yC{w:World}{us vs:List Value}(h:fG w (vs.map .val) us):us=vs:=by
 refine List.ext_getElem (by have:=h.len;simpa using this) λi h1 h2=>?_
 have h3:=h.at_ i B4 h1
 generalize hx:(vs.map AC.val)[i]'(by simpa using h2)=x at h3
 rw [List.getElem_map] at hx
 subst hx
 generalize us[i]=u at h3
 cases h3;rfl
theorem aO7{bl:List Nat}{w:World}{bs:List UInt8}{m:Int}{v:Value}(h:dO (bI bl w) (aC0 bs m) v):Env w:=by
 cases h with
 |fact _ _ _ _ us2 _ h hm hma=>
  cases h with
  |fact _ _ _ _ us _ _ hw hwa=>
   obtain rfl:us2=[.int .i64 m]:=yC (vs:=[.int .i64 m]) hm
   obtain rfl:us=words.map .string:=yC (vs:=words.map .string) (by rw [List.map_map];exact hw)
   have h1:∀j,j<words.length -> w.cell? ⟨0,0+j,none⟩=some (.string (words.getD j ByteArray.empty)):=λj hj=>by
    refine (gA (hwa j _ ?_)).1
    rw [List.getElem?_map,List.getElem?_eq_getElem hj];simp [List.getD,hj]
   have h2:w.cell? ⟨2,0,none⟩=some (.int .i64 m):=(gA (hma 0 _ Y)).1
   refine ⟨h1,⟨m,h2⟩,?_⟩
   have e1:=gV (h1 0 V)
   have e2:=gV h2
   exact Nat.succ_le_of_lt (Nat.max_lt.2 ⟨e1,e2⟩)
theorem aRa{F:FuncId}{bs:List UInt8}{s:Sto}{t0:AT}(hF:∀v w,dO (bI s.bl w) t0 v -> Calls prog F #[v] w λe w'=>(∃v pos er,e=.returned (.tuple #[v,.int .i64 pos,.int .i64 er]) /\ aCp w' w.heap.size bs v pos er) /\ Below w.heap.size w w'):
  aL prog F [t0] [] s λt s'=>aOk bs t /\ s'=s:=by
 intro vs w hm _ hl hr
 obtain ⟨v,rfl⟩:∃v,vs=[v]:=by
  cases vs with
  |nil=>cases hl
  |cons v vs=>cases vs with
   |nil=>exact ⟨v,rfl⟩
   |cons _ _=>simp at hl
 refine (hF v w (hr 0 G0 G0)).mono λe w' ⟨⟨v',pos,er,he,hf⟩,hb⟩=>?_
 have hk:cW [] w w':=cW.of_below hb
 have hu:Up2 (bI s.bl w) (bI s.bl w'):=jA hk Bu (λb h=>.inl h)
 obtain ⟨m1,m2⟩:=hm.up hu CS
 have hm':Mem s w':=⟨hm.nodup,λb hb'=>Nat.lt_of_lt_of_le (hm.lt b hb') hk.size,m1,m2⟩
 have t3:∀(x:AT)(p e2:Int),dO (bI s.bl w') x v' -> dO (bI s.bl w') (.tup [x,Ci p,Ci e2]) (.tuple #[v',.int .i64 p,.int .i64 e2]):=λx p e2 hx=>by
  refine .tup _ [v',.int .i64 p,.int .i64 e2] Y λi h h'=>?_
  match i,h,h' with
  |0,_,_=>exact hx
  |1,_,_=>exact .c _ _ (.val _ rfl)
  |2,_,_=>exact .c _ _ (.val _ rfl)
 subst he
 rcases hf with ⟨l,h1,h2,rfl,rfl,h3⟩|⟨p,e2,h1,rfl,rfl,rfl,h2⟩
 ·refine ⟨_,_,s,Y,⟨.inl ⟨l,h1,Y,h3⟩,Y⟩,t3 _ _ _ (.c _ _ (.sl _ _ (dL l) _ (aEs h2 hm.lt) ?_ ?_ ?_)),hm',hk,λb hb=>.inl hb⟩
  ·rw [uW];simp
  ·rw [uW];exact (gU _ _ (aEv l)).at_
  exact uK h2
 exact ⟨_,_,s,Y,⟨.inr ⟨p,e2,h1,Y,h2⟩,Y⟩,t3 _ _ _ (.c _ _ (.val _ Y)),hm',hk,λb hb=>.inl hb⟩
theorem aP8(bs:List UInt8)(m:Int)(s:Sto):aL prog 94 [aC0 bs m] [] s λt s'=>aOk bs t /\ s'=s:=
 aRa λv w h=>aOn bs v w (aO7 h) ((aBm (aLu _ _ h)).1.mono λa u h=>(gA h).1)
section
variable {P:Program}{U T:List Nat}{o:Oper}{n d:Nat}{ts:List (Nat×AT)}{s:Sto}{K:AS -> Prop}
theorem aQk{F:FuncId}{ars:Array Operand}{tys:Array TypeId}{us:List AT}(T':List Nat){QQ:AT -> Sto -> Prop}(ho:o.op=.call {callee:=.value (.func F),args:=ars,argTypes:=tys})(hd:o.dst=some d)(hn:d<n)
  (hcf:∀args w,(callFunc F args).run P w=.ok (.enter F args) w) (has:ars.toList.map (evA ⟨n,T,s,ts⟩)=us.map some) (hc:aL P F us T' s QQ) (hT:∀b,b∈T' -> b∈T) (hTb:∀b,b∈T' -> b∈s.bl) (hU:s.bl.Nodup -> ∀b,b∈T' -> b∈U)
  (h:∀r s',QQ r s' -> ∃T2,(s'.bl.Nodup -> ∀b,b∈T2 -> b∈s'.bl /\ (b∈s.bl -> b∈T)) /\ K ⟨n,T2++T,s',(d,r)::ts⟩):AO P U o ⟨n,T,s,ts⟩ K:=by
 intro a w hs KK QQ' hK
 obtain ⟨h1,h2⟩:=rU hs has
 unfold Oper.wp
 rw [show (execOp a.eval o).run P w=.ok (.enter F (ars.toList.map a.eval).toArray) w from by
  simp only [execOp,ho,resolve,Deferred.ofValue,Act.eval,Sem.run_bind,Sem.run_pure,Result.andThen_ok,invoke]
  rw [hcf]
  congr 2
  rw [←Array.toList_inj];simp,Oper.upon_enter]
 refine (hc _ w hs.mem hTb h1 h2).mono ?_
 rintro en w' ⟨r,v,s',rfl,hq,hr,hm,hk,hb⟩
 dsimp only
 rw [hd]
 obtain ⟨T2,ht,hK2⟩:=h r s' hq
 have s1:=hs.step (T2++T) (hk.mono hTb) hm hb
 refine hK _ _ _ hK2 (s1.put hn hr) ⟨hk.mono hTb,hk.mono hT,hb,λb hb2=>?_⟩ (hk.mono (hU hs.mem.nodup))
 rcases mem_append.1 hb2 with hb2|hb2
 ·obtain ⟨e1,e2⟩:=ht hm.nodup b hb2
  exact (hb b e1).imp e2 id
 exact .inl hb2
theorem aJ2{bx bx':List Box}{rs rs' rw:List bA}{b:Nat}(hb:bx'.map Box.b=bx.map Box.b)(hn:(⟨bx',rs'++rw⟩:Sto).bl.Nodup)(h1:b∈rs'.flatMap λr=>aY r.v)(h2:b∈(⟨bx,rs++rw⟩:Sto).bl):b∈rs.flatMap λr=>aY r.v:=by
 unfold Sto.bl at hn h2
 simp only [List.flatMap_append,mem_append] at h2
 simp only [List.flatMap_append] at hn
 rw [hb] at hn
 rcases h2 with h|h|h
 ·exact absurd Y ((List.nodup_append.1 hn).2.2 b h b (List.mem_append_left _ h1))
 ·exact h
 exact absurd Y ((List.nodup_append.1 (List.nodup_append.1 hn).2.1).2.2 b h1 b h)
end
end
section
open Go.RowKit
theorem grownCap_le(w:World)(n:Nat)(e:TypeId)(hn:n<9223372036854775808):n <= grownCap w n 0 e /\ grownCap w n 0 e <= 9223372036854775807:=by
 unfold grownCap Question.cut
 have:w.tape w.drawn (.appendCap n 0 e)%(2 ^ 63-n)<2 ^ 63-n:=Nat.mod_lt _ J
 simp only
 omega
theorem aAt(w:World)(s:ByteArray)(c:Nat)(T:TypeId)(hc:s.size <= c)(fr:Nat×Nat):dD (w.drew.alloc (.cells (bytesRow s c) T fr)) (.slice (some ⟨w.heap.size,0,none⟩) s.size c) s.data.toList.length (cC s.data.toList):=by
 refine ⟨_,_,Y,hc,.inr ⟨_,0,Y,λj u hu=>?_⟩⟩
 have hm:=World.cell?_alloc_mark w.drew (bytesRow s c) T fr j
 rw [Nat.zero_add]
 have e:(⟨w.drew.heap.size,j,none⟩:Addr)=⟨w.heap.size,j,none⟩:=Y
 rw [←e,hm]
 have hj:j<s.data.toList.length:=by
  have:=(List.getElem?_eq_some_iff.1 hu).1
  simpa [cC] using this
 unfold bytesRow
 rw [Array.getElem?_append_left (by simpa using hj)]
 simp only [cC,List.getElem?_map] at hu
 simpa using hu
end
section
inductive bN (α:Type) where
 |ok (x:α) (k:Nat)
 |err (k e:Nat)
def bU(l:List Tok)(k:Nat):Tok:=l.getD k default
theorem bG{l:List Tok}{k:Nat}(h:k<l.length):bU l k=l[k]:=by unfold bU;rw [List.getD_eq_getElem?_getD,List.getElem?_eq_getElem h];rfl
def binOp(s:ByteArray):Nat×Nat:=
 if s=bytes [124,124] then (17,1) else if s=bytes [38,38] then (16,2) else if s=bytes [61,61] then (14,3) else if s=bytes [33,61] then (15,3) else
 if s=bytes [60] then (10,3) else if s=bytes [60,61] then (11,3) else if s=bytes [62] then (12,3) else if s=bytes [62,61] then (13,3) else
 if s=bytes [43] then (8,4) else if s=bytes [45] then (9,4) else if s=bytes [42] then (5,5) else if s=bytes [47] then (6,5) else if s=bytes [37] then (7,5) else (0,0)
def cS(l:List Tok)(k:Nat)(s:List UInt8):Bool:=decide ((bU l k).kind=4) && decide ((bU l k).text=bytes s)
def fR(l:List Tok)(sub:Nat -> bN aH)(level:Nat):Nat -> aH -> Nat -> bN aH
 |0,x,k=>.ok x k
 |n+1,x,k=>
  if (bU l k).kind=4 /\ (binOp (bU l k).text).2=level then
   match sub (k+1) with
   |.ok y k'=>fR l sub level n (.mk ((binOp (bU l k).text).1:Int) 0 aK [x,y]) k'
   |.err a e=>.err a e
  else .ok x k
def gS(l:List Tok)(single:Nat -> bN aH):Nat -> Nat -> bN aH
 |0,k=>single k
 |j+1,k=>
  match gS l single j k with
  |.ok x k'=>fR l (gS l single j) (5-j) (l.length+1) x k'
  |.err a e=>.err a e
def aKc(op:Int):bN aH -> bN aH
 |.ok x k=>.ok (.mk op 0 aK [x]) k
 |.err a e=>.err a e
def aHo(l:List Tok):bN aH -> bN aH
 |.ok x k=>if cS l k [41] then .ok x (k+1) else .err k 4
 |.err a e=>.err a e
def bL(l:List Tok):Nat -> Nat -> bN aH
 |0,k=>
  if (bU l k).kind=2 then .ok (.mk 1 (bU l k).num aK []) (k+1)
  else if (bU l k).kind=1 then .ok (.mk 2 0 (bU l k).text []) (k+1)
  else if cS l k [45]||cS l k [33]||cS l k [40] then .err k 3
  else .err k 4
 |d+1,k=>
  if (bU l k).kind=2 then .ok (.mk 1 (bU l k).num aK []) (k+1)
  else if (bU l k).kind=1 then .ok (.mk 2 0 (bU l k).text []) (k+1)
  else if cS l k [45] then aKc 3 (bL l d (k+1))
  else if cS l k [33] then aKc 4 (bL l d (k+1))
  else if cS l k [40] then aHo l (gS l (bL l d) 5 (k+1))
  else .err k 4
def lJ(l:List Tok)(k:Nat):bN aH:=gS l (bL l 24) 5 k
def rP(l:List Tok):Prop:=∃h:0<l.length,(l[l.length-1]'(by omega)).kind=5
theorem rP.more{l:List Tok}(h:rP l){k:Nat}(hk:k<l.length)(hn:(bU l k).kind≠5):k+1<l.length:=by
 obtain ⟨h0,h1⟩:=h
 rcases Nat.lt_or_ge (k+1) l.length with h|h
 ·exact h
 exfalso;apply hn;rw [bG hk];obtain rfl:k=l.length-1:=by omega
 exact h1
theorem mD{l:List Tok}{k:Nat}{s:List UInt8}(h:cS l k s=true):(bU l k).kind=4 /\ (bU l k).text=bytes s:=by simpa [cS] using h
def bN.In{α:Type}(l:List Tok)(k:Nat):bN α -> Prop
 |.ok _ k'=>k<k' /\ k'<l.length
 |.err a e=>k <= a /\ a<l.length /\ 0<e /\ e<16
theorem bN.In.mono{α:Type}{l:List Tok}{k j:Nat}{r:bN α}(h:r.In l k)(hj:j <= k):r.In l j:=by
 cases r<;>unfold bN.In at h⊢<;>omega
theorem aEh{l:List Tok}(hl:rP l){sub:Nat -> bN aH}{level:Nat}(hs:∀k,k<l.length -> (sub k).In l k):∀(n:Nat)(x:aH)(k j:Nat),j<k -> k<l.length -> (fR l sub level n x k).In l j
 |0,x,k,j,hj,hk=>by unfold fR;exact ⟨hj,hk⟩
 |n+1,x,k,j,hj,hk=>by
  unfold fR
  by_cases ht:(bU l k).kind=4 /\ (binOp (bU l k).text).2=level
  ·rw [if_pos ht]
   have hm:=hl.more hk J
   have h1:=hs (k+1) hm
   cases hr:sub (k+1) with
   |ok y k'=>
    rw [hr] at h1
    obtain ⟨h2,h3⟩:=h1
    exact aEh hl hs n _ k' j J h3
   |err a e=>
    rw [hr] at h1
    obtain ⟨h2,h3,h4,h5⟩:=h1
    exact ⟨J,h3,h4,h5⟩
  rw [if_neg ht];exact ⟨hj,hk⟩
theorem vV{l:List Tok}(hl:rP l){single:Nat -> bN aH}(hs:∀k,k<l.length -> (single k).In l k):∀(j k:Nat),k<l.length -> (gS l single j k).In l k
 |0,k,hk=>by unfold gS;exact hs k hk
 |j+1,k,hk=>by
  unfold gS
  have h1:=vV hl hs j k hk
  cases hr:gS l single j k with
  |ok x k'=>
   rw [hr] at h1
   exact aEh hl (λk hk=>vV hl hs j k hk) _ _ _ _ h1.1 h1.2
  |err a e=>rw [hr] at h1;exact h1
theorem aIv{l:List Tok}{op:Int}{k j:Nat}{r:bN aH}(h:r.In l k)(hj:j <= k):(aKc op r).In l j:=by
 cases r with
 |ok x k'=>obtain ⟨h1,h2⟩:=h;exact ⟨J,h2⟩
 |err a e=>obtain ⟨h1,h2,h3,h4⟩:=h;exact ⟨J,h2,h3,h4⟩
theorem aPq{l:List Tok}(hl:rP l){k j:Nat}{r:bN aH}(h:r.In l k)(hj:j <= k):(aHo l r).In l j:=by
 cases r with
 |ok x k'=>
  obtain ⟨h1,h2⟩:=h
  show bN.In l j (if cS l k' [41] then .ok x (k'+1) else .err k' 4)
  by_cases hs:cS l k' [41]=true
  ·rw [if_pos hs];exact ⟨J,hl.more h2 (by rw [(mD hs).1];decide)⟩
  ·rw [if_neg hs];exact ⟨J,h2,J,J⟩
 |err a e=>obtain ⟨h1,h2,h3,h4⟩:=h;exact ⟨J,h2,h3,h4⟩
theorem nP{l:List Tok}(hl:rP l):∀(d k:Nat),k<l.length -> (bL l d k).In l k
 |0,k,hk=>by
  unfold bL
  by_cases h1:(bU l k).kind=2
  ·rw [if_pos h1];exact ⟨J,hl.more hk J⟩
  ·rw [if_neg h1]
   by_cases h2:(bU l k).kind=1
   ·rw [if_pos h2];exact ⟨J,hl.more hk J⟩
   ·rw [if_neg h2];split<;>exact ⟨J,hk,J,J⟩
 |d+1,k,hk=>by
  unfold bL
  by_cases h1:(bU l k).kind=2
  ·rw [if_pos h1];exact ⟨J,hl.more hk J⟩
  rw [if_neg h1]
  by_cases h2:(bU l k).kind=1
  ·rw [if_pos h2];exact ⟨J,hl.more hk J⟩
  rw [if_neg h2]
  by_cases h3:cS l k [45]=true
  ·rw [if_pos h3];exact aIv (nP hl d _ (hl.more hk (by rw [(mD h3).1];decide))) J
  rw [if_neg h3]
  by_cases h4:cS l k [33]=true
  ·rw [if_pos h4];exact aIv (nP hl d _ (hl.more hk (by rw [(mD h4).1];decide))) J
  rw [if_neg h4]
  by_cases h5:cS l k [40]=true
  ·rw [if_pos h5];exact aPq hl (vV hl (λk hk=>nP hl d k hk) _ _ (hl.more hk (by rw [(mD h5).1];decide))) J
  rw [if_neg h5];exact ⟨J,hk,J,J⟩
theorem kY{l:List Tok}(hl:rP l){k:Nat}(hk:k<l.length):(lJ l k).In l k:=vV hl (λk hk=>nP hl 24 k hk) 5 k hk
end
section
def bN.bind{α β:Type}(r:bN α)(f:α -> Nat -> bN β):bN β:=
 match r with
 |.ok x k=>f x k
 |.err a e=>.err a e
def dN(l:List Tok)(k:Nat)(s:List UInt8):Bool:=decide ((bU l k).kind=3) && decide ((bU l k).text=bytes s)
def jW(l:List Tok)(k:Nat):bN ByteArray:=if (bU l k).kind=1 then .ok (bU l k).text (k+1) else .err k 4
def dAh(l:List Tok)(k:Nat):bN Nat:=if (bU l k).kind=2 then .ok (bU l k).num (k+1) else .err k 4
def fD(l:List Tok)(s:List UInt8)(k:Nat):bN Unit:=if cS l k s then .ok () (k+1) else .err k 4
def jT(l:List Tok)(n:ByteArray)(k:Nat):bN cY:=
 if cS l k [91] then (lJ l (k+1)).bind λe k=>(fD l [93] k).bind λ_ k=>.ok ⟨n,[e]⟩ k else .ok ⟨n,[]⟩ k
def xV(l:List Tok)(k:Nat):bN cY:=(jW l k).bind (jT l)
def rC(l:List Tok)(k:Nat):bN eN:=
 if dN l k [109,117,116,101,120] then (xV l (k+1)).bind λr k=>.ok ⟨true,r,.zero⟩ k
 else (lJ l k).bind λe k=>.ok ⟨false,.zero,e⟩ k
def lI{α:Type}(l:List Tok)(el:Nat -> Nat -> bN α):Nat -> List α -> Nat -> bN (List α)
 |0,_,k=>.err k 4
 |n+1,acc,k=>(el acc.length k).bind λx k=>if cS l k [44] then lI l el n (acc++[x]) (k+1) else (fD l [41] k).bind λ_ k=>.ok (acc++[x]) k
def jC{α:Type}(l:List Tok)(el:Nat -> Nat -> bN α)(k:Nat):bN (List α):=
 (fD l [40] k).bind λ_ k=>if cS l k [41] then .ok [] (k+1) else lI l el l.length [] k
def rA(l:List Tok)(k:Nat):bN (List eN):=jC l (λ_=>rC l) k
def oO(l:List Tok)(s:aJ)(k:Nat):bN aJ:=(fD l [59] k).bind λ_ k=>.ok s k
def qI(l:List Tok)(k:Nat):bN aJ:=(jW l k).bind λn k=>(fD l [61] k).bind λ_ k=>(lJ l k).bind λe k=>oO l (.mk 1 n e .zero [] [] []) k
def goP(l:List Tok)(k:Nat):bN aJ:=(jW l k).bind λn k=>(rA l k).bind λa k=>oO l (.mk 4 n .zero .zero a [] []) k
def nH(l:List Tok)(kind:Int)(k:Nat):bN aJ:=(xV l k).bind λr k=>oO l (.mk kind aK .zero r [] [] []) k
def tA(l:List Tok)(blk:Nat -> bN (List aJ))(e:aH)(t:List aJ)(k:Nat):bN aJ:=
 if dN l k [101,108,115,101] then (blk (k+1)).bind λf k=>.ok (.mk 7 aK e .zero [] t f) k else .ok (.mk 7 aK e .zero [] t []) k
def ifP(l:List Tok)(blk:Nat -> bN (List aJ))(k:Nat):bN aJ:=(lJ l k).bind λe k=>(blk k).bind λt k=>tA l blk e t k
def pJ(l:List Tok)(blk:Nat -> bN (List aJ))(k:Nat):bN aJ:=(lJ l k).bind λe k=>(blk k).bind λt k=>.ok (.mk 8 aK e .zero [] t []) k
def aD8(l:List Tok)(k:Nat):bN aJ:=oO l (.mk 9 aK .zero .zero [] [] []) k
def iB(l:List Tok)(n:ByteArray)(k:Nat):bN aJ:=
 if cS l k [61] then (lJ l (k+1)).bind λe k=>oO l (.mk 2 n e .zero [] [] []) k else (rA l k).bind λa k=>oO l (.mk 3 n .zero .zero a [] []) k
def dAv(l:List Tok)(k:Nat):bN aJ:=(jW l k).bind (iB l)
def fB(l:List Tok)(blk:Nat -> bN (List aJ))(k:Nat):bN aJ:=
 if dN l k [118,97,114] then qI l (k+1)
 else if dN l k [103,111] then goP l (k+1)
 else if dN l k [108,111,99,107] then nH l 5 (k+1)
 else if dN l k [117,110,108,111,99,107] then nH l 6 (k+1)
 else if dN l k [105,102] then ifP l blk (k+1)
 else if dN l k [119,104,105,108,101] then pJ l blk (k+1)
 else if dN l k [114,101,116,117,114,110] then aD8 l (k+1)
 else dAv l k
def eS(l:List Tok)(st:Nat -> bN aJ):Nat -> List aJ -> Nat -> bN (List aJ)
 |0,_,k=>.err k 4
 |n+1,acc,k=>if cS l k [125] then .ok acc (k+1) else (st k).bind λs k=>eS l st n (acc++[s]) k
def eX(l:List Tok):Nat -> Nat -> bN (List aJ)
 |0,k=>if cS l k [123] then .err k 3 else .err k 4
 |d+1,k=>(fD l [123] k).bind λ_ k=>eS l (fB l (eX l d)) l.length [] k
def dA3(l:List Tok)(k:Nat):bN aI:=
 (jW l k).bind λn k=>
  if cS l k [61] then
   if cS l (k+1) [45] then (dAh l (k+2)).bind λi k=>(fD l [59] k).bind λ_ k=>.ok ⟨n,-(i:Int)⟩ k
   else (dAh l (k+1)).bind λi k=>(fD l [59] k).bind λ_ k=>.ok ⟨n,i⟩ k
  else (fD l [59] k).bind λ_ k=>.ok ⟨n,0⟩ k
def qX(l:List Tok)(k:Nat):bN Nat:=(dAh l k).bind λi k'=>if i<1∨64<i then .err k 3 else .ok i k'
def nE(l:List Tok)(re:Bool)(k:Nat):bN cL:=
 (jW l k).bind λn k=>
  if re=false /\ cS l k [91]=true then (qX l (k+1)).bind λi k=>(fD l [93] k).bind λ_ k=>(fD l [59] k).bind λ_ k=>.ok ⟨n,re,i⟩ k
  else (fD l [59] k).bind λ_ k=>.ok ⟨n,re,0⟩ k
def fQ(l:List Tok)(n k:Nat):bN aS:=
 if 6 <= n /\ ((bU l k).kind=1∨dN l k [109,117,116,101,120]=true) then .err k 3
 else if dN l k [109,117,116,101,120] then (jW l (k+1)).bind λs k=>.ok ⟨s,true⟩ k else (jW l k).bind λs k=>.ok ⟨s,false⟩ k
def sW(l:List Tok)(k:Nat):bN bS:=(jW l k).bind λn k=>(jC l (fQ l) k).bind λp k=>(eX l 24 k).bind λb k=>.ok ⟨n,p,b⟩ k
def gR(l:List Tok)(x:cK)(k:Nat):bN cK:=
 if dN l k [118,97,114] then if 16 <= x.globals.length then .err k 3 else (dA3 l (k+1)).bind λg k=>.ok {x with globals:=x.globals++[g]} k
 else if dN l k [109,117,116,101,120] then if 12 <= x.mutexes.length then .err k 3 else (nE l false (k+1)).bind λm k=>.ok {x with mutexes:=x.mutexes++[m]} k
 else if dN l k [114,109,117,116,101,120] then if 12 <= x.mutexes.length then .err k 3 else (nE l true (k+1)).bind λm k=>.ok {x with mutexes:=x.mutexes++[m]} k
 else if dN l k [102,117,110,99] then if 16 <= x.funcs.length then .err k 3 else (sW l (k+1)).bind λf k=>.ok {x with funcs:=x.funcs++[f]} k
 else .err k 4
def lK(l:List Tok):Nat -> cK -> Nat -> bN cK
 |0,_,k=>.err k 4
 |n+1,x,k=>if (bU l k).kind=5 then .ok x k else (gR l x k).bind λy k=>lK l n y k
def fH(l:List Tok):bN cK:=lK l l.length ⟨[],[],[]⟩ 0
theorem kP{l:List Tok}{k:Nat}{s:List UInt8}(h:dN l k s=true):(bU l k).kind=3 /\ (bU l k).text=bytes s:=by simpa [dN] using h
def bN.At{α:Type}(l:List Tok)(k:Nat):bN α -> Prop
 |.ok _ k'=>k <= k' /\ k'<l.length
 |.err a e=>k <= a /\ a<l.length /\ 0<e /\ e<16
theorem bN.In.at{α:Type}{l:List Tok}{k:Nat}{r:bN α}(h:r.In l k):r.At l k:=by
 cases r<;>unfold bN.In at h<;>unfold bN.At<;>omega
theorem bN.At.mono{α:Type}{l:List Tok}{k j:Nat}{r:bN α}(h:r.At l k)(hj:j <= k):r.At l j:=by
 cases r<;>unfold bN.At at h⊢<;>omega
theorem bN.At.in{α:Type}{l:List Tok}{k j:Nat}{r:bN α}(h:r.At l k)(hj:j<k):r.In l j:=by
 cases r<;>unfold bN.At at h<;>unfold bN.In<;>omega
theorem bN.In.bind{α β:Type}{l:List Tok}{k:Nat}{r:bN α}{f:α -> Nat -> bN β}(h:r.In l k)(hf:∀x k',k<k' -> k'<l.length -> (f x k').At l k'):(r.bind f).In l k:=by
 cases r with
 |ok x k'=>unfold bN.In at h;exact (hf x k' h.1 h.2).in h.1
 |err a e=>exact h
theorem bN.At.bind{α β:Type}{l:List Tok}{k:Nat}{r:bN α}{f:α -> Nat -> bN β}(h:r.At l k)(hf:∀x k',k <= k' -> k'<l.length -> (f x k').At l k'):(r.bind f).At l k:=by
 cases r with
 |ok x k'=>unfold bN.At at h;exact (hf x k' h.1 h.2).mono h.1
 |err a e=>exact h
theorem jO{α:Type}{l:List Tok}{k:Nat}{x:α}(hk:k<l.length):(bN.ok x k).At l k:=⟨Nat.le_refl _,hk⟩
theorem oH{α:Type}{l:List Tok}{k:Nat}(hk:k<l.length):(bN.err k 4:bN α).In l k:=⟨Nat.le_refl _,hk,J,J⟩
theorem qK{α:Type}{l:List Tok}{k:Nat}(hk:k<l.length):(bN.err k 3:bN α).In l k:=⟨Nat.le_refl _,hk,J,J⟩
section
variable {l:List Tok}(hl:rP l)
include hl
theorem gZ{k:Nat}(hk:k<l.length):(jW l k).In l k:=by
 unfold jW;split
 ·exact ⟨J,hl.more hk J⟩
 exact oH hk
theorem aDd{k:Nat}(hk:k<l.length):(dAh l k).In l k:=by
 unfold dAh;split
 ·exact ⟨J,hl.more hk J⟩
 exact oH hk
theorem eF{k:Nat}{s:List UInt8}(hk:k<l.length)(h:cS l k s=true):k+1<l.length:=hl.more hk (by rw [(mD h).1];decide)
theorem dK{k:Nat}{s:List UInt8}(hk:k<l.length)(h:dN l k s=true):k+1<l.length:=hl.more hk (by rw [(kP h).1];decide)
theorem cZp{k:Nat}(s:List UInt8)(hk:k<l.length):(fD l s k).In l k:=by
 unfold fD;split
 ·rename_i h;exact ⟨J,eF hl hk h⟩
 exact oH hk
theorem aHg{n:ByteArray}{k:Nat}(hk:k<l.length):(jT l n k).At l k:=by
 unfold jT;split
 ·rename_i h
  exact (((kY hl (eF hl hk h)).bind λ_ _ _ hk=>((cZp hl _ hk).bind λ_ _ _ hk=>jO hk).at).at).mono J
 exact jO hk
theorem aIi{k:Nat}(hk:k<l.length):(xV l k).In l k:=(gZ hl hk).bind λ_ _ _ hk=>aHg hl hk
theorem aDl{k:Nat}(hk:k<l.length):(rC l k).In l k:=by
 unfold rC;split
 ·rename_i h
  exact (((aIi hl (dK hl hk h)).bind λ_ _ _ hk=>jO hk).at).in J
 exact (kY hl hk).bind λ_ _ _ hk=>jO hk
theorem aEl{α:Type}{el:Nat -> Nat -> bN α}(he:∀n k,k<l.length -> (el n k).In l k):∀(n:Nat)(acc:List α)(k:Nat),k<l.length -> (lI l el n acc k).In l k
 |0,_,k,hk=>by unfold lI;exact oH hk
 |n+1,acc,k,hk=>by
  unfold lI
  refine (he acc.length k hk).bind λx k' _ hk'=>?_
  split
  ·rename_i h
   exact (aEl he n _ (k'+1) (eF hl hk' h)).at.mono J
  exact ((cZp hl _ hk').bind λ_ _ _ hk=>jO hk).at
theorem tK{α:Type}{el:Nat -> Nat -> bN α}(he:∀n k,k<l.length -> (el n k).In l k){k:Nat}(hk:k<l.length):(jC l el k).In l k:=by
 unfold jC
 refine (cZp hl _ hk).bind λx k' _ hk'=>?_
 split
 ·rename_i h
  exact (jO (eF hl hk' h)).mono J
 exact (aEl hl he _ _ _ hk').at
theorem aGe{k:Nat}(hk:k<l.length):(rA l k).In l k:=tK hl (λ_ _ hk=>aDl hl hk) hk
theorem sR{s:aJ}{k:Nat}(hk:k<l.length):(oO l s k).In l k:=(cZp hl _ hk).bind λ_ _ _ hk=>jO hk
theorem aKp{k:Nat}(hk:k<l.length):(qI l k).In l k:=
 (gZ hl hk).bind λ_ _ _ hk=>((cZp hl _ hk).bind λ_ _ _ hk=>((kY hl hk).bind λ_ _ _ hk=>(sR hl hk).at).at).at
theorem aQj{k:Nat}(hk:k<l.length):(goP l k).In l k:=(gZ hl hk).bind λ_ _ _ hk=>((aGe hl hk).bind λ_ _ _ hk=>(sR hl hk).at).at
theorem aEj{kd:Int}{k:Nat}(hk:k<l.length):(nH l kd k).In l k:=(aIi hl hk).bind λ_ _ _ hk=>(sR hl hk).at
theorem aCl{n:ByteArray}{k:Nat}(hk:k<l.length):(iB l n k).At l k:=by
 unfold iB;split
 ·rename_i h
  exact (((kY hl (eF hl hk h)).bind λ_ _ _ hk=>(sR hl hk).at).at).mono J
 exact ((aGe hl hk).bind λ_ _ _ hk=>(sR hl hk).at).at
theorem aJh{k:Nat}(hk:k<l.length):(dAv l k).In l k:=(gZ hl hk).bind λ_ _ _ hk=>aCl hl hk
section
variable {blk:Nat -> bN (List aJ)}(hb:∀k,k<l.length -> (blk k).In l k)
include hb
theorem aLw{e:aH}{t:List aJ}{k:Nat}(hk:k<l.length):(tA l blk e t k).At l k:=by
 unfold tA;split
 ·rename_i h
  exact (((hb _ (dK hl hk h)).bind λ_ _ _ hk=>jO hk).at).mono J
 exact jO hk
theorem aQg{k:Nat}(hk:k<l.length):(ifP l blk k).In l k:=(kY hl hk).bind λ_ _ _ hk=>((hb _ hk).bind λ_ _ _ hk=>aLw hl hb hk).at
theorem aKb{k:Nat}(hk:k<l.length):(pJ l blk k).In l k:=(kY hl hk).bind λ_ _ _ hk=>((hb _ hk).bind λ_ _ _ hk=>jO hk).at
theorem dB3{k:Nat}(hk:k<l.length):(fB l blk k).In l k:=by
 unfold fB
 split;·rename_i h;exact (aKp hl (dK hl hk h)).mono J
 split;·rename_i h;exact (aQj hl (dK hl hk h)).mono J
 split;·rename_i h;exact (aEj hl (dK hl hk h)).mono J
 split;·rename_i h;exact (aEj hl (dK hl hk h)).mono J
 split;·rename_i h;exact (aQg hl hb (dK hl hk h)).mono J
 split;·rename_i h;exact (aKb hl hb (dK hl hk h)).mono J
 split;·rename_i h;exact (sR hl (dK hl hk h)).mono J
 exact aJh hl hk
end
theorem aB8{st:Nat -> bN aJ}(hs:∀k,k<l.length -> (st k).In l k):∀(n:Nat)(acc:List aJ)(k:Nat),k<l.length -> (eS l st n acc k).In l k
 |0,_,k,hk=>by unfold eS;exact oH hk
 |n+1,acc,k,hk=>by
  unfold eS;split
  ·rename_i h;exact ⟨J,eF hl hk h⟩
  exact (hs k hk).bind λs k' _ hk'=>(aB8 hs n _ k' hk').at
theorem pB:∀(d k:Nat),k<l.length -> (eX l d k).In l k
 |0,k,hk=>by unfold eX;split;exact qK hk;exact oH hk
 |d+1,k,hk=>by
  unfold eX
  exact (cZp hl _ hk).bind λ_ k' _ hk'=>(aB8 hl (λk hk=>dB3 hl (λk hk=>pB d k hk) hk) _ _ _ hk').at
theorem aGr{k:Nat}(hk:k<l.length):(dA3 l k).In l k:=by
 unfold dA3
 refine (gZ hl hk).bind λ_ k _ hk=>?_
 split
 ·rename_i h
  have h1:=eF hl hk h
  split
  ·rename_i h2
   have h3:=eF hl h1 h2
   exact (((aDd hl h3).bind λ_ _ _ hk=>((cZp hl _ hk).bind λ_ _ _ hk=>jO hk).at).at).mono J
  exact (((aDd hl h1).bind λ_ _ _ hk=>((cZp hl _ hk).bind λ_ _ _ hk=>jO hk).at).at).mono J
 exact ((cZp hl _ hk).bind λ_ _ _ hk=>jO hk).at
theorem aMw{k:Nat}(hk:k<l.length):(qX l k).In l k:=by
 unfold qX
 have h:=aDd hl hk
 cases hr:dAh l k with
 |ok i k'=>
  rw [hr] at h
  show bN.In l k (if i<1∨64<i then .err k 3 else .ok i k')
  split
  ·exact qK hk
  ·exact h
 |err a e=>rw [hr] at h;exact h
theorem aB7{re:Bool}{k:Nat}(hk:k<l.length):(nE l re k).In l k:=by
 unfold nE
 refine (gZ hl hk).bind λ_ k _ hk=>?_
 split
 ·rename_i h
  exact (((aMw hl (eF hl hk h.2)).bind λ_ _ _ hk=>((cZp hl _ hk).bind λ_ _ _ hk=>((cZp hl _ hk).bind λ_ _ _ hk=>jO hk).at).at).at).mono J
 exact ((cZp hl _ hk).bind λ_ _ _ hk=>jO hk).at
theorem sJ{n k:Nat}(hk:k<l.length):(fQ l n k).In l k:=by
 unfold fQ;split
 ·exact qK hk
 split
 ·rename_i h
  exact (((gZ hl (dK hl hk h)).bind λ_ _ _ hk=>jO hk).at).in J
 exact (gZ hl hk).bind λ_ _ _ hk=>jO hk
theorem aMl{k:Nat}(hk:k<l.length):(sW l k).In l k:=
 (gZ hl hk).bind λ_ _ _ hk=>((tK hl (λ_ _ hk=>sJ hl hk) hk).bind λ_ _ _ hk=>((pB hl 24 _ hk).bind λ_ _ _ hk=>jO hk).at).at
theorem aAj{x:cK}{k:Nat}(hk:k<l.length):(gR l x k).In l k:=by
 unfold gR
 split
 ·rename_i h;split
  ·exact qK hk
  exact (((aGr hl (dK hl hk h)).bind λ_ _ _ hk=>jO hk).at).in J
 split
 ·rename_i h;split
  ·exact qK hk
  exact (((aB7 hl (dK hl hk h)).bind λ_ _ _ hk=>jO hk).at).in J
 split
 ·rename_i h;split
  ·exact qK hk
  exact (((aB7 hl (dK hl hk h)).bind λ_ _ _ hk=>jO hk).at).in J
 split
 ·rename_i h;split
  ·exact qK hk
  exact (((aMl hl (dK hl hk h)).bind λ_ _ _ hk=>jO hk).at).in J
 exact oH hk
theorem aD9:∀(n:Nat)(x:cK)(k:Nat),k<l.length -> (lK l n x k).At l k
 |0,_,k,hk=>by unfold lK;exact (oH hk).at
 |n+1,x,k,hk=>by
  unfold lK;split
  ·exact jO hk
  exact ((aAj hl hk).bind λy k' _ hk'=>aD9 n y k' hk').at
end
end
section
def Run{α:Type}(e0 k0:Nat)(r:bN α)(x:α)(k e:Nat):Prop:=
 (e0≠0 /\ k=k0 /\ e=e0)∨(e0=0 /\ ((r=.ok x k /\ e=0)∨(r=.err k e /\ e≠0)))
section
variable {α β:Type}{e0 k0 k k2 e e2:Nat}{r:bN α}{x:α}{y:β}
theorem Run.skip(h:e0≠0)(r:bN α)(x:α):Run e0 k0 r x k0 e0:=.inl ⟨h,rfl,rfl⟩
theorem Run.ok(x:α)(k0 k:Nat)(h:r=.ok x k):Run 0 k0 r x k 0:=.inr ⟨rfl,.inl ⟨h,rfl⟩⟩
theorem Run.err(x:α)(k0 k e:Nat)(h:r=.err k e)(he:e≠0):Run 0 k0 r x k e:=.inr ⟨rfl,.inr ⟨h,he⟩⟩
theorem Run.pure(x:α)(k e:Nat):Run e k (.ok x k) x k e:=by
 by_cases h:e=0
 ·subst h;exact .ok x k k rfl
 exact .skip h _ _
theorem Run.bind{f:α -> Nat -> bN β}(h:Run e0 k0 r x k e)(h2:Run e k (f x k) y k2 e2):Run e0 k0 (r.bind f) y k2 e2:=by
 rcases h with ⟨h0,rfl,rfl⟩|⟨rfl,⟨rfl,rfl⟩|⟨rfl,he⟩⟩
 ·rcases h2 with ⟨_,rfl,rfl⟩|⟨h3,_⟩
  ·exact .inl ⟨h0,Y,Y⟩
  exact absurd h3 h0
 ·rcases h2 with ⟨h3,_⟩|⟨_,h2⟩
  ·exact absurd Y h3
  exact .inr ⟨Y,h2⟩
 rcases h2 with ⟨_,rfl,rfl⟩|⟨h3,_⟩
 ·exact .inr ⟨Y,.inr ⟨Y,he⟩⟩
 exact absurd h3 he
theorem Run.map{f:α -> β}(h:Run e0 k0 r x k e):Run e0 k0 (r.bind λx k=>.ok (f x) k) (f x) k e:=h.bind (Run.pure _ _ _)
theorem Run.yes{c:Prop}[Decidable c]{a b:bN α}(hc:e0=0 -> c)(h:Run e0 k0 a x k e):Run e0 k0 (if c then a else b) x k e:=by
 by_cases h0:e0=0
 ·rw [if_pos (hc h0)];exact h
 rcases h with ⟨_,rfl,rfl⟩|⟨h3,_⟩
 ·exact .skip h0 _ _
 exact absurd h3 h0
theorem Run.no{c:Prop}[Decidable c]{a b:bN α}(hc:e0=0 -> ¬c)(h:Run e0 k0 b x k e):Run e0 k0 (if c then a else b) x k e:=by
 by_cases h0:e0=0
 ·rw [if_neg (hc h0)];exact h
 rcases h with ⟨_,rfl,rfl⟩|⟨h3,_⟩
 ·exact .skip h0 _ _
 exact absurd h3 h0
theorem Run.from{k1:Nat}(h:Run 0 k1 r x k e):Run 0 k0 r x k e:=by
 rcases h with ⟨h0,_⟩|h
 ·exact absurd Y h0
 exact .inr h
theorem Run.eq{r':bN α}(h:Run e0 k0 r x k e)(hr:e0=0 -> r=r'):Run e0 k0 r' x k e:=by
 rcases h with ⟨h0,h1,h2⟩|⟨h0,h⟩
 ·exact .inl ⟨h0,h1,h2⟩
 rw [hr h0] at h;exact .inr ⟨h0,h⟩
theorem Run.good(h:Run e0 k0 r x k e)(he:e=0):e0=0 /\ r=.ok x k:=by
 rcases h with ⟨h0,_,rfl⟩|⟨rfl,⟨rfl,rfl⟩|⟨rfl,h1⟩⟩
 ·exact absurd he h0
 ·exact ⟨Y,Y⟩
 exact absurd he h1
theorem Run.place{l:List Tok}(h:Run e0 k0 r x k e)(hk:k0<l.length)(hr:e0=0 -> r.At l k0):k0 <= k /\ k<l.length:=by
 rcases h with ⟨h0,rfl,rfl⟩|⟨rfl,⟨rfl,rfl⟩|⟨rfl,h1⟩⟩
 ·exact ⟨Nat.le_refl _,hk⟩
 ·exact hr Y
 exact ⟨(hr Y).1,(hr Y).2.1⟩
theorem Run.small{l:List Tok}(h:Run e0 k0 r x k e)(he:e0<16)(hr:e0=0 -> r.At l k0):e<16:=by
 rcases h with ⟨h0,rfl,rfl⟩|⟨rfl,⟨rfl,rfl⟩|⟨rfl,h1⟩⟩
 ·exact he
 ·omega
 exact (hr Y).2.2.2
end
def kX{α:Type}(e0 b0:Nat)(r:bN α)(x:α)(k b e:Nat):Prop:=
 (e0≠0 /\ b=b0 /\ e=e0)∨(e0=0 /\ ((r=.ok x k /\ e=0 /\ b=b0)∨(r=.err b e /\ e≠0)))
section
variable {α β:Type}{e0 b0 k k0 b k2 b2 e e2:Nat}{r:bN α}{x:α}{y:β}
theorem kX.skip(h:e0≠0)(r:bN α)(x:α)(k:Nat):kX e0 b0 r x k b0 e0:=.inl ⟨h,rfl,rfl⟩
theorem kX.ok(x:α)(k b0:Nat)(h:r=.ok x k):kX 0 b0 r x k b0 0:=.inr ⟨rfl,.inl ⟨h,rfl,rfl⟩⟩
theorem kX.err(x:α)(k b0 b e:Nat)(h:r=.err b e)(he:e≠0):kX 0 b0 r x k b e:=.inr ⟨rfl,.inr ⟨h,he⟩⟩
theorem kX.pure(x:α)(k b e:Nat):kX e b (.ok x k) x k b e:=by
 by_cases h:e=0
 ·subst h;exact .ok x k b rfl
 exact .skip h _ _ _
theorem kX.bind{f:α -> Nat -> bN β}(h:kX e0 b0 r x k b e)(h2:kX e b (f x k) y k2 b2 e2):kX e0 b0 (r.bind f) y k2 b2 e2:=by
 rcases h with ⟨h0,rfl,rfl⟩|⟨rfl,⟨rfl,rfl,rfl⟩|⟨rfl,he⟩⟩
 ·rcases h2 with ⟨_,rfl,rfl⟩|⟨h3,_⟩
  ·exact .inl ⟨h0,Y,Y⟩
  exact absurd h3 h0
 ·rcases h2 with ⟨h3,_⟩|⟨_,h2⟩
  ·exact absurd Y h3
  exact .inr ⟨Y,h2⟩
 rcases h2 with ⟨_,rfl,rfl⟩|⟨h3,_⟩
 ·exact .inr ⟨Y,.inr ⟨Y,he⟩⟩
 exact absurd h3 he
theorem kX.map{f:α -> β}(h:kX e0 b0 r x k b e):kX e0 b0 (r.bind λx k=>.ok (f x) k) (f x) k b e:=h.bind (kX.pure _ _ _ _)
theorem kX.yes{c:Prop}[Decidable c]{a d:bN α}(hc:e0=0 -> c)(h:kX e0 b0 a x k b e):kX e0 b0 (if c then a else d) x k b e:=by
 by_cases h0:e0=0
 ·rw [if_pos (hc h0)];exact h
 rcases h with ⟨_,rfl,rfl⟩|⟨h3,_⟩
 ·exact .skip h0 _ _ _
 exact absurd h3 h0
theorem kX.no{c:Prop}[Decidable c]{a d:bN α}(hc:e0=0 -> ¬c)(h:kX e0 b0 d x k b e):kX e0 b0 (if c then a else d) x k b e:=by
 by_cases h0:e0=0
 ·rw [if_neg (hc h0)];exact h
 rcases h with ⟨_,rfl,rfl⟩|⟨h3,_⟩
 ·exact .skip h0 _ _ _
 exact absurd h3 h0
theorem kX.eq{r':bN α}(h:kX e0 b0 r x k b e)(hr:e0=0 -> r=r'):kX e0 b0 r' x k b e:=by
 rcases h with ⟨h0,h1,h2⟩|⟨h0,h⟩
 ·exact .inl ⟨h0,h1,h2⟩
 rw [hr h0] at h;exact .inr ⟨h0,h⟩
theorem kX.good(h:kX e0 b0 r x k b e)(he:e=0):e0=0 /\ r=.ok x k /\ b=b0:=by
 rcases h with ⟨h0,_,rfl⟩|⟨rfl,⟨rfl,rfl,rfl⟩|⟨rfl,h1⟩⟩
 ·exact absurd he h0
 ·exact ⟨Y,Y,Y⟩
 exact absurd he h1
theorem kX.small{l:List Tok}(h:kX e0 b0 r x k b e)(he:e0<16)(hr:e0=0 -> r.At l k0):e<16:=by
 rcases h with ⟨h0,rfl,rfl⟩|⟨rfl,⟨rfl,rfl,rfl⟩|⟨rfl,h1⟩⟩
 ·exact he
 ·omega
 exact (hr Y).2.2.2
end
end
section
open Go.RowKit
section
variable {P:Program}{U T:List Nat}{o:Oper}{n d:Nat}{ts:List (Nat×AT)}{s:Sto}{K:AS -> Prop}{st:AS}
theorem aNq{x y:Operand}{tys:Array TypeId}{m k:Int}(r:Int)(ho:o.op=.call {callee:=.builtin .max,args:=#[x,y],argTypes:=tys})(hx:evA st x=some (Ci m))(hy:evA st y=some (Ci k))(hr:max m k=r):AY P U o st (Ci r):=
 fW rfl λa w hs w'=>by
  subst hr
  simp only [execOp,ho,resolve,List.map_toArray,List.map_cons,List.map_nil,hs.val hx,hs.val hy]
  simp [go_sem,invoke,builtin]
theorem aL5{w:World}{a:Option Addr}{k cap z l h:Nat}{cs:List AC}(hr:Rep w (.sl k cs) (.slice a k cap))(h1:l <= h)(h2:h <= k):Rep w (.sl (h-l) ((cs.drop (l*z)).take ((h-l)*z))) (.slice (if cap=l then a else a.map (·.add (l*z))) (h-l) (cap-l)):=by
 cases hr with
 |sl _ _ us _ hra hl hh hcap=>
  obtain ⟨a',cap',he,hc,hcell⟩:=hra
  cases he
  have hR:fG w cs us:=⟨hl,hh⟩
  have hR2:=(hR.drop (l*z)).take ((h-l)*z)
  refine .sl _ _ ((us.drop (l*z)).take ((h-l)*z)) _ ⟨_,_,Y,J,?_⟩ hR2.len hR2.at_ (λ_ _ _ h9=>by cases h9;have:=hcap _ _ _ rfl;omega)
  rcases hcell with h0|⟨b,off,rfl,hcell⟩
  ·left;subst h0;simp
  by_cases hcl:cap=l
  ·left
   have:h-l=0:=J
   rw [this];simp
  right
  rw [if_neg hcl]
  refine ⟨b,off+l*z,by simp [oU],λj u hj=>?_⟩
  rw [List.getElem?_take] at hj
  split at hj
  ·rw [List.getElem?_drop] at hj;rw [Nat.add_assoc];exact hcell _ _ hj
  cases hj
theorem aI0{w:World}{k:Nat}{cs:List AC}{v:Value}(h:dO w (.c (.sl k cs)) v):∃a cap,v=.slice a k cap /\ k <= cap /\ Rep w (.sl k cs) (.slice a k cap):=by
 cases h with
 |c _ _ h=>cases h with
  |sl _ _ us _ hr hl hh hc=>obtain ⟨a,cap,rfl,hk,hx⟩:=hr;exact ⟨a,cap,rfl,hk,.sl _ _ us _ ⟨a,cap,rfl,hk,hx⟩ hl hh hc⟩
theorem aGm{t e:TypeId}{x y':Operand}{k h z:Nat}{k2:IntKind}{j:Int}{cs r:List AC}(ho:o.op=.slice t x none (some y') none)(hx:evA st x=some (.c (.sl k cs)))(hy':evA st y'=some (Cv (.int k2 j)))(hj:j=h)(h2:h <= k)
  (ht:P.underlying t=some (.slice (P.elem t))) (he:P.elem t=e) (hz:∀w,(sizeOf e).run P w=.ok z w) (hr:cs.take (h*z)=r):AY P U o st (.c (.sl h r)):=by
 intro a w hs _
 have hv:=hs.ev hx
 generalize hxe:a.eval x=v at hv
 obtain ⟨p,cap,rfl,hk,hrep⟩:=aI0 hv
 subst hr;subst hj;subst he
 have h9:=aL5 (z:=z) (l:=0) hrep (Nat.zero_le _) h2
 simp only [Nat.zero_mul,List.drop_zero,Nat.sub_zero] at h9
 refine ⟨_,.c _ _ h9,λw' _=>?_⟩
 simp only [execOp,ho,hxe,hs.val hy',Option.map_some,Option.map_none]
 rw [Sem.run_bind,run_sliceAt_slice (h:=ht),run_slice_h (ht:=ht) (h0:=Int.natCast_nonneg h) (h2:=Int.ofNat_le.2 (Nat.le_trans h2 hk)),hz]
 simp [Result.andThen,go_sem,sliced]
theorem aDc{E E' e:TypeId}{x:Operand}{b:ByteArray}(ho:o.op=.convert E E' x)(hd:o.dst=some d)(hn:d<n)(hx:evA ⟨n,T,s,ts⟩ x=some (Cs b))(hE:P.underlying E=some .string)(hE':P.underlying E'=some (.slice e))(he:P.underlying e=some (.int .u8))(hb:b.size<9223372036854775808){N:Nat}{cs:List AC}(hN:b.size=N)(hcs:iF b.data.toList=cs)
  (h:K ⟨n,T,s,(d,.c (.sl N cs))::ts⟩):AO P U o ⟨n,T,s,ts⟩ K:=by
 subst hN;subst hcs
 intro a w hs KK QQ hK
 obtain ⟨C,hC⟩:∃C,C=grownCap w b.size 0 e:=⟨_,rfl⟩
 obtain ⟨g1,g2⟩:=grownCap_le w b.size e hb
 have hrun:(execOp a.eval o).run P w=.ok (.value (.slice (some ⟨w.heap.size,0,none⟩) b.size C)) (w.drew.alloc (.cells (bytesRow b C) e ((bytesRow b C).size,(bytesRow b C).size+1))):=by
  subst hC
  simp only [execOp,ho,Sem.run_bind,hs.val hx]
  rw [run_bytes_of_string w E E' e b hE hE' he];rfl
 rw [←hC] at g1 g2
 clear hC
 unfold Oper.wp
 rw [hrun,Oper.upon_value,hd]
 have hrow:=aAt w b C e g1 ((bytesRow b C).size,(bytesRow b C).size+1)
 generalize hw1:w.drew.alloc (.cells (bytesRow b C) e ((bytesRow b C).size,(bytesRow b C).size+1))=w1 at hrow
 have hk:cW [] w w1:=by rw [←hw1];exact (cW.refl _ _).drew.alloc _
 have hsz:w1.heap.size=w.heap.size+1:=by rw [←hw1];show (w.heap.push _).size=_;simp
 have hub:Up2 (bI s.bl w) (bI s.bl w1):=jA hk Bu (λb h=>.inl h)
 obtain ⟨m1,m2⟩:=hs.mem.up hub FC
 have hm:Mem s w1:=⟨hs.mem.nodup,λb hb=>Nat.lt_of_lt_of_le (hs.mem.lt b hb) hk.size,m1,m2⟩
 have s1:=hs.step (w1:=w1) T (hk.mono G0) hm (λb hb=>.inl hb)
 have hrep:dO (bI s.bl w1) (.c (.sl b.size (iF b.data.toList))) (.slice (some ⟨w.heap.size,0,none⟩) b.size C):=by
  have hne:w.heap.size∉s.bl:=λhm=>by have:w.heap.size<w.heap.size:=hs.mem.lt _ hm;omega
  have hR:=gU (bI s.bl w1) (cC b.data.toList) AW
  have e1:(cC b.data.toList).map AC.val=iF b.data.toList:=by simp [cC,iF]
  rw [e1] at hR
  refine .c _ _ (.sl _ _ (cC b.data.toList) _ ?_ hR.len hR.at_ (λ_ _ _ h=>by cases h;exact g2))
  obtain ⟨a',c',he',hc',hr'⟩:=hrow
  cases he'
  refine ⟨_,_,Y,g1,?_⟩
  rcases hr' with h0|⟨b',off,hb',hr'⟩
  ·exact .inl h0
  cases hb'
  exact .inr ⟨_,_,Y,λj u hu=>by rw [eW _ _ _ hne];exact hr' j u hu⟩
 exact hK _ _ _ h (s1.put hn hrep) ⟨hk.mono G0,hk.mono G0,λb hb=>.inl hb,λb hb=>.inl hb⟩ (hk.mono G0)
abbrev aA2(t:AT)(m:Int):AT:=.fact (.fact t 0 0 (words.map λx=>Vs x)) 2 0 [Vi m]
theorem aBl{s:Sto}{w w':World}(hm:Mem s w)(hb:Below w.heap.size w w'):cW [] w w' /\ Mem s w':=by
 have hk:cW [] w w':=cW.of_below hb
 have hu:Up2 (bI s.bl w) (bI s.bl w'):=jA hk Bu (λb h=>.inl h)
 obtain ⟨m1,m2⟩:=hm.up hu CS
 exact ⟨hk,hm.nodup,λb hb'=>Nat.lt_of_lt_of_le (hm.lt b hb') hk.size,m1,m2⟩
theorem aP3{F:FuncId}{ts:List AT}{us:List Value}{u:Value}(h1:u.oneCell'=true)(hts:ts=us.map λu=>Cv u)(h:∀w,Calls P F us.toArray w λe w'=>e=.returned u /\ w=w')(s:Sto):aL P F ts [] s λr s'=>r=Cv u /\ s'=s:=by
 intro vs w hm _ hl hr
 subst hts
 obtain rfl:vs=us:=by
  refine List.ext_getElem Dm λi h1 h2=>?_
  have h3:=hr i B4 h1
  simp only [List.getElem_map] at h3
  exact h3.val
 exact (h w).mono λe w' ⟨h2,h3⟩=>CE
theorem aLg{w:World}{l:List Int}{a:Option Addr}{cap:Nat}(h:dD w (.slice a l.length cap) l.length (l.map (.int .i64)))(hc:cap <= 9223372036854775807):dO (bI [] w) (.c (.sl l.length (l.map λi=>Vi i))) (.slice a l.length cap):=by
 have hid:∀a:Addr,(bI [] w).cell? a=w.cell? a:=λa=>eW _ _ _ G0
 have hR:=gU (bI [] w) (l.map (.int .i64)) AW
 rw [List.map_map] at hR
 exact .c _ _ (.sl _ _ _ _ (h.mono λa u h=>by rw [hid];exact h) hR.len hR.at_ (λ_ _ _ h=>by cases h;exact hc))
theorem aJe{F:FuncId}{ts:List AT}{vs:List Value}{w:World}(h:aL P F ts [] ⟨[],[]⟩ λr s'=>r=Cb true /\ s'=⟨[],[]⟩)(hl:vs.length=ts.length)(hv:∀i (h:i<ts.length) (h':i<vs.length),dO (bI [] w) ts[i] vs[i]):Calls P F vs.toArray w λe w'=>e=.returned (.bool true) /\ Below w.heap.size w w':=by
 have hm:Mem ⟨[],[]⟩ w:=⟨List.nodup_nil,(λb hb=>absurd hb C4),Db,Db⟩
 refine (h vs w hm (λb hb=>absurd hb G0) hl hv).mono λe w' ⟨r,v',s',h1,⟨h2,h3⟩,h4,h5,h6,h7⟩=>?_
 subst h2;subst h3
 cases h4 with
 |c _ _ h4=>cases h4;exact ⟨h1,⟨h6.os,h6.tape,h6.output,h6.size,λk hk=>h6.block k hk G0⟩⟩
end
end
end Go.Proofs.YtjgeihmhppadaaaGreatDoor
