import Derived.Test.YtojinfngbbajgaaGreatDoorF6J
import Derived.Test.YtojinfngbbajgaaGreatDoorF4J
import Derived.Test.YtojinfngbbajgaaGreatDoorProg
import Derived.Deep.QuietTactic
import Derived.BigQuiet
set_option linter.all false
set_option synthInstance.maxHeartbeats 1000000
set_option synthInstance.maxSize 1000000
set_option maxHeartbeats 1600000
set_option maxRecDepth 100000
namespace Go.Proofs.YtojinfngbbajgaaGreatDoor
open Go.Proofs.Tryz
open List (length_append length_cons length_nil mem_append mem_cons not_mem_nil append_assoc getElem_mem take_of_length_le)
section
open Go.RowKit
theorem aHa(t:List UInt8)(k n:Nat)(hk:k<t.length)(h:iT 0 t=iT n (t.drop k)):
  ((9223372036854775807-(t[k].toNat-48))/10<n -> iT 0 t=none) /\ (¬(9223372036854775807-(t[k].toNat-48))/10<n -> iT 0 t=iT (10*n+(t[k].toNat-48)) (t.drop (k+1))):=by
 rw [dR _ k hk,iT] at h
 refine ⟨fun hn=>?_,fun hn=>?_⟩
 ·rw [h];exact if_pos hn
 rw [h];exact if_neg hn
def xU(t:List UInt8):Int:=match iT 0 t with|none=>-1|some n=>n
theorem aFd(t:List UInt8)(v:Value)(w:World)(hv:dD w v t.length (cC t))(hs:t.length <= 1000000)(hd:∀c∈t,cD c=true):
  Calls prog 39 #[v] w fun e w'=>e=.returned (.int .i64 (xU t)) /\ w=w':=by
 obtain ⟨a,cap,rfl,hc,hr⟩:=hv
 have HA:=Lib.hid hd
 clear hd
 go_enter func39,Tryz.ntmps39
 go_wp2_with fail
 go_loop [3,4] (fun u v=>∃k n:Nat,k <= t.length /\ v=.int .i64 k /\ u=.int .i64 n /\ n <= 9223372036854775807 /\ iT 0 t=iT n (t.drop k)) (fun _ v=>t.length-(intOf v).toNat)
 case atStart=>exact ⟨0,0,by omega,rfl,rfl,by omega,rfl⟩
 case round=>
  obtain ⟨k,n,hk,rfl,rfl,hn,hv⟩:=hrel
  by_cases hlt:k<t.length
  ·rcases hr with h0|⟨b,off,rfl,hr⟩
   ·have:t.length=0:=by simpa [cC] using congrArg List.length h0
    omega
   have hcell:=ByteRow.cell hr k hlt
   clear hr
   have hst:=aHa t k n hlt hv
   have hd:cD t[k]=true:=HA.out _ (getElem_mem hlt)
   have HS:=Lib.hid hst
   clear hst hv
   simp only [cD,decide_eq_true_eq] at hd
   obtain ⟨hd1,hd2⟩:=hd
   by_cases hov:(9223372036854775807-(t[k].toNat-48))/10<n
   ·have hov':(9223372036854775807-((t[k].toNat:Int)-48))/10<(n:Int):=by omega
    have HO:=Lib.hid hov
    clear hov
    go_wp2_with fail
    go_ret
    exact ⟨gG (by rw [xU,HS.out.1 HO.out]),rfl⟩
   have hov':(n:Int) <= (9223372036854775807-((t[k].toNat:Int)-48))/10:=by omega
   have HO:=Lib.hid hov
   clear hov
   go_wp2_with fail
   go_round
   case rel=>exact ⟨k+1,10*n+(t[k].toNat-48),by omega,by go_num,by go_num,by omega,HS.out.2 HO.out⟩
   case measure=>simp [intOf];omega
  have HV:=Lib.hid hv
  clear hv hr
  go_wp2_with fail
  go_ret
  refine ⟨gG ?_,rfl⟩
  rw [xU,HV.out,List.drop_eq_nil_of_le (by omega),iT]
theorem zN(t:List UInt8)(a:Option Addr)(cap:Nat)(w:World)(hv:cC t=[]∨∃b off,a=some ⟨b,off,none⟩ /\ ∀j u,(cC t)[j]?=some u -> w.cell? ⟨b,off+j,none⟩=some u):
  (convert 23 9 (.slice a t.length cap)).run prog w=.ok (.string (bytes t)) w:=by
 rcases hv with h0|⟨b,off,rfl,hr⟩
 ·obtain rfl:t=[]:=by simpa [cC] using h0
  cases a with
  |none=>exact run_convert_bytes_nil w _ _ underlying23 underlying5 _ _ _ underlying9
  |some a=>
   have hl:=run_loadCells_list (P:=prog) w a [] (fun j v hj=>by simp at hj)
   rw [run_convert_bytes_string w _ _ _ _ _ _ underlying23 underlying5 underlying9,length_nil,run_bytesToString w a 0 cap [] (by simpa using hl)]
   rfl
 rw [run_convert_bytes_arg w _ _ underlying23 underlying5 b off t.length cap (t.map fun c=>(c.toNat:Int)) (by simp) ?_ _ underlying9]
 ·rw [strOfNums,List.map_map,bytes];congr 3;rw [show ((fun n:Int=>UInt8.ofNat n.toNat) ∘ fun c:UInt8=>(c.toNat:Int))=id from by funext c;simp];simp
 intro i hi
 rw [ByteRow.cell hr i hi];simp [hi]
theorem aIo{w:World}{b off:Nat}{s:List UInt8}(h:∀j u,(cC s)[j]?=some u -> w.cell? ⟨b,off+j,none⟩=some u)(i n:Nat):
  ∀j u,(cC ((s.drop i).take n))[j]?=some u -> w.cell? ⟨b,off+i+j,none⟩=some u:=by
 intro j u hu
 have:(cC s)[i+j]?=some u:=by
  simp only [cC,List.getElem?_map,List.getElem?_take,List.getElem?_drop] at hu⊢
  split at hu
  ·exact hu
  simp at hu
 rw [Nat.add_assoc];exact h _ _ this
def tO:List ByteArray:=[⟨#[60,61]⟩,⟨#[62,61]⟩,⟨#[61,61]⟩,⟨#[33,61]⟩,⟨#[38,38]⟩,⟨#[124,124]⟩]
def nU:List ByteArray:=[⟨#[40]⟩,⟨#[41]⟩,⟨#[123]⟩,⟨#[125]⟩,⟨#[91]⟩,⟨#[93]⟩,⟨#[44]⟩,⟨#[59]⟩,⟨#[61]⟩,⟨#[43]⟩,⟨#[45]⟩,⟨#[42]⟩,⟨#[47]⟩,⟨#[37]⟩,⟨#[60]⟩,⟨#[62]⟩,⟨#[33]⟩]
theorem bytes_inj{a b:List UInt8}(h:bytes a=bytes b):a=b:=by
 have:=congrArg (fun x=>x.data.toList) h
 simpa [bytes] using this
theorem aBu(L:List (List UInt8))(x:List UInt8):((L.map bytes).any fun y=>decide (y=bytes x))=decide (x∈L):=by
 rw [Bool.eq_iff_iff,List.any_eq_true]
 simp only [List.mem_map,decide_eq_true_eq]
 constructor
 ·rintro ⟨y,⟨z,hz,rfl⟩,h⟩;rw [←bytes_inj h];exact hz
 intro h;exact ⟨_,⟨x,h,rfl⟩,rfl⟩
theorem iR{s:List UInt8}{b off:Nat}{w:World}(hr:∀j u,(cC s)[j]?=some u -> w.cell? ⟨b,off+j,none⟩=some u)(i n cap:Nat)(hin:i+n <= s.length)(w':World)(hw:∀o,w'.cell? ⟨b,o,none⟩=w.cell? ⟨b,o,none⟩):
  (convert 23 9 (.slice (some ⟨b,off+i,none⟩) n cap)).run prog w'=.ok (.string (bytes ((s.drop i).take n))) w':=by
 have hl:((s.drop i).take n).length=n:=by rw [List.length_take,List.length_drop];omega
 have:=zN ((s.drop i).take n) (some ⟨b,off+i,none⟩) cap w' (.inr ⟨b,off+i,rfl,fun j u hu=>by rw [hw];exact aIo hr i n j u hu⟩)
 rw [hl] at this;exact this
end
section
open Go.RowKit
theorem aB6(w:World)(x:ByteArray)(q:Bool)(hq:(tO.any fun y=>decide (y=x))=q):
  Calls prog 77 #[.slice (some ⟨w.heap.size,0,none⟩) 6 6,.string x] (w.alloc (Obj.cells #[Value.string ⟨#[60,61]⟩,Value.string ⟨#[62,61]⟩,Value.string ⟨#[61,61]⟩,Value.string ⟨#[33,61]⟩,Value.string ⟨#[38,38]⟩,Value.string ⟨#[124,124]⟩] 9)) fun e w'=>e=.returned (.bool q) /\ w.alloc (Obj.cells #[Value.string ⟨#[60,61]⟩,Value.string ⟨#[62,61]⟩,Value.string ⟨#[61,61]⟩,Value.string ⟨#[33,61]⟩,Value.string ⟨#[38,38]⟩,Value.string ⟨#[124,124]⟩] 9)=w':=by
 subst hq;exact aDm tO x _ _ (dD.new w (tO.map .string) 9 6) (by decide)
theorem xM(w:World)(x:ByteArray)(k:Nat)(hk:k=w.heap.size)(q:Bool)(hq:(nU.any fun y=>decide (y=x))=q):
  Calls prog 77 #[.slice (some ⟨k,0,none⟩) 17 17,.string x] (w.alloc (Obj.cells #[Value.string ⟨#[40]⟩,Value.string ⟨#[41]⟩,Value.string ⟨#[123]⟩,Value.string ⟨#[125]⟩,Value.string ⟨#[91]⟩,Value.string ⟨#[93]⟩,Value.string ⟨#[44]⟩,Value.string ⟨#[59]⟩,Value.string ⟨#[61]⟩,Value.string ⟨#[43]⟩,Value.string ⟨#[45]⟩,Value.string ⟨#[42]⟩,Value.string ⟨#[47]⟩,Value.string ⟨#[37]⟩,Value.string ⟨#[60]⟩,Value.string ⟨#[62]⟩,Value.string ⟨#[33]⟩] 9)) fun e w'=>e=.returned (.bool q) /\ w.alloc (Obj.cells #[Value.string ⟨#[40]⟩,Value.string ⟨#[41]⟩,Value.string ⟨#[123]⟩,Value.string ⟨#[125]⟩,Value.string ⟨#[91]⟩,Value.string ⟨#[93]⟩,Value.string ⟨#[44]⟩,Value.string ⟨#[59]⟩,Value.string ⟨#[61]⟩,Value.string ⟨#[43]⟩,Value.string ⟨#[45]⟩,Value.string ⟨#[42]⟩,Value.string ⟨#[47]⟩,Value.string ⟨#[37]⟩,Value.string ⟨#[60]⟩,Value.string ⟨#[62]⟩,Value.string ⟨#[33]⟩] 9)=w':=by
 subst hq;exact aDm nU x _ _ (dD.new_at w (nU.map .string) 9 17 k hk) (by decide)
theorem aL1(n k b off cap:Nat)(w:World)(x1 x2:ByteArray)(hk:k<n)(hc:n <= cap)(hcm:cap <= 9223372036854775807)(hn:n <= 1000000)(hkc:¬cap=k)(g2:(k:Int)+1<n)(hcv1:∀O,(convert 23 9 (.slice (some ⟨b,off+k,none⟩) 2 (cap-k))).run prog (w.alloc O)=.ok (.string x2) (w.alloc O))(ha:(tO.any fun y=>decide (y=x2))=true):
  Calls prog 40 #[.slice (some ⟨b,off,none⟩) n cap,.int .i64 k] w fun e w'=>e=.returned (.int .i64 2) /\ Below w.heap.size w w':=by
 have HA:=Lib.hid ha
 clear ha
 go_enter func40,Tryz.ntmps40
 go_wp2_with (first|(go_at_call 77;((with_reducible refine (aB6 _ _ _ HA.out).mono ?_);rintro e w' ⟨rfl,rfl⟩)))
 go_ret
 exact ⟨rfl,by go_grown⟩
theorem aL6(n k b off cap:Nat)(w:World)(x1 x2:ByteArray)(hk:k<n)(hc:n <= cap)(hcm:cap <= 9223372036854775807)(hn:n <= 1000000)(hkc:¬cap=k)(q:Bool)(g2:(k:Int)+1<n)(hcv1:∀O,(convert 23 9 (.slice (some ⟨b,off+k,none⟩) 2 (cap-k))).run prog (w.alloc O)=.ok (.string x2) (w.alloc O))(hcv2:∀O O',(convert 23 9 (.slice (some ⟨b,off+k,none⟩) 1 (cap-k))).run prog ((w.alloc O).alloc O')=.ok (.string x1) ((w.alloc O).alloc O'))(ha:(tO.any fun y=>decide (y=x2))=false)(ha1:(nU.any fun y=>decide (y=x1))=q):
  Calls prog 40 #[.slice (some ⟨b,off,none⟩) n cap,.int .i64 k] w fun e w'=>e=.returned (.int .i64 (if q then 1 else 0)) /\ Below w.heap.size w w':=by
 have HA:=Lib.hid ha
 clear ha
 have HA1:=Lib.hid ha1
 clear ha1
 go_enter func40,Tryz.ntmps40
 go_wp2_with (first|(go_at_call 77;((with_reducible refine (aB6 _ _ _ HA.out).mono ?_);rintro e w' ⟨rfl,rfl⟩))|(go_at_call 77;((with_reducible refine (xM _ _ _ (by simp) _ HA1.out).mono ?_);rintro e w' ⟨rfl,rfl⟩)))
 all_goals (go_ret;exact ⟨by simp [*],by go_grown⟩)
theorem aLz(n k b off cap:Nat)(w:World)(x1 x2:ByteArray)(hk:k<n)(hc:n <= cap)(hcm:cap <= 9223372036854775807)(hn:n <= 1000000)(hkc:¬cap=k)(q:Bool)(g2:(n:Int) <= k+1)(hcv3:∀O,(convert 23 9 (.slice (some ⟨b,off+k,none⟩) 1 (cap-k))).run prog (w.alloc O)=.ok (.string x1) (w.alloc O))(ha1:(nU.any fun y=>decide (y=x1))=q):
  Calls prog 40 #[.slice (some ⟨b,off,none⟩) n cap,.int .i64 k] w fun e w'=>e=.returned (.int .i64 (if q then 1 else 0)) /\ Below w.heap.size w w':=by
 have HA1:=Lib.hid ha1
 clear ha1
 go_enter func40,Tryz.ntmps40
 go_wp2_with (first|(go_at_call 77;((with_reducible refine (xM _ _ _ (by simp) _ HA1.out).mono ?_);rintro e w' ⟨rfl,rfl⟩)))
 all_goals (go_ret;exact ⟨by simp [*],by go_grown⟩)
theorem aBz(s:List UInt8)(k:Nat)(b off cap:Nat)(w:World)(hr:∀j u,(cC s)[j]?=some u -> w.cell? ⟨b,off+j,none⟩=some u)(hc:s.length <= cap)(hcm:cap <= 9223372036854775807)(hs:s.length <= 1000000)(hk:k<s.length):
  Calls prog 40 #[.slice (some ⟨b,off,none⟩) s.length cap,.int .i64 k] w fun e w'=>e=.returned (.int .i64 (jE (s.drop k))) /\ Below w.heap.size w w':=by
 have hblt:b<w.heap.size:=gV (ByteRow.cell hr k hk)
 have hcv1:k+2 <= s.length -> ∀O,(convert 23 9 (.slice (some ⟨b,off+k,none⟩) 2 (cap-k))).run prog (w.alloc O)=.ok (.string (bytes ((s.drop k).take 2))) (w.alloc O):=fun h O=>iR hr k 2 _ h _ (fun o=>World.cell?_alloc_lt w O ⟨b,o,none⟩ hblt)
 have hcv2:∀O O',(convert 23 9 (.slice (some ⟨b,off+k,none⟩) 1 (cap-k))).run prog ((w.alloc O).alloc O')=.ok (.string (bytes ((s.drop k).take 1))) ((w.alloc O).alloc O'):=fun O O'=>iR hr k 1 _ (by omega) _ (fun o=>by rw [World.cell?_alloc_lt _ _ _ (by simp;omega),World.cell?_alloc_lt _ _ _ hblt])
 have hcv3:∀O,(convert 23 9 (.slice (some ⟨b,off+k,none⟩) 1 (cap-k))).run prog (w.alloc O)=.ok (.string (bytes ((s.drop k).take 1))) (w.alloc O):=fun O=>iR hr k 1 _ (by omega) _ (fun o=>World.cell?_alloc_lt w O ⟨b,o,none⟩ hblt)
 have hd1:(s.drop k).take 1=[s[k]]:=by rw [dR s k hk];rfl
 have one:¬(2 <= (s.drop k).length /\ (s.drop k).take 2∈fE) -> jE (s.drop k)=if s[k]∈dW then 1 else 0:=by
  intro h
  rw [dR s k hk] at h⊢
  by_cases hm:s[k]∈dW
  ·rw [if_pos hm,oR h hm]
  rw [if_neg hm,tL h hm]
 have hany:(nU.any fun y=>decide (y=bytes ((s.drop k).take 1)))=decide (s[k]∈dW):=by
  rw [hd1,show nU=(dW.map fun c=>[c]).map bytes from rfl,aBu]
  simp
 by_cases h2:k+1<s.length
 ·have hany2:(tO.any fun y=>decide (y=bytes ((s.drop k).take 2)))=decide ((s.drop k).take 2∈fE):=by
   rw [show tO=fE.map bytes from rfl,aBu]
  by_cases hm:(s.drop k).take 2∈fE
  ·rw [pA (l:=s.drop k) (by rw [List.length_drop];omega) hm]
   exact aL1 s.length k b off cap w ⟨#[]⟩ _ hk hc hcm hs (by omega) (by omega) (hcv1 (by omega)) (by rw [hany2];simpa using hm)
  rw [one (fun h=>hm h.2)]
  refine (aL6 s.length k b off cap w _ _ hk hc hcm hs (by omega) _ (by omega) (hcv1 (by omega)) hcv2 (by rw [hany2];simpa using hm) hany).mono fun e w' ⟨h,hb⟩=>⟨?_,hb⟩
  rw [h];refine gG ?_;by_cases hq:s[k]∈dW<;>simp [hq]
 ·rw [one (fun h=>by have:=h.1;rw [List.length_drop] at this;omega)]
  refine (aLz s.length k b off cap w _ ⟨#[]⟩ hk hc hcm hs (by omega) _ (by omega) hcv3 hany).mono fun e w' ⟨h,hb⟩=>⟨?_,hb⟩
  rw [h];refine gG ?_;by_cases hq:s[k]∈dW<;>simp [hq]
end
section
open Go.RowKit
theorem mC(s:List UInt8)(k0:Nat)(z:Int)(hz:z=k0)(a:Option Addr)(cap:Nat)(w:World)(hr:cC s=[]∨∃b off,a=some ⟨b,off,none⟩ /\ ∀j u,(cC s)[j]?=some u -> w.cell? ⟨b,off+j,none⟩=some u)(hc:s.length <= cap)(hs:s.length <= 1000000)(hk:k0 <= s.length):
  Calls prog 35 #[.slice a s.length cap,.int .i64 z] w fun e w'=>e=.returned (.int .i64 (bF s k0)) /\ w=w':=by
 subst hz;exact aK0 s k0 _ w ⟨a,cap,rfl,hc,hr⟩ hs hk
theorem nF{s:List UInt8}{k p kind len num:Nat}{toks:List Tok}(HP:p=bF s k)(hk:k <= s.length)(hlt:p<s.length)(hN:dQ (s.drop p)=.tok kind len num)(hn:toks.length≠4000)(HLX:kD s 0 0=fX.app toks (kD s k toks.length)):
  kD s 0 0=fX.app (toks++[⟨kind,bytes ((s.drop p).take len),num,p⟩]) (kD s (p+len) (toks++[(⟨kind,bytes ((s.drop p).take len),num,p⟩:Tok)]).length):=by
 subst HP;rw [HLX,nD hk hlt hN hn,fX.app_cons];simp
theorem nV{s:List UInt8}{k p kind len num:Nat}{toks:List Tok}(hs:s.length <= 262144)(HP:p=bF s k)(hlt:p<s.length)(hN:dQ (s.drop p)=.tok kind len num)(hn:toks.length=4000)(HLX:kD s 0 0=fX.app toks (kD s k toks.length)):iH s=.err p 3:=by
 subst HP;unfold iH;rw [if_neg (by omega),HLX,hn,sG hlt hN];rfl
theorem rD{s:List UInt8}{k p e:Nat}{toks:List Tok}(hs:s.length <= 262144)(HP:p=bF s k)(hlt:p<s.length)(hN:dQ (s.drop p)=.err e)(HLX:kD s 0 0=fX.app toks (kD s k toks.length)):iH s=.err p e:=by
 subst HP;unfold iH;rw [if_neg (by omega),HLX,uY hlt hN];rfl
theorem mO{l:List UInt8}(h:dA (bytes l)=true):l.length <= 16:=by
 rw [mK] at h
 have hall:∀x∈words,x.data.toList.length <= 16:=by decide
 have:=hall _ h
 rw [jR] at this;exact this
theorem qV{w:World}{a:Addr}{u:Value}{b o:Nat}(h:b≠a.block):(w.setCell a u).cell? ⟨b,o,none⟩=w.cell? ⟨b,o,none⟩:=
 World.cell?_of_block (a:=⟨b,o,none⟩) (Below.heap_setCell w a u b h)
theorem pH{s:List UInt8}{b off:Nat}{w:World}(hr:∀j u,(cC s)[j]?=some u -> w.cell? ⟨b,off+j,none⟩=some u)(p len cap:Nat)(hpl:p+len <= s.length)(hcl:len <= cap /\ s.length <= 1000000)(hd:∀c∈(s.drop p).take len,cD c=true)(w':World)(hw:∀o,w'.cell? ⟨b,o,none⟩=w.cell? ⟨b,o,none⟩):
  Calls prog 39 #[.slice (some ⟨b,off+p,none⟩) len cap] w' fun e w''=>e=.returned (.int .i64 (xU ((s.drop p).take len))) /\ w'=w'':=by
 have hl:((s.drop p).take len).length=len:=by rw [List.length_take,List.length_drop];omega
 refine aFd ((s.drop p).take len) _ w' ⟨_,cap,by rw [hl],by rw [hl];exact hcl.1,.inr ⟨b,off+p,rfl,fun j u hu=>by rw [hw];exact aIo hr p len j u hu⟩⟩ (by rw [hl];omega) hd
theorem jF{s:List UInt8}{a:Option Addr}{w w':World}(hr:cC s=[]∨∃b off,a=some ⟨b,off,none⟩ /\ ∀j u,(cC s)[j]?=some u -> w.cell? ⟨b,off+j,none⟩=some u)(hb:Below w.heap.size w w'):
  cC s=[]∨∃b off,a=some ⟨b,off,none⟩ /\ ∀j u,(cC s)[j]?=some u -> w'.cell? ⟨b,off+j,none⟩=some u:=
 hr.imp id fun ⟨b,off,ha,h⟩=>⟨b,off,ha,fun j u hu=>by
  have h1:=h j u hu
  rw [hb.cell (p:=⟨b,off+j,none⟩) (gV h1)];exact h1⟩
theorem aNh(s:List UInt8)(a:Option Addr)(cap:Nat)(w:World)(hs:s.length <= 262144)(hc:s.length <= cap)(hcm:cap <= 9223372036854775807)
  (hr:cC s=[]∨∃b off,a=some ⟨b,off,none⟩ /\ ∀j u,(cC s)[j]?=some u -> w.cell? ⟨b,off+j,none⟩=some u):
  Calls prog 16 #[.slice a s.length cap] w fun e w'=>(∃v pos er,e=.returned (.tuple #[v,.int .i64 pos,.int .i64 er]) /\ aCp w' w.heap.size s v pos er) /\ Below w.heap.size w w':=by
 obtain ⟨i0,hi,hz0,hz1,hz2⟩:=info_parts aI5
 have HR:=Lib.hid hr
 clear hr
 go_enter func16,Tryz.ntmps16
 go_wp2_with (first|(go_at_call 35;refine (mC s 0 _ rfl _ _ _ HR.out hc (by omega) (by omega)).mono ?_;rintro e w' ⟨rfl,rfl⟩))
 go_loopw [5,6] (fun v at_ wr=>∃(k:Nat) (toks:List Tok),at_=.int .i64 (bF s k) /\ k <= s.length /\ wr.ownsRow w.heap.size 66 4 v toks.length (dL toks) /\ kD s 0 0=fX.app toks (kD s k toks.length) /\ toks.length <= 4000 /\ Below w.heap.size w wr) (fun _ at_ _=>s.length-(intOf at_).toNat)
 case atStart=>exact ⟨0,[],rfl,by omega,ownsRow_nil _ _ _ _,by rw [fX.app_nil];rfl,by simp,Below.refl _ _⟩
 case round=>
  obtain ⟨k,toks,rfl,hk,hown,hlx,hlen,hbel⟩:=hrel
  obtain ⟨oa,oc,rfl⟩:=lR hown
  have HLX:=Lib.hid hlx
  have hrr:=jF HR.out hbel
  have HRR:=Lib.hid hrr
  clear hlx hrr
  have hle:=aLf s k
  by_cases hend:s.length <= bF s k
  ·have hee:bF s k=s.length:=by omega
   have heq:((bF s k:Int) == s.length)=true:=by rw [beq_iff_eq];omega
   have HE:=Lib.hid hee
   clear hee
   go_wp2_with (at_builtin;refine wpList_append_own _ rfl _ _ 36 rfl w.heap.size 66 i0 _ 4 40 underlying36 hi hz0 hz1 hz2 rfl (by decide) _ toks.length (dL toks) rfl (ownsRow_below hown ((Below.refl _ _).alloc (Nat.le_refl _) _) (Nat.le_refl _)) ⟨wr.heap.size,0,none⟩ 1 1 [.int .i64 5,.string ⟨#[]⟩,.int .i64 0,.int .i64 (bF s k)] rfl rfl (sK _ _ _) (by simp [Value.oneCell']) (by unfold maxLen;omega) (by omega) (by have:=hbel.size;simp;omega) ?_)
   intro v' w1 hown1 hgrow _
   have hb1:Below w.heap.size w w1:=Below.grow (hbel.alloc hbel.size _) hgrow (by have:=hbel.size;simp;omega) (ownsRow_below hown ((Below.refl _ _).alloc (Nat.le_refl _) _) (Nat.le_refl _)) (Nat.le_refl _)
   clear hgrow
   go_wp2_with fail
   go_ret3
   refine ⟨⟨_,_,_,rfl,.inl ⟨toks++[⟨5,⟨#[]⟩,0,s.length⟩],?_,?_,by rw [HE.out],rfl,by simp;omega⟩⟩,hb1⟩
   ·unfold iH
    rw [if_neg (by omega),HLX.out,mX hend];rfl
   have:=hown1
   rw [←eP,←HE.out];simpa using this
  have hlt:bF s k<s.length:=by omega
  have hne:((bF s k:Int) == s.length)=false:=by rw [beq_eq_false_iff_ne];omega
  obtain ⟨p,hp⟩:∃p,p=bF s k:=⟨_,rfl⟩
  have HP:=Lib.hid hp
  rw [←hp] at hlt hne hle⊢
  clear hp hend
  rcases HRR.out with h0|⟨b,off,rfl,hr⟩
  ·have:s.length=0:=by simpa [cC] using congrArg List.length h0
   omega
  have hblt:b<wr.heap.size:=gV (ByteRow.cell hr p hlt)
  have hcell:=ByteRow.cell hr p hlt
  have HB:=Lib.hid hr
  clear hr
  cases hl:fU s[p] with
  |true=>
   obtain ⟨len,hlen2⟩:∃len,len=((s.drop p).takeWhile cT).length:=⟨_,rfl⟩
   have hpl:p+len <= s.length:=by have:=(List.takeWhile_sublist (l:=s.drop p) cT).length_le;rw [←hlen2,List.length_drop] at this;omega
   have hname:dQ (s.drop p)=if 16<len then .err 3 else .tok (if dA (bytes ((s.drop p).take len)) then 3 else 1) len 0:=by
    have h1:=kK (c:=s[p]) (r:=s.drop (p+1)) hl
    rw [←dR s p hlt,←hlen2] at h1
    rw [show (s.drop p).take len=(s.drop p).takeWhile cT from by rw [hlen2];exact takeWhile_take cT (s.drop p)]
    exact h1
   have hl0:0<len:=by rw [hlen2,dR s p hlt,List.takeWhile_cons_of_pos (by simp [cT,hl])];simp
   have HNM:=Lib.hid hname
   have HL2:=Lib.hid hlen2
   clear hlen2 hname
   go_wp2_with (first|(go_at_call 36;refine (eL _ _).mono ?_;rintro e w' ⟨rfl,rfl⟩))
   go_hide hQ
   go_loop [8] (fun v=>∃d:Nat,d <= len /\ v=.int .i64 ((p:Int)+d) /\ len=d+(((s.drop p).drop d).takeWhile cT).length) (fun v=>s.length-(intOf v).toNat)
   case atStart=>exact ⟨0,by omega,by simp,by rw [HL2.out];simp⟩
   case round=>
    obtain ⟨d,hd,rfl,hinv⟩:=hrel
    have HI:=Lib.hid hinv
    clear hinv
    by_cases hlt2:p+d<s.length
    ·have g1:(p:Int)+d<s.length:=by omega
     have hcell2:=ByteRow.cell HB.out (p+d) hlt2
     have hst:=lH cT (s.drop p) d (by rw [List.length_drop];omega) (by rw [←HL2.out];exact HI.out)
     rw [List.getElem_drop,←HL2.out] at hst
     have HST:=Lib.hid hst
     clear hst
     cases hn:cT s[p+d] with
     |true=>
      have hnx:=HST.out.1 hn
      have HNX:=Lib.hid hnx
      have hdl:d+1 <= len:=by omega
      unfold cT at hn
      have HN:=Lib.hid hn
      clear hnx hn
      go_wp2_with (first|(go_at_call 36;refine (eL _ _).mono ?_;rintro e w' ⟨rfl,rfl⟩)|(go_at_call 37;refine (fJ _ _).mono ?_;rintro e w' ⟨rfl,rfl⟩))
      all_goals first
       |(go_round;(case rel=>exact ⟨d+1,hdl,(by simp;omega),HNX.out⟩);(case measure=>simp [intOf];omega))
       |(exfalso;have h:=HN.out;simp_all)
     |false=>
      have hnx:=HST.out.2 hn
      have hdl:len=d:=hnx
      unfold cT at hn
      rw [Bool.or_eq_false_iff] at hn
      obtain ⟨hn1,hn2⟩:=hn
      subst hdl
      clear hnx
      go_wp2_with (first|(go_at_call 36;((with_reducible refine (eL _ _).mono ?_);rintro e w' ⟨rfl,rfl⟩))|(go_at_call 37;((with_reducible refine (fJ _ _).mono ?_);rintro e w' ⟨rfl,rfl⟩)))
      subst hQ
      have hsz:=hbel.size
      have hge:=lG s (p+len) hpl
      go_wp2_with (first|(rw [iR HB.out p len _ hpl _ (fun o=>World.cell?_alloc_lt wr _ ⟨b,o,none⟩ hblt)];go_simp)|(go_at_call 38;((with_reducible refine (oN _ _).mono ?_);rintro e w1 ⟨rfl,hb⟩;obtain ⟨hcc,hcf⟩:=tF hb;have hbw1:Below wr.heap.size wr w1:=((Below.refl _ _).alloc (Nat.le_refl _) _).trans (hb.mono (by simp));have hbW1:Below w.heap.size w w1:=hbel.trans (hbw1.mono hsz);have hsz1:=hbw1.size)))
      ·have h4:((toks.length:Int) == 4000)=true:=by assumption
       go_ret3
       exact ⟨⟨_,_,_,rfl,.inr ⟨p,3,nV hs HP.out hlt (show dQ (s.drop p)=.tok 3 len 0 from by have hq:dA (bytes ((s.drop p).take len))=true:=by {assumption};rw [HNM.out,if_neg (by have:=mO hq;rw [List.length_take,List.length_drop] at this;omega),if_pos hq]) (by have:=h4;simp at this;omega) HLX.out,rfl,rfl,rfl,by omega⟩⟩,by go_grown⟩
      ·have h4:((toks.length:Int) == 4000)=false:=by assumption
       have h4':toks.length≠4000:=by intro h;rw [h] at h4;simp at h4
       have h5:toks.length<4000:=by omega
       have HN:=Lib.hid (show dQ (s.drop p)=.tok 3 len 0 from by have hq:dA (bytes ((s.drop p).take len))=true:=by {assumption};rw [HNM.out,if_neg (by have:=mO hq;rw [List.length_take,List.length_drop] at this;omega),if_pos hq])
       have H4:=Lib.hid h4'
       clear h4'
       go_wp2_with (first|(rw [iR HB.out p len _ hpl _ (fun o=>by (repeat rw [qV (Nat.ne_of_lt hblt)]);rw [hcc _ _ (by simp;omega),World.cell?_alloc_lt wr _ ⟨b,o,none⟩ hblt])];go_simp)|(at_builtin;refine wpList_append_own _ rfl _ _ 36 rfl w.heap.size 66 i0 _ 4 40 underlying36 hi hz0 hz1 hz2 rfl (by decide) _ toks.length (dL toks) rfl (ownsRow_below hown (by go_grown) (Nat.le_refl _)) _ 1 1 [.int .i64 3,.string (bytes ((s.drop p).take len)),.int .i64 0,.int .i64 p] rfl rfl (bXs _ _ _ _ (by simp)) (by simp [Value.oneCell']) (by unfold maxLen;omega) (by omega) (by simp;omega) ?_))
       intro v' w2 hown2 hgrow _
       have hb2:Below w.heap.size w w2:=Below.grow (by go_grown) hgrow (by simp;omega) (ownsRow_below hown (by go_grown) (Nat.le_refl _)) (Nat.le_refl _)
       clear hgrow
       go_wp2_with ((go_at_call 35;((with_reducible refine (mC s (p+len) _ (by omega) _ _ _ (jF HR.out hb2) hc (by omega) hpl).mono ?_);rintro e w' ⟨rfl,rfl⟩)))
       go_roundw
       case rel=>exact ⟨p+len,toks++[⟨3,bytes ((s.drop p).take len),0,p⟩],rfl,hpl,(by rw [←eP];simpa using hown2),nF HP.out hk hlt HN.out H4.out HLX.out,by simp;omega,hb2⟩
       case measure=>simp [intOf];omega
      ·go_ret3
       exact ⟨⟨_,_,_,rfl,.inr ⟨p,3,rD hs HP.out hlt (by rw [HNM.out,if_pos (by omega)]) HLX.out,rfl,rfl,rfl,by omega⟩⟩,by go_grown⟩
      ·have h4:((toks.length:Int) == 4000)=true:=by assumption
       go_ret3
       exact ⟨⟨_,_,_,rfl,.inr ⟨p,3,nV hs HP.out hlt (show dQ (s.drop p)=.tok 1 len 0 from by have hq:dA (bytes ((s.drop p).take len))=false:=by {assumption};rw [HNM.out,if_neg (by omega),if_neg (by simp [hq])]) (by have:=h4;simp at this;omega) HLX.out,rfl,rfl,rfl,by omega⟩⟩,by go_grown⟩
      have h4:((toks.length:Int) == 4000)=false:=by assumption
      have h4':toks.length≠4000:=by intro h;rw [h] at h4;simp at h4
      have h5:toks.length<4000:=by omega
      have HN:=Lib.hid (show dQ (s.drop p)=.tok 1 len 0 from by have hq:dA (bytes ((s.drop p).take len))=false:=by {assumption};rw [HNM.out,if_neg (by omega),if_neg (by simp [hq])])
      have H4:=Lib.hid h4'
      clear h4'
      go_wp2_with (first|(rw [iR HB.out p len _ hpl _ (fun o=>by (repeat rw [qV (Nat.ne_of_lt hblt)]);rw [hcc _ _ (by simp;omega),World.cell?_alloc_lt wr _ ⟨b,o,none⟩ hblt])];go_simp)|(at_builtin;refine wpList_append_own _ rfl _ _ 36 rfl w.heap.size 66 i0 _ 4 40 underlying36 hi hz0 hz1 hz2 rfl (by decide) _ toks.length (dL toks) rfl (ownsRow_below hown (by go_grown) (Nat.le_refl _)) _ 1 1 [.int .i64 1,.string (bytes ((s.drop p).take len)),.int .i64 0,.int .i64 p] rfl rfl (bXs _ _ _ _ (by simp)) (by simp [Value.oneCell']) (by unfold maxLen;omega) (by omega) (by simp;omega) ?_))
      intro v' w2 hown2 hgrow _
      have hb2:Below w.heap.size w w2:=Below.grow (by go_grown) hgrow (by simp;omega) (ownsRow_below hown (by go_grown) (Nat.le_refl _)) (Nat.le_refl _)
      clear hgrow
      go_wp2_with ((go_at_call 35;((with_reducible refine (mC s (p+len) _ (by omega) _ _ _ (jF HR.out hb2) hc (by omega) hpl).mono ?_);rintro e w' ⟨rfl,rfl⟩)))
      go_roundw
      case rel=>exact ⟨p+len,toks++[⟨1,bytes ((s.drop p).take len),0,p⟩],rfl,hpl,(by rw [←eP];simpa using hown2),nF HP.out hk hlt HN.out H4.out HLX.out,by simp;omega,hb2⟩
      case measure=>simp [intOf];omega
    ·have hdl:len=d:=by have h:=HI.out;rw [List.drop_drop,List.drop_eq_nil_of_le (by omega)] at h;simpa using h
     have g1:(s.length:Int) <= p+d:=by omega
     subst hdl
     go_wp2_with (first|(go_at_call 36;((with_reducible refine (eL _ _).mono ?_);rintro e w' ⟨rfl,rfl⟩))|(go_at_call 37;((with_reducible refine (fJ _ _).mono ?_);rintro e w' ⟨rfl,rfl⟩)))
     subst hQ
     have hsz:=hbel.size
     have hge:=lG s (p+len) hpl
     go_wp2_with (first|(rw [iR HB.out p len _ hpl _ (fun o=>World.cell?_alloc_lt wr _ ⟨b,o,none⟩ hblt)];go_simp)|(go_at_call 38;((with_reducible refine (oN _ _).mono ?_);rintro e w1 ⟨rfl,hb⟩;obtain ⟨hcc,hcf⟩:=tF hb;have hbw1:Below wr.heap.size wr w1:=((Below.refl _ _).alloc (Nat.le_refl _) _).trans (hb.mono (by simp));have hbW1:Below w.heap.size w w1:=hbel.trans (hbw1.mono hsz);have hsz1:=hbw1.size)))
     ·have h4:((toks.length:Int) == 4000)=true:=by assumption
      go_ret3
      exact ⟨⟨_,_,_,rfl,.inr ⟨p,3,nV hs HP.out hlt (show dQ (s.drop p)=.tok 3 len 0 from by have hq:dA (bytes ((s.drop p).take len))=true:=by {assumption};rw [HNM.out,if_neg (by have:=mO hq;rw [List.length_take,List.length_drop] at this;omega),if_pos hq]) (by have:=h4;simp at this;omega) HLX.out,rfl,rfl,rfl,by omega⟩⟩,by go_grown⟩
     ·have h4:((toks.length:Int) == 4000)=false:=by assumption
      have h4':toks.length≠4000:=by intro h;rw [h] at h4;simp at h4
      have h5:toks.length<4000:=by omega
      have HN:=Lib.hid (show dQ (s.drop p)=.tok 3 len 0 from by have hq:dA (bytes ((s.drop p).take len))=true:=by {assumption};rw [HNM.out,if_neg (by have:=mO hq;rw [List.length_take,List.length_drop] at this;omega),if_pos hq])
      have H4:=Lib.hid h4'
      clear h4'
      go_wp2_with (first|(rw [iR HB.out p len _ hpl _ (fun o=>by (repeat rw [qV (Nat.ne_of_lt hblt)]);rw [hcc _ _ (by simp;omega),World.cell?_alloc_lt wr _ ⟨b,o,none⟩ hblt])];go_simp)|(at_builtin;refine wpList_append_own _ rfl _ _ 36 rfl w.heap.size 66 i0 _ 4 40 underlying36 hi hz0 hz1 hz2 rfl (by decide) _ toks.length (dL toks) rfl (ownsRow_below hown (by go_grown) (Nat.le_refl _)) _ 1 1 [.int .i64 3,.string (bytes ((s.drop p).take len)),.int .i64 0,.int .i64 p] rfl rfl (bXs _ _ _ _ (by simp)) (by simp [Value.oneCell']) (by unfold maxLen;omega) (by omega) (by simp;omega) ?_))
      intro v' w2 hown2 hgrow _
      have hb2:Below w.heap.size w w2:=Below.grow (by go_grown) hgrow (by simp;omega) (ownsRow_below hown (by go_grown) (Nat.le_refl _)) (Nat.le_refl _)
      clear hgrow
      go_wp2_with ((go_at_call 35;((with_reducible refine (mC s (p+len) _ (by omega) _ _ _ (jF HR.out hb2) hc (by omega) hpl).mono ?_);rintro e w' ⟨rfl,rfl⟩)))
      go_roundw
      case rel=>exact ⟨p+len,toks++[⟨3,bytes ((s.drop p).take len),0,p⟩],rfl,hpl,(by rw [←eP];simpa using hown2),nF HP.out hk hlt HN.out H4.out HLX.out,by simp;omega,hb2⟩
      case measure=>simp [intOf];omega
     ·go_ret3
      exact ⟨⟨_,_,_,rfl,.inr ⟨p,3,rD hs HP.out hlt (by rw [HNM.out,if_pos (by omega)]) HLX.out,rfl,rfl,rfl,by omega⟩⟩,by go_grown⟩
     ·have h4:((toks.length:Int) == 4000)=true:=by assumption
      go_ret3
      exact ⟨⟨_,_,_,rfl,.inr ⟨p,3,nV hs HP.out hlt (show dQ (s.drop p)=.tok 1 len 0 from by have hq:dA (bytes ((s.drop p).take len))=false:=by {assumption};rw [HNM.out,if_neg (by omega),if_neg (by simp [hq])]) (by have:=h4;simp at this;omega) HLX.out,rfl,rfl,rfl,by omega⟩⟩,by go_grown⟩
     ·have h4:((toks.length:Int) == 4000)=false:=by assumption
      have h4':toks.length≠4000:=by intro h;rw [h] at h4;simp at h4
      have h5:toks.length<4000:=by omega
      have HN:=Lib.hid (show dQ (s.drop p)=.tok 1 len 0 from by have hq:dA (bytes ((s.drop p).take len))=false:=by {assumption};rw [HNM.out,if_neg (by omega),if_neg (by simp [hq])])
      have H4:=Lib.hid h4'
      clear h4'
      go_wp2_with (first|(rw [iR HB.out p len _ hpl _ (fun o=>by (repeat rw [qV (Nat.ne_of_lt hblt)]);rw [hcc _ _ (by simp;omega),World.cell?_alloc_lt wr _ ⟨b,o,none⟩ hblt])];go_simp)|(at_builtin;refine wpList_append_own _ rfl _ _ 36 rfl w.heap.size 66 i0 _ 4 40 underlying36 hi hz0 hz1 hz2 rfl (by decide) _ toks.length (dL toks) rfl (ownsRow_below hown (by go_grown) (Nat.le_refl _)) _ 1 1 [.int .i64 1,.string (bytes ((s.drop p).take len)),.int .i64 0,.int .i64 p] rfl rfl (bXs _ _ _ _ (by simp)) (by simp [Value.oneCell']) (by unfold maxLen;omega) (by omega) (by simp;omega) ?_))
      intro v' w2 hown2 hgrow _
      have hb2:Below w.heap.size w w2:=Below.grow (by go_grown) hgrow (by simp;omega) (ownsRow_below hown (by go_grown) (Nat.le_refl _)) (Nat.le_refl _)
      clear hgrow
      go_wp2_with ((go_at_call 35;((with_reducible refine (mC s (p+len) _ (by omega) _ _ _ (jF HR.out hb2) hc (by omega) hpl).mono ?_);rintro e w' ⟨rfl,rfl⟩)))
      go_roundw
      case rel=>exact ⟨p+len,toks++[⟨1,bytes ((s.drop p).take len),0,p⟩],rfl,hpl,(by rw [←eP];simpa using hown2),nF HP.out hk hlt HN.out H4.out HLX.out,by simp;omega,hb2⟩
      case measure=>simp [intOf];omega
  |false=>
   cases hdg:cD s[p] with
   |true=>
    obtain ⟨len,hlen2⟩:∃len,len=((s.drop p).takeWhile cD).length:=⟨_,rfl⟩
    have hpl:p+len <= s.length:=by have:=(List.takeWhile_sublist (l:=s.drop p) cD).length_le;rw [←hlen2,List.length_drop] at this;omega
    have htw:(s.drop p).take len=(s.drop p).takeWhile cD:=by rw [hlen2];exact takeWhile_take cD (s.drop p)
    have hnn:iT 0 ((s.drop p).take len)=none -> dQ (s.drop p)=.err 2:=by
     intro h
     have h1:=nK (c:=s[p]) (r:=s.drop (p+1)) hl hdg (by rw [←dR s p hlt,←htw];exact h)
     rw [←dR s p hlt] at h1;exact h1
    have hns:∀nv,iT 0 ((s.drop p).take len)=some nv -> dQ (s.drop p)=.tok 2 len nv:=by
     intro nv h
     have h1:=lP (c:=s[p]) (r:=s.drop (p+1)) hl hdg (by rw [←dR s p hlt,←htw];exact h)
     rw [←dR s p hlt,←hlen2] at h1;exact h1
    have hdall:Hid (∀c∈(s.drop p).take len,cD c=true):=Lib.hid (by rw [htw];exact fun c hc=>(List.all_eq_true.1 (List.all_takeWhile (p:=cD) (l:=s.drop p))) c hc)
    have hl0:0<len:=by rw [hlen2,dR s p hlt,List.takeWhile_cons_of_pos hdg];simp
    have HNN:=Lib.hid hnn
    have HNS:=Lib.hid hns
    have HL2:=Lib.hid hlen2
    have hsz:=hbel.size
    have hge:=lG s (p+len) hpl
    clear hlen2 hnn hns htw
    go_wp2_with (first|(go_at_call 36;((with_reducible refine (eL _ _).mono ?_);rintro e w' ⟨rfl,rfl⟩))|(go_at_call 37;((with_reducible refine (fJ _ _).mono ?_);rintro e w' ⟨rfl,rfl⟩)))
    go_hide hQ
    go_loop [8] (fun v=>∃d:Nat,d <= len /\ v=.int .i64 ((p:Int)+d) /\ len=d+(((s.drop p).drop d).takeWhile cD).length) (fun v=>s.length-(intOf v).toNat)
    case atStart=>exact ⟨0,by omega,by simp,by rw [HL2.out];simp⟩
    case round=>
     obtain ⟨d,hd,rfl,hinv⟩:=hrel
     have HI:=Lib.hid hinv
     clear hinv
     by_cases hlt2:p+d<s.length
     ·have g1:(p:Int)+d<s.length:=by omega
      have hcell2:=ByteRow.cell HB.out (p+d) hlt2
      have hst:=lH cD (s.drop p) d (by rw [List.length_drop];omega) (by rw [←HL2.out];exact HI.out)
      rw [List.getElem_drop,←HL2.out] at hst
      have HST:=Lib.hid hst
      clear hst
      cases hn:cD s[p+d] with
      |true=>
       have hnx:=HST.out.1 hn
       have HNX:=Lib.hid hnx
       have hdl:d+1 <= len:=by omega
       clear hnx
       go_wp2_with (first|(go_at_call 36;((with_reducible refine (eL _ _).mono ?_);rintro e w' ⟨rfl,rfl⟩))|(go_at_call 37;((with_reducible refine (fJ _ _).mono ?_);rintro e w' ⟨rfl,rfl⟩)))
       go_round
       case rel=>exact ⟨d+1,hdl,(by simp;omega),HNX.out⟩
       case measure=>simp [intOf];omega
      |false=>
       have hdl:len=d:=HST.out.2 hn
       subst hdl
       cases hnum:iT 0 ((s.drop p).take len) with
       |none=>
        have hni:xU ((s.drop p).take len)=-1:=by unfold xU;rw [hnum]
        have HNI:=Lib.hid hni
        have HE:=Lib.hid (HNN.out hnum)
        clear hni hnum
        go_wp2_with (first|(go_at_call 36;((with_reducible refine (eL _ _).mono ?_);rintro e w' ⟨rfl,rfl⟩))|(go_at_call 37;((with_reducible refine (fJ _ _).mono ?_);rintro e w' ⟨rfl,rfl⟩)))
        subst hQ
        go_wp2_with (go_at_call 39;((with_reducible refine (pH HB.out p len _ hpl (by omega) hdall.out _ (fun o=>World.cell?_alloc_lt wr _ ⟨b,o,none⟩ hblt)).mono ?_);rintro e w' ⟨rfl,rfl⟩;rw [HNI.out]))
        go_ret3
        exact ⟨⟨_,_,_,rfl,.inr ⟨p,2,rD hs HP.out hlt HE.out HLX.out,rfl,rfl,rfl,by omega⟩⟩,by go_grown⟩
       |some nv=>
        have hni:xU ((s.drop p).take len)=nv:=by unfold xU;rw [hnum]
        have HNI:=Lib.hid hni
        have HNM:=Lib.hid (HNS.out nv hnum)
        clear hni hnum
        go_wp2_with (first|(go_at_call 36;((with_reducible refine (eL _ _).mono ?_);rintro e w' ⟨rfl,rfl⟩))|(go_at_call 37;((with_reducible refine (fJ _ _).mono ?_);rintro e w' ⟨rfl,rfl⟩)))
        subst hQ
        go_wp2_with (go_at_call 39;((with_reducible refine (pH HB.out p len _ hpl (by omega) hdall.out _ (fun o=>World.cell?_alloc_lt wr _ ⟨b,o,none⟩ hblt)).mono ?_);rintro e w' ⟨rfl,rfl⟩;rw [HNI.out]))
        ·have h4:((toks.length:Int) == 4000)=true:=by assumption
         go_ret3
         exact ⟨⟨_,_,_,rfl,.inr ⟨p,3,nV hs HP.out hlt (show dQ (s.drop p)=.tok 2 len nv from HNM.out) (by have:=h4;simp at this;omega) HLX.out,rfl,rfl,rfl,by omega⟩⟩,by go_grown⟩
        have h4:((toks.length:Int) == 4000)=false:=by assumption
        have h4':toks.length≠4000:=by intro h;rw [h] at h4;simp at h4
        have h5:toks.length<4000:=by omega
        have HN:=Lib.hid (show dQ (s.drop p)=.tok 2 len nv from HNM.out)
        have H4:=Lib.hid h4'
        clear h4'
        go_wp2_with (first|(rw [iR HB.out p len _ hpl _ (fun o=>World.cell?_alloc_lt wr _ ⟨b,o,none⟩ hblt)];go_simp)|(at_builtin;refine wpList_append_own _ rfl _ _ 36 rfl w.heap.size 66 i0 _ 4 40 underlying36 hi hz0 hz1 hz2 rfl (by decide) _ toks.length (dL toks) rfl (ownsRow_below hown (by go_grown) (Nat.le_refl _)) _ 1 1 [.int .i64 2,.string (bytes ((s.drop p).take len)),.int .i64 nv,.int .i64 p] rfl rfl (bXs _ _ _ _ (by simp)) (by simp [Value.oneCell']) (by unfold maxLen;omega) (by omega) (by simp;omega) ?_))
        intro v' w2 hown2 hgrow _
        have hb2:Below w.heap.size w w2:=Below.grow (by go_grown) hgrow (by simp;omega) (ownsRow_below hown (by go_grown) (Nat.le_refl _)) (Nat.le_refl _)
        clear hgrow
        go_wp2_with ((go_at_call 35;((with_reducible refine (mC s (p+len) _ (by omega) _ _ _ (jF HR.out hb2) hc (by omega) hpl).mono ?_);rintro e w' ⟨rfl,rfl⟩)))
        go_roundw
        case rel=>exact ⟨p+len,toks++[⟨2,bytes ((s.drop p).take len),nv,p⟩],rfl,hpl,(by rw [←eP];simpa using hown2),nF HP.out hk hlt HN.out H4.out HLX.out,by simp;omega,hb2⟩
        case measure=>simp [intOf];omega
     ·have hdl:len=d:=by have h:=HI.out;rw [List.drop_drop,List.drop_eq_nil_of_le (by omega)] at h;simpa using h
      have g1:(s.length:Int) <= p+d:=by omega
      subst hdl
      cases hnum:iT 0 ((s.drop p).take len) with
      |none=>
       have hni:xU ((s.drop p).take len)=-1:=by unfold xU;rw [hnum]
       have HNI:=Lib.hid hni
       have HE:=Lib.hid (HNN.out hnum)
       clear hni hnum
       go_wp2_with (first|(go_at_call 36;((with_reducible refine (eL _ _).mono ?_);rintro e w' ⟨rfl,rfl⟩))|(go_at_call 37;((with_reducible refine (fJ _ _).mono ?_);rintro e w' ⟨rfl,rfl⟩)))
       subst hQ
       go_wp2_with (go_at_call 39;((with_reducible refine (pH HB.out p len _ hpl (by omega) hdall.out _ (fun o=>World.cell?_alloc_lt wr _ ⟨b,o,none⟩ hblt)).mono ?_);rintro e w' ⟨rfl,rfl⟩;rw [HNI.out]))
       go_ret3
       exact ⟨⟨_,_,_,rfl,.inr ⟨p,2,rD hs HP.out hlt HE.out HLX.out,rfl,rfl,rfl,by omega⟩⟩,by go_grown⟩
      |some nv=>
       have hni:xU ((s.drop p).take len)=nv:=by unfold xU;rw [hnum]
       have HNI:=Lib.hid hni
       have HNM:=Lib.hid (HNS.out nv hnum)
       clear hni hnum
       go_wp2_with (first|(go_at_call 36;((with_reducible refine (eL _ _).mono ?_);rintro e w' ⟨rfl,rfl⟩))|(go_at_call 37;((with_reducible refine (fJ _ _).mono ?_);rintro e w' ⟨rfl,rfl⟩)))
       subst hQ
       go_wp2_with (go_at_call 39;((with_reducible refine (pH HB.out p len _ hpl (by omega) hdall.out _ (fun o=>World.cell?_alloc_lt wr _ ⟨b,o,none⟩ hblt)).mono ?_);rintro e w' ⟨rfl,rfl⟩;rw [HNI.out]))
       ·have h4:((toks.length:Int) == 4000)=true:=by assumption
        go_ret3
        exact ⟨⟨_,_,_,rfl,.inr ⟨p,3,nV hs HP.out hlt (show dQ (s.drop p)=.tok 2 len nv from HNM.out) (by have:=h4;simp at this;omega) HLX.out,rfl,rfl,rfl,by omega⟩⟩,by go_grown⟩
       ·have h4:((toks.length:Int) == 4000)=false:=by assumption
        have h4':toks.length≠4000:=by intro h;rw [h] at h4;simp at h4
        have h5:toks.length<4000:=by omega
        have HN:=Lib.hid (show dQ (s.drop p)=.tok 2 len nv from HNM.out)
        have H4:=Lib.hid h4'
        clear h4'
        go_wp2_with (first|(rw [iR HB.out p len _ hpl _ (fun o=>World.cell?_alloc_lt wr _ ⟨b,o,none⟩ hblt)];go_simp)|(at_builtin;refine wpList_append_own _ rfl _ _ 36 rfl w.heap.size 66 i0 _ 4 40 underlying36 hi hz0 hz1 hz2 rfl (by decide) _ toks.length (dL toks) rfl (ownsRow_below hown (by go_grown) (Nat.le_refl _)) _ 1 1 [.int .i64 2,.string (bytes ((s.drop p).take len)),.int .i64 nv,.int .i64 p] rfl rfl (bXs _ _ _ _ (by simp)) (by simp [Value.oneCell']) (by unfold maxLen;omega) (by omega) (by simp;omega) ?_))
        intro v' w2 hown2 hgrow _
        have hb2:Below w.heap.size w w2:=Below.grow (by go_grown) hgrow (by simp;omega) (ownsRow_below hown (by go_grown) (Nat.le_refl _)) (Nat.le_refl _)
        clear hgrow
        go_wp2_with ((go_at_call 35;((with_reducible refine (mC s (p+len) _ (by omega) _ _ _ (jF HR.out hb2) hc (by omega) hpl).mono ?_);rintro e w' ⟨rfl,rfl⟩)))
        go_roundw
        case rel=>exact ⟨p+len,toks++[⟨2,bytes ((s.drop p).take len),nv,p⟩],rfl,hpl,(by rw [←eP];simpa using hown2),nF HP.out hk hlt HN.out H4.out HLX.out,by simp;omega,hb2⟩
        case measure=>simp [intOf];omega
   |false=>
    obtain ⟨len,hlen2⟩:∃len,len=jE (s.drop p):=⟨_,rfl⟩
    have hpl:p+len <= s.length:=by have:=(aEk (s.drop p)).2;rw [←hlen2,List.length_drop] at this;omega
    have hsn:=iN (c:=s[p]) (r:=s.drop (p+1)) hl hdg
    rw [←dR s p hlt,←hlen2] at hsn
    have hsz:=hbel.size
    have hge:=lG s (p+len) hpl
    have HSN:=Lib.hid hsn
    clear hsn
    have HSG:=Lib.hid hlen2
    clear hlen2
    by_cases h0:len=0
    ·have HE:=Lib.hid (show dQ (s.drop p)=.err 1 by rw [HSN.out,if_pos h0])
     have hq:((p:Int)+len == p)=true:=by rw [beq_iff_eq];omega
     have H0:=Lib.hid h0
     clear h0
     go_wp2_with (first|(go_at_call 36;((with_reducible refine (eL _ _).mono ?_);rintro e w' ⟨rfl,rfl⟩))|(go_at_call 37;((with_reducible refine (fJ _ _).mono ?_);rintro e w' ⟨rfl,rfl⟩))|(go_at_call 40;((with_reducible refine (aBz s p b off cap _ (fun j u hu=>by rw [World.cell?_alloc_lt wr _ ⟨b,off+j,none⟩ hblt];exact HB.out j u hu) hc hcm (by omega) hlt).mono ?_);rintro e w1 ⟨rfl,hb⟩;rw [←HSG.out];obtain ⟨hcc,hcf⟩:=tF hb;have hbw1:Below wr.heap.size wr w1:=((Below.refl _ _).alloc (Nat.le_refl _) _).trans (hb.mono (by simp));have hbW1:Below w.heap.size w w1:=hbel.trans (hbw1.mono hsz);have hsz1:=hbw1.size)))
     go_ret3
     exact ⟨⟨_,_,_,rfl,.inr ⟨p,1,rD hs HP.out hlt HE.out HLX.out,rfl,rfl,rfl,by omega⟩⟩,by go_grown⟩
    have HNM:=Lib.hid (show dQ (s.drop p)=.tok 4 len 0 by rw [HSN.out,if_neg h0])
    have hq:((p:Int)+len == p)=false:=by rw [beq_eq_false_iff_ne];omega
    have hl0:0<len:=by omega
    clear h0
    go_wp2_with (first|(go_at_call 36;((with_reducible refine (eL _ _).mono ?_);rintro e w' ⟨rfl,rfl⟩))|(go_at_call 37;((with_reducible refine (fJ _ _).mono ?_);rintro e w' ⟨rfl,rfl⟩))|(go_at_call 40;((with_reducible refine (aBz s p b off cap _ (fun j u hu=>by rw [World.cell?_alloc_lt wr _ ⟨b,off+j,none⟩ hblt];exact HB.out j u hu) hc hcm (by omega) hlt).mono ?_);rintro e w1 ⟨rfl,hb⟩;rw [←HSG.out];obtain ⟨hcc,hcf⟩:=tF hb;have hbw1:Below wr.heap.size wr w1:=((Below.refl _ _).alloc (Nat.le_refl _) _).trans (hb.mono (by simp));have hbW1:Below w.heap.size w w1:=hbel.trans (hbw1.mono hsz);have hsz1:=hbw1.size)))
    ·have h4:((toks.length:Int) == 4000)=true:=by assumption
     go_ret3
     exact ⟨⟨_,_,_,rfl,.inr ⟨p,3,nV hs HP.out hlt (show dQ (s.drop p)=.tok 4 len 0 from HNM.out) (by have:=h4;simp at this;omega) HLX.out,rfl,rfl,rfl,by omega⟩⟩,by go_grown⟩
    have h4:((toks.length:Int) == 4000)=false:=by assumption
    have h4':toks.length≠4000:=by intro h;rw [h] at h4;simp at h4
    have h5:toks.length<4000:=by omega
    have HN:=Lib.hid (show dQ (s.drop p)=.tok 4 len 0 from HNM.out)
    have H4:=Lib.hid h4'
    clear h4'
    go_wp2_with (first|(rw [iR HB.out p len _ hpl _ (fun o=>by (repeat rw [qV (Nat.ne_of_lt hblt)]);rw [hcc _ _ (by simp;omega),World.cell?_alloc_lt wr _ ⟨b,o,none⟩ hblt])];go_simp)|(at_builtin;refine wpList_append_own _ rfl _ _ 36 rfl w.heap.size 66 i0 _ 4 40 underlying36 hi hz0 hz1 hz2 rfl (by decide) _ toks.length (dL toks) rfl (ownsRow_below hown (by go_grown) (Nat.le_refl _)) _ 1 1 [.int .i64 4,.string (bytes ((s.drop p).take len)),.int .i64 0,.int .i64 p] rfl rfl (bXs _ _ _ _ (by simp)) (by simp [Value.oneCell']) (by unfold maxLen;omega) (by omega) (by simp;omega) ?_))
    intro v' w2 hown2 hgrow _
    have hb2:Below w.heap.size w w2:=Below.grow (by go_grown) hgrow (by simp;omega) (ownsRow_below hown (by go_grown) (Nat.le_refl _)) (Nat.le_refl _)
    clear hgrow
    go_wp2_with ((go_at_call 35;((with_reducible refine (mC s (p+len) _ (by omega) _ _ _ (jF HR.out hb2) hc (by omega) hpl).mono ?_);rintro e w' ⟨rfl,rfl⟩)))
    go_roundw
    case rel=>exact ⟨p+len,toks++[⟨4,bytes ((s.drop p).take len),0,p⟩],rfl,hpl,(by rw [←eP];simpa using hown2),nF HP.out hk hlt HN.out H4.out HLX.out,by simp;omega,hb2⟩
    case measure=>simp [intOf];omega
theorem aKn(a:Option Addr)(n cap:Nat)(w:World)(hs:(262144:Int)<n):
  Calls prog 16 #[.slice a n cap] w fun e w'=>e=.returned (.tuple #[.slice none 0 0,.int .i64 262144,.int .i64 3]) /\ w=w':=by
 go_enter func16,Tryz.ntmps16
 go_wp2_with fail
 go_ret3
 exact ⟨rfl,rfl⟩
theorem aLm(s:List UInt8)(v:Value)(w:World)(hv:dD w v s.length (cC s))(hcm:∀a n c,v=.slice a n c -> c <= 9223372036854775807):
  Calls prog 16 #[v] w fun e w'=>(∃v pos er,e=.returned (.tuple #[v,.int .i64 pos,.int .i64 er]) /\ aCp w' w.heap.size s v pos er) /\ Below w.heap.size w w':=by
 obtain ⟨a,cap,rfl,hc,hr⟩:=hv
 by_cases hs:262144<s.length
 ·refine (aKn a _ cap w (by omega)).mono fun e w' ⟨h,hw⟩=>?_
  subst hw
  refine ⟨⟨_,_,_,h,.inr ⟨262144,3,?_,rfl,rfl,rfl,by omega⟩⟩,Below.refl _ _⟩
  unfold iH;rw [if_pos (by omega)]
 exact aNh s a cap w (by omega) hc (hcm _ _ _ rfl) hr
end
section
open Go.RowKit
abbrev iF(s:List UInt8):List AC:=s.map fun c=>.val (.int .u8 c.toNat)
def aOk(s:List UInt8)(t:AT):Prop:=
 (∃l,iH s=.ok l /\ t=.tup [.c (.sl l.length (l.flatMap aW)),.c (.val (.int .i64 (s.length:Int))),nI 0] /\ l.length <= 4001)∨(∃p e:Nat,iH s=.err p e /\ t=.tup [.c (.val (.slice none 0 0)),.c (.val (.int .i64 (p:Int))),.c (.val (.int .i64 (e:Int)))] /\ e≠0)
theorem aEs{N:List Nat}{w:World}{base:Nat}{e:TypeId}{size:Nat}{v:Value}{n:Nat}{xs:List Value}(h:w.ownsRow base e size v n xs)(hN:∀x,x∈N -> x<base):dD (bI N w) v n xs:=by
 obtain ⟨h1,h2⟩:=h
 have h9:=dD.of_owns (⟨h1,h2⟩:w.ownsRow base e size v n xs)
 rcases h2 with ⟨rfl,rfl⟩|⟨g,cap,cur,rfl,hg,-⟩
 ·obtain rfl:xs=[]:=List.eq_nil_of_length_eq_zero (by simpa using h1)
  exact .nil _
 obtain ⟨a,c,he,hc,hr⟩:=h9
 refine ⟨a,c,he,hc,?_⟩
 rcases hr with h0|⟨b,off,rfl,hr⟩
 ·exact .inl h0
 cases he
 refine .inr ⟨g,0,rfl,fun j v hj=>?_⟩
 rw [eW]
 ·exact hr j v hj
 intro hm;have h9:g<base:=hN g hm;omega
theorem uW(l:List Tok):l.flatMap aW=(dL l).map .val:=by
 induction l with
 |nil=>rfl
 |cons t l ih=>rw [List.flatMap_cons,ih];unfold dL;rw [List.flatMap_cons,List.map_append];rfl
theorem aEv(l:List Tok):∀u,u∈dL l -> u.oneCell'=true:=by
 intro u hu
 unfold dL at hu
 obtain ⟨t,_,h⟩:=List.mem_flatMap.1 hu
 unfold Tok.cells at h
 simp only [mem_cons,not_mem_nil,or_false] at h
 rcases h with rfl|rfl|rfl|rfl<;>rfl
theorem aBm{w:World}{v:Value}{n:Nat}{s:List UInt8}(h:dO w (.c (.sl n (iF s))) v):dD w v n (cC s) /\ ∀a k c,v=.slice a k c -> c <= 9223372036854775807:=by
 cases h with
 |c _ _ h=>cases h with
  |sl _ _ us _ hr hl hh hcap=>
   refine ⟨?_,hcap⟩
   have:us=cC s:=by
    refine List.ext_getElem (by rw [hl];simp [iF,cC]) fun i h1 h2=>?_
    have h3:=hh i (by rw [←hl];exact h1) h1
    generalize hx:(iF s)[i]'(by rw [←hl];exact h1)=x at h3
    unfold iF at hx
    rw [List.getElem_map] at hx
    subst hx
    have hi:i<s.length:=by simpa [cC] using h2
    have h4:us[i]=.int .u8 s[i].toNat:=by
     generalize us[i]=u at h3
     cases h3;rfl
    rw [h4];simp [cC]
   rw [←this];exact hr
theorem aQt{F:FuncId}{bs:List UInt8}{s:Sto}(W:World -> Prop)(hW:∀w,Mem s w -> W w)(hF:∀v w,W w -> dD w v bs.length (cC bs) -> (∀a k c,v=.slice a k c -> c <= 9223372036854775807) -> Calls prog F #[v] w fun e w'=>(∃v pos er,e=.returned (.tuple #[v,.int .i64 pos,.int .i64 er]) /\ aCp w' w.heap.size bs v pos er) /\ Below w.heap.size w w'):
  aL prog F [.c (.sl bs.length (iF bs))] [] s fun t s'=>aOk bs t /\ s'=s:=by
 intro vs w hm _ hl hr
 obtain ⟨v,rfl⟩:∃v,vs=[v]:=by
  cases vs with
  |nil=>cases hl
  |cons v vs=>cases vs with
   |nil=>exact ⟨v,rfl⟩
   |cons _ _=>simp at hl
 obtain ⟨hv,hcap⟩:=aBm (hr 0 (by simp) (by simp))
 refine (hF v w (hW w hm) (hv.mono fun a u h=>(gA h).1) hcap).mono fun e w' ⟨⟨v',pos,er,he,hf⟩,hb⟩=>?_
 have hk:cW [] w w':=cW.of_below hb
 have hu:Up2 (bI s.bl w) (bI s.bl w'):=jA hk (fun _ h=>by cases h) (fun b h=>.inl h)
 obtain ⟨m1,m2⟩:=hm.up hu (fun b hb'=>hk.block b (hm.lt b hb') (by simp))
 have hm':Mem s w':=⟨hm.nodup,fun b hb'=>Nat.lt_of_lt_of_le (hm.lt b hb') hk.size,m1,m2⟩
 have t3:∀(x:AT)(p e2:Int),dO (bI s.bl w') x v' -> dO (bI s.bl w') (.tup [x,.c (.val (.int .i64 p)),.c (.val (.int .i64 e2))]) (.tuple #[v',.int .i64 p,.int .i64 e2]):=fun x p e2 hx=>by
  refine .tup _ [v',.int .i64 p,.int .i64 e2] rfl fun i h h'=>?_
  match i,h,h' with
  |0,_,_=>exact hx
  |1,_,_=>exact .c _ _ (.val _ rfl)
  |2,_,_=>exact .c _ _ (.val _ rfl)
 subst he
 rcases hf with ⟨l,h1,h2,rfl,rfl,h3⟩|⟨p,e2,h1,rfl,rfl,rfl,h2⟩
 ·refine ⟨_,_,s,rfl,⟨.inl ⟨l,h1,rfl,h3⟩,rfl⟩,t3 _ _ _ (.c _ _ (.sl _ _ (dL l) _ (aEs h2 hm.lt) ?_ ?_ ?_)),hm',hk,fun b hb=>.inl hb⟩
  ·rw [uW];simp
  ·rw [uW];exact (gU _ _ (aEv l)).at_
  exact uK h2
 exact ⟨_,_,s,rfl,⟨.inr ⟨p,e2,h1,rfl,h2⟩,rfl⟩,t3 _ _ _ (.c _ _ (.val _ rfl)),hm',hk,fun b hb=>.inl hb⟩
theorem aLb(bs:List UInt8)(s:Sto):aL prog 16 [.c (.sl bs.length (iF bs))] [] s fun t s'=>aOk bs t /\ s'=s:=
 aQt (fun _=>True) (fun _ _=>trivial) fun v w _ hv hc=>aLm bs v w hv hc
end
section
open Go.RowKit
section
variable {P:Program}{U T:List Nat}{o:Oper}{n d:Nat}{ts:List (Nat×AT)}{s:Sto}{K:AS -> Prop}
theorem rL{F:FuncId}{x:Operand}{fst cap:Array Value}{ars:Array Operand}{tys:Array TypeId}{us:List AT}(T':List Nat){QQ:AT -> Sto -> Prop}(ho:o.op=.call {callee:=.value x,args:=ars,argTypes:=tys})(hx:evA ⟨n,T,s,ts⟩ x=some (.c (.val (.func (.func F) fst cap))))(hd:o.dst=some d)(hn:d<n)
  (hcf:∀args w,(callFunc F args).run P w=.ok (.enter F args) w) (has:ars.toList.map (evA ⟨n,T,s,ts⟩)=us.map some) (hc:aL P F (fst.toList.map cst++us++cap.toList.map cst) T' s QQ) (hT:∀b,b∈T' -> b∈T) (hTb:∀b,b∈T' -> b∈s.bl) (hU:s.bl.Nodup -> ∀b,b∈T' -> b∈U)
  (h:∀r s',QQ r s' -> ∃T2,(s'.bl.Nodup -> ∀b,b∈T2 -> b∈s'.bl /\ (b∈s.bl -> b∈T)) /\ K ⟨n,T2++T,s',(d,r)::ts⟩):AO P U o ⟨n,T,s,ts⟩ K:=by
 intro a w hs KK QQ' hK
 obtain ⟨h1,h2⟩:=rU hs has
 obtain ⟨c1,c2⟩:=aA7 (bI s.bl w) fst.toList
 obtain ⟨d1,d2⟩:=aA7 (bI s.bl w) cap.toList
 obtain ⟨g1,g2⟩:=aBo c1 c2 h1 h2
 obtain ⟨g3,g4⟩:=aBo g1 g2 d1 d2
 unfold Oper.wp
 rw [show (execOp a.eval o).run P w=.ok (.enter F (fst.toList++ars.toList.map a.eval++cap.toList).toArray) w from by
  simp only [execOp,ho,resolve,hs.val hx,Deferred.ofValue,Sem.run_bind,Sem.run_pure,Result.andThen_ok,invoke]
  rw [hcf]
  congr 2
  rw [←Array.toList_inj];simp,Oper.upon_enter]
 refine (hc _ w hs.mem hTb g3 g4).mono ?_
 rintro en w' ⟨r,v,s',rfl,hq,hr,hm,hk,hb⟩
 dsimp only
 rw [hd]
 obtain ⟨T2,ht,hK2⟩:=h r s' hq
 have s1:=hs.step (T2++T) (hk.mono hTb) hm hb
 refine hK _ _ _ hK2 (s1.put hn hr) ⟨hk.mono hTb,hk.mono hT,hb,fun b hb2=>?_⟩ (hk.mono (hU hs.mem.nodup))
 rcases mem_append.1 hb2 with hb2|hb2
 ·obtain ⟨e1,e2⟩:=ht hm.nodup b hb2
  exact (hb b e1).imp e2 id
 exact .inl hb2
theorem aFb{bx bx':List Box}{r r':bA}{rw:List bA}{b:Nat}(hb:bx'.map Box.b=bx.map Box.b)(hn:(⟨bx',r'::rw⟩:Sto).bl.Nodup)(h1:b∈aY r'.v)(h2:b∈(⟨bx,r::rw⟩:Sto).bl):b∈aY r.v:=by
 unfold Sto.bl at hn h2
 simp only [List.flatMap_cons,mem_append] at h2
 simp only [List.flatMap_cons] at hn
 rw [hb] at hn
 rcases h2 with h|h|h
 ·exact absurd rfl ((List.nodup_append.1 hn).2.2 b h b (List.mem_append_left _ h1))
 ·exact h
 exact absurd rfl ((List.nodup_append.1 (List.nodup_append.1 hn).2.1).2.2 b h1 b h)
end
end
section
open Go.RowKit
def aGg(places:Bool)(l m:List Tok):Prop:=l.length=m.length /\ ∀k (h:k<l.length) (h':k<m.length),l[k].kind=m[k].kind /\ l[k].text=m[k].text /\ l[k].num=m[k].num /\ (places=true -> l[k].pos=m[k].pos)
theorem aGg.refl(p:Bool)(l:List Tok):aGg p l l:=⟨rfl,fun _ _ _=>⟨rfl,rfl,rfl,fun _=>rfl⟩⟩
end
end Go.Proofs.YtojinfngbbajgaaGreatDoor
