import Derived.Test.YtojinfngbbajgaaGreatDoorP5J
import Derived.Test.YtojinfngbbajgaaGreatDoorP16J
set_option linter.all false
set_option synthInstance.maxHeartbeats 1000000
set_option synthInstance.maxSize 1000000
set_option maxHeartbeats 1600000
set_option maxRecDepth 100000
namespace Go.Proofs.YtojinfngbbajgaaGreatDoor
open Go.Proofs.Tryz
open List (length_append length_cons length_nil mem_append mem_cons not_mem_nil append_assoc getElem_mem take_of_length_le)
section
open Go.RowKit
theorem kQ{α:Type}(f:α -> List UInt8)(l:List α)(k:Nat)(hk:k<l.length):((l.take (k+1)).map f).flatten=((l.take k).map f).flatten++f l[k]:=by
 rw [List.take_succ_eq_append_getElem hk,List.map_append,List.flatten_append];simp
theorem rO{α:Type}(f:α -> List UInt8):∀(l:List α)(k:Nat),(((l.take k).map f).flatten).length <= ((l.map f).flatten).length
 |[],k=>by simp
 |x::l,0=>by simp
 |x::l,k+1=>by have:=rO f l k;simp only [List.take_succ_cons,List.map_cons,List.flatten_cons,length_append];omega
theorem aNg{α:Type}(f:α -> List UInt8)(l:List α)(k:Nat)(h:k<l.length):(f l[k]).length <= ((l.map f).flatten).length:=by
 have h1:=rO f l (k+1)
 rw [kQ f l k h,length_append] at h1;omega
def bS.wt(f:bS):Nat:=1+f.params.length+wtS f.body
def cK.wt(p:cK):Nat:=p.globals.length+p.mutexes.length+(p.funcs.map bS.wt).sum
theorem aDi{α:Type}(f:α -> Nat):∀(l:List α)(k:Nat)(h:k<l.length),f l[k] <= (l.map f).sum
 |x::l,0,_=>by simp
 |x::l,k+1,h=>by have:=aDi f l k (by simpa using h);simp only [List.map_cons,List.sum_cons,List.getElem_cons_succ];omega
theorem aDr{α:Type}(f:α -> Nat)(hf:∀x,1 <= f x):∀(l:List α),l.length <= (l.map f).sum
 |[]=>by simp
 |x::l=>by have:=aDr f hf l;have:=hf x;simp only [List.map_cons,List.sum_cons,length_cons];omega
def nY(p:cK):Bool:=decide (p.globals.length <= 16 /\ p.mutexes.length <= 12 /\ p.funcs.length <= 16) && p.globals.all gH && p.mutexes.all fS && p.funcs.all gW
theorem nX(p:cK):jI p=(nY p && (iH (cR p)).isOk):=rfl
theorem aJv{p:cK}(h:nY p=true):∀f,f∈p.funcs -> bM 0 f.body=true /\ f.params.length <= 6:=by
 intro f hf
 unfold nY at h
 simp only [Bool.and_eq_true] at h
 have h2:=List.all_eq_true.1 h.2 f hf
 unfold gW at h2
 simp only [Bool.and_eq_true,decide_eq_true_eq] at h2
 exact ⟨h2.1.2,h2.1.1.2⟩
theorem wP(f:bS):funcText f=[102,117,110,99,32]++f.name.data.toList++[40]++bW bX f.params++[41,32,123,10]++aC [9] f.body++[125,10]:=rfl
theorem wR{x:aS}(h:x.mutex=true):bX x=[109,117,116,101,120,32]++x.name.data.toList:=by unfold bX;rw [if_pos h]
theorem xC{x:aS}(h:x.mutex=false):bX x=x.name.data.toList:=by unfold bX;rw [if_neg (by rw [h];decide)];rfl
theorem pS{z:Int}(h:fit z):(eH z).length <= 21:=by
 unfold eH
 have:=kC z.natAbs (by unfold fit at h;omega)
 split<;>simp<;>omega
theorem aB2(p:cK)(hv:nY p=true)(hs:p.sane)(hw:p.wt <= 900000000)(hL:(cR p).length <= 1000000000000000)(s:Sto):aL prog 62 [.agg (jV p)] [] s fun t s'=>t=.c (.val (.string (bytes (cR p)))) /\ s'=s:=by
 obtain ⟨bx,rw⟩:=s
 have hL1:=hL
 unfold cR at hL1
 simp only [length_append] at hL1
 unfold cK.wt at hw
 have hfn:=aDr bS.wt (fun x=>by unfold bS.wt;omega) p.funcs
 refine acB func62 rfl ?_
 show AWp prog _ ⟨131,_,⟨bx,rw⟩,[(0,.agg (jV p))]⟩ _
 refine go 18 fun b1=>?_
 refine oC (p.globals.length) 4 (fun k=>[(3,.c (.val (.string (bytes (((p.globals.take (k)).map aU).flatten))))),(1,pP b1)]) (sA rfl) fun k hk=>?_
 show AWp prog _ ⟨131,_,_,(4,nI k)::[(3,.c (.val (.string (bytes (((p.globals.take (k)).map aU).flatten))))),(1,pP b1)]⟩ _
 have hcm:=rO aU p.globals k
 refine go 7 ?_
 by_cases h1:((k:Nat):Int)<((p.globals.length:Nat):Int)
 ·refine wcp true rfl (jZ h1) (go 9 ?_)
  have hkl:k<p.globals.length:=by omega
  have hgs:=hs.globals _ (getElem_mem hkl)
  have hnm:p.globals[k].name.data.toList.length <= 4611686018427387904:=hgs.2
  have hnl:=pS hgs.1
  refine go 1 ?_
  refine wyz rfl (cz (((p.globals.take (k)).map aU).flatten) [118,97,114,32] rfl rfl rfl rfl rfl) (go 3 ?_)
  refine wyz rfl (bH dB dB p.globals nS (fun _=>rfl) k rfl rfl rfl rfl (by omega) (by decide) runUnderlying26 sizeOf86) (go 2 ?_)
  refine wyz rfl (cz ((((p.globals.take (k)).map aU).flatten)++[118,97,114,32]) p.globals[k].name.data.toList rfl rfl rfl rfl (back _)) (go 9 ?_)
  refine wyz rfl (bH dB dB p.globals nS (fun _=>rfl) k rfl rfl rfl rfl (by omega) (by decide) runUnderlying26 sizeOf86) (go 2 ?_)
  by_cases h3:p.globals[k].init=0
  ·refine wcp false rfl (xG h3) (go 7 ?_)
   refine wyz rfl (cz (((((p.globals.take (k)).map aU).flatten)++[118,97,114,32])++p.globals[k].name.data.toList) [59,10] rfl rfl rfl rfl rfl) (go 6 ?_)
   refine wad rfl (go 2 ?_)
   exact ⟨by omega,(aG rfl (gQ (by omega)) (aG rfl (jX (by rw [kQ aU _ k (by omega)];unfold aU;rw [if_pos h3];simp only [append_assoc,List.append_nil,List.nil_append,List.cons_append])) (sA rfl)))⟩
  refine wcp true rfl (xL h3) (go 5 ?_)
  refine wyz rfl (cz (((((p.globals.take (k)).map aU).flatten)++[118,97,114,32])++p.globals[k].name.data.toList) [32,61,32] rfl rfl rfl rfl rfl) (go 3 ?_)
  refine wyz rfl (bH dB dB p.globals nS (fun _=>rfl) k rfl rfl rfl rfl (by omega) (by decide) runUnderlying26 sizeOf86) (go 2 ?_)
  refine wc0 rfl call92 rfl (sM p.globals[k].init hgs.1 _) ?_
  rintro _ _ ⟨rfl,rfl⟩
  refine wyz rfl (cz ((((((p.globals.take (k)).map aU).flatten)++[118,97,114,32])++p.globals[k].name.data.toList)++[32,61,32]) (eH p.globals[k].init) rfl rfl rfl rfl rfl) (go 5 ?_)
  refine wyz rfl (cz (((((((p.globals.take (k)).map aU).flatten)++[118,97,114,32])++p.globals[k].name.data.toList)++[32,61,32])++(eH p.globals[k].init)) [59,10] rfl rfl rfl rfl rfl) (go 6 ?_)
  refine wad rfl (go 2 ?_)
  exact ⟨by omega,(aG rfl (gQ (by omega)) (aG rfl (jX (by rw [kQ aU _ k (by omega)];unfold aU;rw [if_neg h3];simp only [append_assoc,List.append_nil,List.nil_append,List.cons_append])) (sA rfl)))⟩
 refine wcp false rfl (jQ h1) (go 11 ?_)
 obtain rfl:k=p.globals.length:=by omega
 rw [take_of_length_le (Nat.le_refl _)]
 refine go 4 ?_
 refine oC (p.mutexes.length) 5 (fun i=>[(3,.c (.val (.string (bytes (((p.globals.map aU).flatten)++((p.mutexes.take (i)).map bE).flatten))))),(1,pP b1)]) (aG rfl (.refl _) (aG rfl (jX (by simp)) (sA rfl))) fun i hi=>?_
 show AWp prog _ ⟨131,_,_,(5,nI i)::[(3,.c (.val (.string (bytes (((p.globals.map aU).flatten)++((p.mutexes.take (i)).map bE).flatten))))),(1,pP b1)]⟩ _
 have hcm:=rO bE p.mutexes i
 refine go 7 ?_
 by_cases h8:((i:Nat):Int)<((p.mutexes.length:Nat):Int)
 ·refine wcp true rfl (jZ h8) (go 9 ?_)
  have hil:i<p.mutexes.length:=by omega
  have hms:=hs.mutexes _ (getElem_mem hil)
  have hnm:p.mutexes[i].name.data.toList.length <= 4611686018427387904:=hms.2
  have hnl:=pS hms.1
  refine go 3 ?_
  refine wyz rfl (bH bT bT p.mutexes mZ (fun _=>rfl) i rfl rfl rfl rfl (by omega) (by decide) runUnderlying27 sizeOf70) (go 9 fun b2=>?_)
  rcases Bool.eq_false_or_eq_true (p.mutexes[i].reentrant) with h10|h10
  ·refine wyz rfl (fL (bZ h10) (aX [] rfl rfl rfl isAgg4 sizeOf4 rfl (fun _ h=>by cases h))) (go 5 ?_)
   refine wyz rfl (cz (((p.globals.map aU).flatten)++((p.mutexes.take (i)).map bE).flatten) [114] rfl rfl rfl rfl rfl) (go 6 ?_)
   refine wyz rfl (cz ((((p.globals.map aU).flatten)++((p.mutexes.take (i)).map bE).flatten)++[114]) [109,117,116,101,120,32] rfl rfl rfl rfl rfl) (go 2 ?_)
   refine wyz rfl (cz (((((p.globals.map aU).flatten)++((p.mutexes.take (i)).map bE).flatten)++[114])++[109,117,116,101,120,32]) p.mutexes[i].name.data.toList rfl rfl rfl rfl (back _)) (go 8 ?_)
   by_cases h12:(0:Int)<p.mutexes[i].size
   ·refine wcp true rfl (mH h12) (go 5 ?_)
    refine wyz rfl (cz ((((((p.globals.map aU).flatten)++((p.mutexes.take (i)).map bE).flatten)++[114])++[109,117,116,101,120,32])++p.mutexes[i].name.data.toList) [91] rfl rfl rfl rfl rfl) (go 2 ?_)
    refine wc0 rfl call92 rfl (sM p.mutexes[i].size hms.1 _) ?_
    rintro _ _ ⟨rfl,rfl⟩
    refine wyz rfl (cz (((((((p.globals.map aU).flatten)++((p.mutexes.take (i)).map bE).flatten)++[114])++[109,117,116,101,120,32])++p.mutexes[i].name.data.toList)++[91]) (eH p.mutexes[i].size) rfl rfl rfl rfl rfl) ?_
    refine wyz rfl (cz ((((((((p.globals.map aU).flatten)++((p.mutexes.take (i)).map bE).flatten)++[114])++[109,117,116,101,120,32])++p.mutexes[i].name.data.toList)++[91])++(eH p.mutexes[i].size)) [93] rfl rfl rfl rfl rfl) (go 5 ?_)
    refine wyz rfl (cz (((((((((p.globals.map aU).flatten)++((p.mutexes.take (i)).map bE).flatten)++[114])++[109,117,116,101,120,32])++p.mutexes[i].name.data.toList)++[91])++(eH p.mutexes[i].size))++[93]) [59,10] rfl rfl rfl rfl rfl) (go 6 ?_)
    refine wad rfl (go 2 ?_)
    exact ⟨by omega,cA (.cons _ (.refl _)) (.refl _) (fun b hb=>List.mem_cons_of_mem _ (hb)) (aG rfl (gQ (by omega)) (aG rfl (jX (by rw [kQ bE _ i (by omega)];unfold bE;rw [if_pos h10,if_pos h12];simp only [append_assoc,List.append_nil,List.nil_append,List.cons_append])) (sA rfl)))⟩
   refine wcp false rfl (mI h12) (go 7 ?_)
   refine wyz rfl (cz ((((((p.globals.map aU).flatten)++((p.mutexes.take (i)).map bE).flatten)++[114])++[109,117,116,101,120,32])++p.mutexes[i].name.data.toList) [59,10] rfl rfl rfl rfl rfl) (go 6 ?_)
   refine wad rfl (go 2 ?_)
   exact ⟨by omega,cA (.cons _ (.refl _)) (.refl _) (fun b hb=>List.mem_cons_of_mem _ (hb)) (aG rfl (gQ (by omega)) (aG rfl (jX (by rw [kQ bE _ i (by omega)];unfold bE;rw [if_pos h10,if_neg h12];simp only [append_assoc,List.append_nil,List.nil_append,List.cons_append])) (sA rfl)))⟩
  refine wyz rfl (fL (bZ h10) (aX [] rfl rfl rfl isAgg4 sizeOf4 rfl (fun _ h=>by cases h))) (go 8 ?_)
  refine wyz rfl (cz (((p.globals.map aU).flatten)++((p.mutexes.take (i)).map bE).flatten) [109,117,116,101,120,32] rfl rfl rfl rfl rfl) (go 2 ?_)
  refine wyz rfl (cz ((((p.globals.map aU).flatten)++((p.mutexes.take (i)).map bE).flatten)++[109,117,116,101,120,32]) p.mutexes[i].name.data.toList rfl rfl rfl rfl (back _)) (go 8 ?_)
  by_cases h17:(0:Int)<p.mutexes[i].size
  ·refine wcp true rfl (mH h17) (go 5 ?_)
   refine wyz rfl (cz (((((p.globals.map aU).flatten)++((p.mutexes.take (i)).map bE).flatten)++[109,117,116,101,120,32])++p.mutexes[i].name.data.toList) [91] rfl rfl rfl rfl rfl) (go 2 ?_)
   refine wc0 rfl call92 rfl (sM p.mutexes[i].size hms.1 _) ?_
   rintro _ _ ⟨rfl,rfl⟩
   refine wyz rfl (cz ((((((p.globals.map aU).flatten)++((p.mutexes.take (i)).map bE).flatten)++[109,117,116,101,120,32])++p.mutexes[i].name.data.toList)++[91]) (eH p.mutexes[i].size) rfl rfl rfl rfl rfl) ?_
   refine wyz rfl (cz (((((((p.globals.map aU).flatten)++((p.mutexes.take (i)).map bE).flatten)++[109,117,116,101,120,32])++p.mutexes[i].name.data.toList)++[91])++(eH p.mutexes[i].size)) [93] rfl rfl rfl rfl rfl) (go 5 ?_)
   refine wyz rfl (cz ((((((((p.globals.map aU).flatten)++((p.mutexes.take (i)).map bE).flatten)++[109,117,116,101,120,32])++p.mutexes[i].name.data.toList)++[91])++(eH p.mutexes[i].size))++[93]) [59,10] rfl rfl rfl rfl rfl) (go 6 ?_)
   refine wad rfl (go 2 ?_)
   exact ⟨by omega,cA (.cons _ (.refl _)) (.refl _) (fun b hb=>List.mem_cons_of_mem _ (hb)) (aG rfl (gQ (by omega)) (aG rfl (jX (by rw [kQ bE _ i (by omega)];unfold bE;rw [if_neg (by rw [h10];decide),if_pos h17];simp only [append_assoc,List.append_nil,List.nil_append,List.cons_append])) (sA rfl)))⟩
  refine wcp false rfl (mI h17) (go 7 ?_)
  refine wyz rfl (cz (((((p.globals.map aU).flatten)++((p.mutexes.take (i)).map bE).flatten)++[109,117,116,101,120,32])++p.mutexes[i].name.data.toList) [59,10] rfl rfl rfl rfl rfl) (go 6 ?_)
  refine wad rfl (go 2 ?_)
  exact ⟨by omega,cA (.cons _ (.refl _)) (.refl _) (fun b hb=>List.mem_cons_of_mem _ (hb)) (aG rfl (gQ (by omega)) (aG rfl (jX (by rw [kQ bE _ i (by omega)];unfold bE;rw [if_neg (by rw [h10];decide),if_neg h17];simp only [append_assoc,List.append_nil,List.nil_append,List.cons_append])) (sA rfl)))⟩
 refine wcp false rfl (jQ h8) (go 11 ?_)
 obtain rfl:i=p.mutexes.length:=by omega
 rw [take_of_length_le (Nat.le_refl _)]
 refine go 4 ?_
 refine oC (p.funcs.length) 7 (fun f=>[(3,.c (.val (.string (bytes (((p.globals.map aU).flatten)++((p.mutexes.map bE).flatten)++((p.funcs.take (f)).map funcText).flatten))))),(1,pP b1)]) (aG rfl (.refl _) (aG rfl (jX (by simp)) (sA rfl))) fun f hf=>?_
 show AWp prog _ ⟨131,_,_,(7,nI f)::[(3,.c (.val (.string (bytes (((p.globals.map aU).flatten)++((p.mutexes.map bE).flatten)++((p.funcs.take (f)).map funcText).flatten))))),(1,pP b1)]⟩ _
 have hcm:=rO funcText p.funcs f
 refine go 7 ?_
 by_cases h22:((f:Nat):Int)<((p.funcs.length:Nat):Int)
 ·refine wcp true rfl (jZ h22) (go 9 ?_)
  have hfl:f<p.funcs.length:=by omega
  have hfs:=hs.funcs _ (getElem_mem hfl)
  have hnm:p.funcs[f].name.data.toList.length <= 4611686018427387904:=hfs.1
  have hfi:=aNg funcText p.funcs f hfl
  have hfi2:=hfi
  rw [wP p.funcs[f]] at hfi2
  simp only [length_append] at hfi2
  have hfw:=aDi bS.wt p.funcs f hfl
  rw [show bS.wt p.funcs[f]=1+p.funcs[f].params.length+wtS p.funcs[f].body from rfl] at hfw
  have hfb:=aJv hv _ (getElem_mem hfl)
  refine go 3 ?_
  refine wyz rfl (bH fV fV p.funcs vC (fun _=>rfl) f rfl rfl rfl rfl (by omega) (by decide) runUnderlying28 sizeOf58) (go 8 fun b3=>?_)
  refine wyz rfl (cz (((p.globals.map aU).flatten)++((p.mutexes.map bE).flatten)++((p.funcs.take (f)).map funcText).flatten) [102,117,110,99,32] rfl rfl rfl rfl rfl) (go 2 ?_)
  refine wyz rfl (cz ((((p.globals.map aU).flatten)++((p.mutexes.map bE).flatten)++((p.funcs.take (f)).map funcText).flatten)++[102,117,110,99,32]) p.funcs[f].name.data.toList rfl rfl rfl rfl (back _)) ?_
  refine wyz rfl (cz (((((p.globals.map aU).flatten)++((p.mutexes.map bE).flatten)++((p.funcs.take (f)).map funcText).flatten)++[102,117,110,99,32])++p.funcs[f].name.data.toList) [40] rfl rfl rfl rfl rfl) (go 10 ?_)
  refine oC (p.funcs[f].params.length) 9 (fun j=>[(3,.c (.val (.string (bytes ((((p.globals.map aU).flatten)++((p.mutexes.map bE).flatten)++((p.funcs.take (f)).map funcText).flatten)++[102,117,110,99,32]++p.funcs[f].name.data.toList++[40]++bW bX (p.funcs[f].params.take (j))))))),(1,pP b1),(7,nI f),(8,pP b3)]) (aG rfl (.refl _) (aG rfl (jX (by simp [bW])) (sA rfl))) fun j hj=>?_
  show AWp prog _ ⟨131,_,_,(9,nI j)::[(3,.c (.val (.string (bytes ((((p.globals.map aU).flatten)++((p.mutexes.map bE).flatten)++((p.funcs.take (f)).map funcText).flatten)++[102,117,110,99,32]++p.funcs[f].name.data.toList++[40]++bW bX (p.funcs[f].params.take (j))))))),(1,pP b1),(7,nI f),(8,pP b3)]⟩ _
  have hcj:=rS bX p.funcs[f].params j
  refine go 7 ?_
  by_cases h24:((j:Nat):Int)<((p.funcs[f].params.length:Nat):Int)
  ·refine wcp true rfl (jZ h24) (go 10 ?_)
   have hjl:j<p.funcs[f].params.length:=by omega
   have hpn:p.funcs[f].params[j].name.data.toList.length <= 4611686018427387904:=hfs.2.1 _ (getElem_mem hjl)
   refine go 1 ?_
   by_cases h26:(0:Int)<((j:Nat):Int)
   ·refine wcp true rfl (mH h26) (go 5 ?_)
    refine wyz rfl (cz ((((p.globals.map aU).flatten)++((p.mutexes.map bE).flatten)++((p.funcs.take (f)).map funcText).flatten)++[102,117,110,99,32]++p.funcs[f].name.data.toList++[40]++bW bX (p.funcs[f].params.take (j))) [44,32] rfl rfl rfl rfl rfl) (go 9 ?_)
    refine wyz rfl (bH cP cP p.funcs[f].params gL (fun _=>rfl) j rfl rfl rfl rfl (by omega) (by decide) runUnderlying55 sizeOf89) (go 1 ?_)
    rcases Bool.eq_false_or_eq_true (p.funcs[f].params[j].mutex) with h28|h28
    ·refine wyz rfl (fL (bZ h28) (iP rfl rfl isAgg4 sizeOf4 rfl)) (go 5 ?_)
     refine wyz rfl (cz (((((p.globals.map aU).flatten)++((p.mutexes.map bE).flatten)++((p.funcs.take (f)).map funcText).flatten)++[102,117,110,99,32]++p.funcs[f].name.data.toList++[40]++bW bX (p.funcs[f].params.take (j)))++[44,32]) [109,117,116,101,120,32] rfl rfl rfl rfl rfl) (go 8 ?_)
     refine wyz rfl (bH cP cP p.funcs[f].params gL (fun _=>rfl) j rfl rfl rfl rfl (by omega) (by decide) runUnderlying55 sizeOf89) (go 2 ?_)
     refine wyz rfl (cz ((((((p.globals.map aU).flatten)++((p.mutexes.map bE).flatten)++((p.funcs.take (f)).map funcText).flatten)++[102,117,110,99,32]++p.funcs[f].name.data.toList++[40]++bW bX (p.funcs[f].params.take (j)))++[44,32])++[109,117,116,101,120,32]) p.funcs[f].params[j].name.data.toList rfl rfl rfl rfl (back _)) (go 6 ?_)
     refine wad rfl (go 2 ?_)
     exact ⟨by omega,(aG rfl (gQ (by omega)) (aG rfl (jX (by rw [hJ bX _ j (by omega),if_neg (by omega),wR h28];simp only [append_assoc,List.append_nil,List.nil_append,List.cons_append])) (sA rfl)))⟩
    refine wyz rfl (fL (bZ h28) (iP rfl rfl isAgg4 sizeOf4 rfl)) (go 10 ?_)
    refine wyz rfl (bH cP cP p.funcs[f].params gL (fun _=>rfl) j rfl rfl rfl rfl (by omega) (by decide) runUnderlying55 sizeOf89) (go 2 ?_)
    refine wyz rfl (cz (((((p.globals.map aU).flatten)++((p.mutexes.map bE).flatten)++((p.funcs.take (f)).map funcText).flatten)++[102,117,110,99,32]++p.funcs[f].name.data.toList++[40]++bW bX (p.funcs[f].params.take (j)))++[44,32]) p.funcs[f].params[j].name.data.toList rfl rfl rfl rfl (back _)) (go 6 ?_)
    refine wad rfl (go 2 ?_)
    exact ⟨by omega,(aG rfl (gQ (by omega)) (aG rfl (jX (by rw [hJ bX _ j (by omega),if_neg (by omega),xC h28];simp only [append_assoc,List.append_nil,List.nil_append,List.cons_append])) (sA rfl)))⟩
   refine wcp false rfl (mI h26) (go 11 ?_)
   refine wyz rfl (bH cP cP p.funcs[f].params gL (fun _=>rfl) j rfl rfl rfl rfl (by omega) (by decide) runUnderlying55 sizeOf89) (go 1 ?_)
   rcases Bool.eq_false_or_eq_true (p.funcs[f].params[j].mutex) with h32|h32
   ·refine wyz rfl (fL (bZ h32) (iP rfl rfl isAgg4 sizeOf4 rfl)) (go 5 ?_)
    refine wyz rfl (cz ((((p.globals.map aU).flatten)++((p.mutexes.map bE).flatten)++((p.funcs.take (f)).map funcText).flatten)++[102,117,110,99,32]++p.funcs[f].name.data.toList++[40]++bW bX (p.funcs[f].params.take (j))) [109,117,116,101,120,32] rfl rfl rfl rfl rfl) (go 8 ?_)
    refine wyz rfl (bH cP cP p.funcs[f].params gL (fun _=>rfl) j rfl rfl rfl rfl (by omega) (by decide) runUnderlying55 sizeOf89) (go 2 ?_)
    refine wyz rfl (cz (((((p.globals.map aU).flatten)++((p.mutexes.map bE).flatten)++((p.funcs.take (f)).map funcText).flatten)++[102,117,110,99,32]++p.funcs[f].name.data.toList++[40]++bW bX (p.funcs[f].params.take (j)))++[109,117,116,101,120,32]) p.funcs[f].params[j].name.data.toList rfl rfl rfl rfl (back _)) (go 6 ?_)
    refine wad rfl (go 2 ?_)
    exact ⟨by omega,(aG rfl (gQ (by omega)) (aG rfl (jX (by rw [hJ bX _ j (by omega),if_pos (by omega),wR h32];simp only [append_assoc,List.append_nil,List.nil_append,List.cons_append])) (sA rfl)))⟩
   refine wyz rfl (fL (bZ h32) (iP rfl rfl isAgg4 sizeOf4 rfl)) (go 10 ?_)
   refine wyz rfl (bH cP cP p.funcs[f].params gL (fun _=>rfl) j rfl rfl rfl rfl (by omega) (by decide) runUnderlying55 sizeOf89) (go 2 ?_)
   refine wyz rfl (cz ((((p.globals.map aU).flatten)++((p.mutexes.map bE).flatten)++((p.funcs.take (f)).map funcText).flatten)++[102,117,110,99,32]++p.funcs[f].name.data.toList++[40]++bW bX (p.funcs[f].params.take (j))) p.funcs[f].params[j].name.data.toList rfl rfl rfl rfl (back _)) (go 6 ?_)
   refine wad rfl (go 2 ?_)
   exact ⟨by omega,(aG rfl (gQ (by omega)) (aG rfl (jX (by rw [hJ bX _ j (by omega),if_pos (by omega),xC h32];simp only [append_assoc,List.append_nil,List.nil_append,List.cons_append])) (sA rfl)))⟩
  refine wcp false rfl (jQ h24) (go 9 ?_)
  obtain rfl:j=p.funcs[f].params.length:=by omega
  rw [take_of_length_le (Nat.le_refl _)]
  refine go 1 ?_
  refine wyz rfl (cz ((((p.globals.map aU).flatten)++((p.mutexes.map bE).flatten)++((p.funcs.take (f)).map funcText).flatten)++[102,117,110,99,32]++p.funcs[f].name.data.toList++[40]++bW bX p.funcs[f].params) [41,32,123,10] rfl rfl rfl rfl rfl) (go 2 ?_)
  refine wc0 rfl call93 rfl (aDp _ 0 p.funcs[f].body [9] (Nat.le_refl _) (by omega) hfb.1 hfs.2.2 (by decide) (by omega) _) ?_
  rintro _ _ ⟨rfl,rfl⟩
  refine wyz rfl (cz (((((p.globals.map aU).flatten)++((p.mutexes.map bE).flatten)++((p.funcs.take (f)).map funcText).flatten)++[102,117,110,99,32]++p.funcs[f].name.data.toList++[40]++bW bX p.funcs[f].params)++[41,32,123,10]) (aC [9] p.funcs[f].body) rfl rfl rfl rfl rfl) ?_
  refine wyz rfl (cz ((((((p.globals.map aU).flatten)++((p.mutexes.map bE).flatten)++((p.funcs.take (f)).map funcText).flatten)++[102,117,110,99,32]++p.funcs[f].name.data.toList++[40]++bW bX p.funcs[f].params)++[41,32,123,10])++(aC [9] p.funcs[f].body)) [125,10] rfl rfl rfl rfl rfl) (go 6 ?_)
  refine wad rfl (go 2 ?_)
  exact ⟨by omega,cA (.cons _ (.refl _)) (.refl _) (fun b hb=>List.mem_cons_of_mem _ (hb)) (aG rfl (gQ (by omega)) (aG rfl (jX (by rw [kQ funcText _ f (by omega)];unfold funcText;simp only [append_assoc,List.append_nil,List.nil_append,List.cons_append])) (sA rfl)))⟩
 refine wcp false rfl (jQ h22) (go 10 ?_)
 obtain rfl:f=p.funcs.length:=by omega
 rw [take_of_length_le (Nat.le_refl _)]
 refine go 5 ?_
 exact bHe (s':=⟨bx,rw⟩) rfl sb1 ⟨oW rfl,rfl⟩
end
end Go.Proofs.YtojinfngbbajgaaGreatDoor
