import Derived.Test.YtojinfngbbajgaaGreatDoorF5J
import Derived.Test.YtojinfngbbajgaaGreatDoorF32J
import Derived.Test.YtojinfngbbajgaaGreatDoorF8J
import Derived.Test.YtojinfngbbajgaaGreatDoorF9J
set_option linter.all false
set_option synthInstance.maxHeartbeats 1000000
set_option synthInstance.maxSize 1000000
set_option maxHeartbeats 8000000
set_option maxRecDepth 100000
namespace Go.Proofs.YtojinfngbbajgaaGreatDoor
open Go.Proofs.Tryz
open List (length_append length_cons length_nil mem_append mem_cons not_mem_nil append_assoc getElem_mem take_of_length_le)
section
open Go.RowKit
theorem dJ.len2{ms:List cL}{fs:List Sig}{ps:List aS}{vars:List ByteArray}{deep left left':Nat}{l:List aJ}(h:dJ ms fs ps vars deep left l left'):l.length+2*left' <= 2*left:=by
 induction h<;>(try simp only [length_cons,length_append,length_nil])<;>omega
def BTo(ms:List cL)(fs:List Sig)(ps:List aS)(vars0:List ByteArray)(deep left0:Nat)(vs:List ByteArray)(left:Nat)(al:List aJ):Prop:=
 ∀rest l',dJ ms fs ps vs deep left rest l' -> dJ ms fs ps vars0 deep left0 (al++rest) l'
theorem BTo.step{ms:List cL}{fs:List Sig}{ps:List aS}{vars0 vs vs':List ByteArray}{deep left0 left left':Nat}{al:List aJ}(h:BTo ms fs ps vars0 deep left0 vs left al)(x:List aJ)
  (hx:∀rest l',dJ ms fs ps vs' deep left' rest l' -> dJ ms fs ps vs deep left (x++rest) l'):BTo ms fs ps vars0 deep left0 vs' left' (al++x):=fun rest l' hr=>by
 rw [append_assoc];exact h _ _ (hx _ _ hr)
theorem BTo.fin{ms:List cL}{fs:List Sig}{ps:List aS}{vars0 vs:List ByteArray}{deep left0 left:Nat}{al:List aJ}(h:BTo ms fs ps vars0 deep left0 vs left al):dJ ms fs ps vars0 deep left0 al left:=by
 have:=h [] left .nil
 rwa [List.append_nil] at this
def cQ(f:ByteArray×List aS×AC):List AC:=[.val (.string f.1),.sl f.2.1.length (f.2.1.flatMap cP),f.2.2]
theorem flat_get{α:Type}(enc:α -> List AC)(z:Nat)(hz:∀x,(enc x).length=z):∀(fs:List α)(j:Nat)(h:j<fs.length),((fs.flatMap enc).drop (j*z)).take z=enc fs[j] /\ j*z+z <= (fs.flatMap enc).length
 |f::fs,0,_=>by
  rw [List.flatMap_cons,Nat.zero_mul,List.drop_zero,List.take_left' (hz f)]
  exact ⟨rfl,by rw [length_append,hz];omega⟩
 |f::fs,j+1,h=>by
  obtain ⟨h1,h2⟩:=flat_get enc z hz fs j (by simpa using h)
  rw [List.flatMap_cons,show (j+1)*z=z+j*z by rw [Nat.succ_mul,Nat.add_comm],←List.drop_drop,List.drop_left' (hz f)]
  exact ⟨h1,by rw [length_append,hz];omega⟩
theorem nG(fs:List (ByteArray×List aS×AC))(j:Nat)(h:j<fs.length):pk true 3 (fs.flatMap cQ) (0+j*3)=some (.agg [.val (.string fs[j].1),.sl fs[j].2.1.length (fs[j].2.1.flatMap cP),fs[j].2.2]):=by
 obtain ⟨h1,h2⟩:=flat_get cQ 3 (fun _=>rfl) fs j h
 unfold pk
 rw [if_pos rfl,Nat.zero_add,if_pos h2,h1];rfl
theorem aCq{P:Program}{c y:Code}{st:AS}{Q Q0:Exit -> AS -> Prop}{ι:Type}(NF:ι -> AS)(I:ι -> Prop)(h1:AWp P c st (fun e s=>e=.normal /\ ∃i,I i /\ Sub s (NF i)))(h2:∀i,I i -> AWp P y (NF i) Q):AWp P c st (sU (fun s=>AWp P y s Q) Q0):=
 sE h1 fun e s ⟨he,i,hi,hs⟩=>by subst he;exact rX (zU hs (h2 i hi))
section
variable {P:Program}{U:List Nat}{o:Oper}{st:AS}{t:AT}
theorem dT{E E0:TypeId}{x:Operand}{g off z zz k cap:Nat}{cs:List AC}{ag:Bool}(ho:o.op=.load E x)(hx:evA st x=some (.c (.val (.pointer (some ⟨g,off,none⟩)))))(hrow:(⟨.slice (some ⟨g,0,none⟩) k cap,E0,zz,k,cs⟩:bA)∈st.s.rows)
  (hA:∀w,(isAgg E).run P w=.ok ag w) (hS:∀w,(sizeOf E).run P w=.ok z w) (hp:pk ag z cs off=some t) (hU:st.s.bl.Nodup -> g∉U):AY P U o st t:=by
 obtain ⟨n,T,⟨bx,rows⟩,ts⟩:=st
 obtain ⟨A,B,hAB⟩:=List.append_of_mem hrow
 exact rM A ho hx hAB hA hS hp hU
theorem dU{E yt:TypeId}{x y:Operand}{m k r:Nat}(ho:o.op=.binOp .add E x y yt)(hx:evA st x=some (nI m))(hy:evA st y=some (nI k))(hr:m+k=r)(h2:r <= 1000000):AY P U o st (nI r):=by
 subst hr
 have h:=bB (P:=P) (U:=U) ho hx hy (by omega) (by omega)
 rwa [show ((m:Nat):Int)+((k:Nat):Int)=((m+k:Nat):Int) by omega] at h
theorem aOm{E yt:TypeId}{x y:Operand}{m k:Nat}(r:Nat)(ho:o.op=.binOp .quo E x y yt)(hx:evA st x=some (nI m))(hy:evA st y=some (nI k))(hk:k≠0)(hm:m <= 1000000)(hr:m/k=r):AY P U o st (nI r):=by
 subst hr
 refine aG3 ho hx hy (by omega) ?_
 have h1:m/k <= m:=Nat.div_le_self _ _
 show some (IntKind.i64.wrap ((m:Int).tdiv (k:Int)))=_
 rw [show ((m:Int).tdiv (k:Int))=((m/k:Nat):Int) from (Int.ofNat_tdiv m k).symm]
 generalize m/k=q at h1
 rw [IntWalk.i64_in _ (by omega)]
theorem uN{E yt:TypeId}{x y:Operand}{m:Nat}{b r:ByteArray}(ho:o.op=.binOp .add E x y yt)(hx:evA st x=some (.c (.val (.string ⟨#[118]⟩))))(hy:evA st y=some (.c (.val (.string b))))(hb:b=bytes [UInt8.ofNat (97+m%26),UInt8.ofNat (97+m/26%26)])(hr:cM m=r):AY P U o st (.c (.val (.string r))):=by
 subst hr;subst hb
 have h:=aHr (P:=P) (U:=U) ho hx hy (by show 1+2 <= _;decide)
 exact h
end
theorem oY(l:List aJ):(l.flatMap encS).length=l.length*11:=by
 induction l with
 |nil=>rfl
 |cons x l ih=>rw [List.flatMap_cons,length_append,mE,ih,length_cons,Nat.succ_mul,Nat.add_comm]
theorem aKm(B:List Box)(S W:Nat)(l:List Int)(ms:List cL)(ps:List aS)(fn:ByteArray)(G FB:AC)(ar:Bool)(fs:List (ByteArray×List aS×AC))(gF capF:Nat)(hl:l.length <= 1000000)(hm1:1 <= ms.length)(hm2:ms.length <= 1000)(hmz:∀m,m∈ms -> m.size <= 1000)(hp2:ps.length <= 1000)(hf1:1 <= fs.length)(hf2:fs.length <= 1000)(hfp:∀f,f∈fs -> f.2.1.length <= 1000)(L:Nat)(ih:∀(m:Nat),m<L -> ∀(A:List Box) (RA rw:List bA) (vv:Value) (vars:List ByteArray) (i deep most:Nat) (hi:i <= l.length) (hd:deep <= 100) (hmost:most <= 1000) (hvl:vars.length+m <= 1000) (hF:(⟨.slice (some ⟨gF,0,none⟩) fs.length capF,58,3,fs.length,fs.flatMap cQ⟩:bA)∈rw),aL prog 46 [pP W,.agg [.val (.string fn),.sl ps.length (ps.flatMap cP),FB],.c (.val vv),nI deep,nI most] [S,W] (SSt A (⟨W,104,[.val (.pointer (some ⟨S,0,none⟩)),G,(.sl ms.length (ms.flatMap bT)),(.val (.slice (some ⟨gF,0,none⟩) fs.length capF)),nC m,.val (.bool ar)]⟩::B) (gP RA vv vars rw) S l i) (fun r s=>∃(al:List aJ) (i left':Nat),r=.c (.sl al.length (al.flatMap encS)) /\ dJ ms (fs.map fun f=>(f.1,f.2.1)) ps vars deep m al left' /\ i <= l.length /\ s=SSt A (⟨W,104,[.val (.pointer (some ⟨S,0,none⟩)),G,(.sl ms.length (ms.flatMap bT)),(.val (.slice (some ⟨gF,0,none⟩) fs.length capF)),.val (.int .i64 ((left':Nat):Int)),.val (.bool ar)]⟩::B) (gP RA vv vars rw) S l i))(A:List Box)(RA rw:List bA)(vv:Value)(vars:List ByteArray)(i0 deep most:Nat)(hi0:i0 <= l.length)(hd:deep <= 100)(hmost:most <= 1000)(hvl:vars.length+L <= 1000)(hF:(⟨.slice (some ⟨gF,0,none⟩) fs.length capF,58,3,fs.length,fs.flatMap cQ⟩:bA)∈rw):aL prog 46 [pP W,.agg [.val (.string fn),.sl ps.length (ps.flatMap cP),FB],.c (.val vv),nI deep,nI most] [S,W] (SSt A (⟨W,104,[.val (.pointer (some ⟨S,0,none⟩)),G,(.sl ms.length (ms.flatMap bT)),(.val (.slice (some ⟨gF,0,none⟩) fs.length capF)),nC L,.val (.bool ar)]⟩::B) (gP RA vv vars rw) S l i0) (fun r s=>∃(al:List aJ) (i left':Nat),r=.c (.sl al.length (al.flatMap encS)) /\ dJ ms (fs.map fun f=>(f.1,f.2.1)) ps vars deep L al left' /\ i <= l.length /\ s=SSt A (⟨W,104,[.val (.pointer (some ⟨S,0,none⟩)),G,(.sl ms.length (ms.flatMap bT)),(.val (.slice (some ⟨gF,0,none⟩) fs.length capF)),.val (.int .i64 ((left':Nat):Int)),.val (.bool ar)]⟩::B) (gP RA vv vars rw) S l i):=by
 refine acB func46 rfl ?_
 show AWp prog _ ⟨249,[S,W],⟨A++⟨S,102,[.sl l.length (l.map fun i=>.val (.int .i64 i)),nC i0]⟩::⟨W,104,[.val (.pointer (some ⟨S,0,none⟩)),G,(.sl ms.length (ms.flatMap bT)),(.val (.slice (some ⟨gF,0,none⟩) fs.length capF)),nC L,.val (.bool ar)]⟩::B,RA++⟨vv,9,1,vars.length,bP vars⟩::rw⟩,[(0,pP W),(1,.agg [.val (.string fn),.sl ps.length (ps.flatMap cP),FB]),(2,.c (.val vv)),(3,nI deep),(4,nI most)]⟩ _
 refine go 13 fun b1=>?_
 refine wo rfl (aTr rfl rfl (by decide) underlying50 sizeOf9 fun g0=>?_)
 refine go 1 ?_
 refine wo rfl (aSk (ds:=bP vars) [] Tryz.t9 16 rfl rfl (by decide) rfl rfl (by simp) underlying50 (by kernel_rfl) rfl rfl rfl rfl (by decide) (by unfold maxLen;omega) (by omega) (Nat.zero_add vars.length) (fun _ b hb=>by simp [aY,Value.ownBlock] at hb;simp [hb]) (fun b hb=>by simp [aY,Value.ownBlock] at hb;simp [hb]) (by simp) (List.nil_append _) fun u0=>?_)
 refine go 11 ?_
 refine wyz rfl (dU (k:=1) rfl rfl rfl rfl (by omega)) ?_
 refine wo rfl (bD [S] rfl rfl (by decide) call45 rfl (eC (_::A) _ _ _ l i0 _ hi0 hl (by omega) (by omega)) (bDj (by simp)) (bDj (by simp [Sto.bl])) (fun _=>bDj (by simp)) ?_)
 rintro r1 s1 ⟨z1,i1,rfl,hy1,hi1,rfl⟩
 refine go 4 ?_
 refine qR 78 11 ?_
 refine fM (fun g:Nat×Nat×Nat×Value×List ByteArray×Value×List aJ=>(⟨249,aY g.2.2.2.2.2.1++(aY g.2.2.2.1++[b1,S,W]),⟨⟨b1,58,[.val (.string fn),.sl ps.length (ps.flatMap cP),FB]⟩::(A++⟨S,102,[.sl l.length (l.map fun i=>.val (.int .i64 i)),nC g.2.2.1]⟩::⟨W,104,[.val (.pointer (some ⟨S,0,none⟩)),G,(.sl ms.length (ms.flatMap bT)),(.val (.slice (some ⟨gF,0,none⟩) fs.length capF)),nC g.2.1,.val (.bool ar)]⟩::B),⟨g.2.2.2.2.2.1,78,11,g.2.2.2.2.2.2.length,g.2.2.2.2.2.2.flatMap encS⟩::⟨g.2.2.2.1,9,1,g.2.2.2.2.1.length,bP g.2.2.2.2.1⟩::RA++⟨vv,9,1,vars.length,bP vars⟩::rw⟩,[(12,nI g.1),(11,.c (.val g.2.2.2.2.2.1)),(2,.c (.val g.2.2.2.1)),(0,pP W),(3,nI deep),(6,pP b1)]⟩:AS)) (fun g=>g.1 <= most /\ g.2.1 <= L /\ g.2.2.1 <= l.length /\ g.2.2.2.2.1.length+g.2.1 <= 1000 /\ g.2.2.2.2.2.2.length+2*g.2.1 <= 2*L /\ BTo ms (fs.map fun f=>(f.1,f.2.1)) ps vars deep L g.2.2.2.2.1 g.2.1 g.2.2.2.2.2.2) (fun g=>g.1) (z1,L,i1,u0,vars,.slice none 0 0,[]) (cA (.refl _) (.refl _) (by intro x hx;simp [aY,Value.ownBlock] at hx⊢;rcases hx with h|h|h|h<;>simp [h]) (sA rfl)) ⟨by omega,Nat.le_refl _,hi1,hvl,Nat.le_of_eq (Nat.zero_add _),fun _ _ h=>h⟩ ?_
 rintro ⟨n,lf,ik,u,us,vo,al⟩ ⟨hn,hlf,hik,hul,hal,hto⟩
 dsimp only at hn hlf hik hul hal hto
 show AWp prog _ (⟨249,aY vo++(aY u++[b1,S,W]),⟨⟨b1,58,[.val (.string fn),.sl ps.length (ps.flatMap cP),FB]⟩::(A++⟨S,102,[.sl l.length (l.map fun i=>.val (.int .i64 i)),nC ik]⟩::⟨W,104,[.val (.pointer (some ⟨S,0,none⟩)),G,(.sl ms.length (ms.flatMap bT)),(.val (.slice (some ⟨gF,0,none⟩) fs.length capF)),nC lf,.val (.bool ar)]⟩::B),⟨vo,78,11,al.length,al.flatMap encS⟩::⟨u,9,1,us.length,bP us⟩::RA++⟨vv,9,1,vars.length,bP vars⟩::rw⟩,[(12,nI n),(11,.c (.val vo)),(2,.c (.val u)),(0,pP W),(3,nI deep),(6,pP b1)]⟩:AS) _
 refine go 4 ?_
 by_cases hn0:0<n
 ·obtain ⟨n,rfl⟩:∃q,n=q+1:=⟨n-1,by omega⟩
  refine wcp true rfl (by first|exact eU (by omega)|(simp [bC]<;>omega)) (go 5 ?_)
  by_cases hl0:0<lf
  ·obtain ⟨m,rfl⟩:∃q,lf=q+1:=⟨lf-1,by omega⟩
   refine wcp true rfl (by first|exact eU (by omega)|(simp [bC]<;>omega)) (go 14 ?_)
   refine wyz rfl (cI ((m:Nat):Int) rfl rfl rfl (by omega) (by omega) (by omega)) (go 19 fun b2=>?_)
   refine wo rfl (bD [S] rfl rfl (by decide) call45 rfl (eC (_::_::A) _ _ _ l ik _ hik hl (by decide) (by decide)) (bDj (by simp)) (bDj (by simp [Sto.bl])) (fun _=>bDj (by simp)) ?_)
   rintro r2 s2 ⟨z2,i2,rfl,hy2,hi2,rfl⟩
   refine go 3 ?_
   refine aCq (fun g:Nat×List AC×aJ×Nat×Nat×Value×List ByteArray×Value×List aJ=>(⟨249,g.1::(aY g.2.2.2.2.2.2.2.1++(aY g.2.2.2.2.2.1++[b1,S,W])),⟨⟨g.1,78,g.2.1⟩::⟨b1,58,[.val (.string fn),.sl ps.length (ps.flatMap cP),FB]⟩::(A++⟨S,102,[.sl l.length (l.map fun i=>.val (.int .i64 i)),nC g.2.2.2.2.1]⟩::⟨W,104,[.val (.pointer (some ⟨S,0,none⟩)),G,(.sl ms.length (ms.flatMap bT)),(.val (.slice (some ⟨gF,0,none⟩) fs.length capF)),nC g.2.2.2.1,.val (.bool ar)]⟩::B),⟨g.2.2.2.2.2.2.2.1,78,11,g.2.2.2.2.2.2.2.2.length,g.2.2.2.2.2.2.2.2.flatMap encS⟩::⟨g.2.2.2.2.2.1,9,1,g.2.2.2.2.2.2.1.length,bP g.2.2.2.2.2.2.1⟩::RA++⟨vv,9,1,vars.length,bP vars⟩::rw⟩,[(13,.c (.val (.pointer (some ⟨g.1,0,none⟩)))),(12,nI (n+1)),(11,.c (.val g.2.2.2.2.2.2.2.1)),(2,.c (.val g.2.2.2.2.2.1)),(0,pP W),(3,nI deep),(6,pP b1)]⟩:AS)) (fun g=>g.2.1.length=11 /\ WkL g.2.1 (dG g.2.2.1) /\ g.2.2.2.1 <= L /\ g.2.2.2.2.1 <= l.length /\ g.2.2.2.2.2.2.1.length+g.2.2.2.1 <= 1000 /\ (g.2.2.2.2.2.2.2.2++[g.2.2.1]).length+2*g.2.2.2.1 <= 2*L /\ BTo ms (fs.map fun f=>(f.1,f.2.1)) ps vars deep L g.2.2.2.2.2.2.1 g.2.2.2.1 (g.2.2.2.2.2.2.2.2++[g.2.2.1])) ?_ ?_
   ·refine go 4 ?_
    by_cases hk4:z2<4
    ·refine wcp true rfl (by first|exact eU (by omega)|(simp [bC]<;>omega)) (go 8 ?_)
     refine wo rfl (bD [S] rfl rfl (by decide) call82 rfl (rG (_::_::A) _ [_] _ _ S W l i2 ms ps us fn G _ FB _ ar hi2 hl hm1 hm2 hmz hp2 (by omega)) (bDj (by simp)) (bDj (by simp [Sto.bl])) (fun _=>bDj (by simp)) ?_)
     rintro r3 s3 ⟨f3,i3,rfl,hm3,hi3,rfl⟩
     unfold encR
     refine go 4 ?_
     refine ⟨rfl,(b2,_,(.mk 5 aK .zero f3 [] [] []),m,i3,u,us,vo,al),⟨rfl,(.r (.r (.r (.r (.r (.n (.r (.r (.n (.n (.n .nil))))))))))),(by show m <= L;omega),hi3,(by show List.length us+m <= 1000;(try simp only [length_append,length_cons,length_nil]);omega),(by show List.length (al++[(.mk 5 aK .zero f3 [] [] [])])+2*m <= 2*L;(try simp only [length_append,length_cons,length_nil]);omega),BTo.step hto [(.mk 5 aK .zero f3 [] [] [])] (fun _ _ h=>.lock hm3 h)⟩,cA (.refl _) (.refl _) (by grind) (sA rfl)⟩
    refine wcp false rfl (by first|exact eE (by omega)|(simp [bC]<;>omega)) (go 7 ?_)
    by_cases hk7:z2<7
    ·refine wcp true rfl (by first|exact eU (by omega)|(simp [bC]<;>omega)) (go 8 ?_)
     refine wo rfl (bD [S] rfl rfl (by decide) call82 rfl (rG (_::_::A) _ [_] _ _ S W l i2 ms ps us fn G _ FB _ ar hi2 hl hm1 hm2 hmz hp2 (by omega)) (bDj (by simp)) (bDj (by simp [Sto.bl])) (fun _=>bDj (by simp)) ?_)
     rintro r3 s3 ⟨f3,i3,rfl,hm3,hi3,rfl⟩
     unfold encR
     refine go 6 ?_
     refine ⟨rfl,(b2,_,(.mk 6 aK .zero f3 [] [] []),m,i3,u,us,vo,al),⟨rfl,(.r (.r (.r (.r (.r (.n (.r (.r (.n (.n (.n .nil))))))))))),(by show m <= L;omega),hi3,(by show List.length us+m <= 1000;(try simp only [length_append,length_cons,length_nil]);omega),(by show List.length (al++[(.mk 6 aK .zero f3 [] [] [])])+2*m <= 2*L;(try simp only [length_append,length_cons,length_nil]);omega),BTo.step hto [(.mk 6 aK .zero f3 [] [] [])] (fun _ _ h=>.unlock hm3 h)⟩,cA (.refl _) (.refl _) (by grind) (sA rfl)⟩
    refine wcp false rfl (by first|exact eE (by omega)|(simp [bC]<;>omega)) (go 7 ?_)
    by_cases hk7e:z2=7
    ·refine wcp true rfl (by first|exact eU (by omega)|(simp [bC]<;>omega)) (go 5 ?_)
     refine dx [b1,W] (tz [(0,true),(1,true),(3,true),(4,true),(5,true),(6,true)] 21 (go 7 ?_))
     refine tx 7 rfl (aIx (k:=26) (m%26) rfl rfl rfl (by decide) rfl) ?_
     refine tx 8 rfl (dU (m:=97) rfl rfl rfl rfl (by omega)) ?_
     refine tx 9 rfl (aBf rfl rfl (by omega) rfl rfl rfl) (tz [(10,true),(11,true),(12,true),(13,true)] 14 (go 5 ?_))
     refine tx 14 rfl (aOm (k:=26) (m/26) rfl rfl rfl (by decide) (by omega) rfl) ?_
     refine tx 15 rfl (aIx (k:=26) (m/26%26) rfl rfl rfl (by decide) rfl) ?_
     refine tx 16 rfl (dU (m:=97) rfl rfl rfl rfl (by omega)) ?_
     refine tx 17 rfl (aBf rfl rfl (by omega) rfl rfl rfl) (tz [(21,true)] 9 (go 2 ?_))
     refine t2 2 18 rfl ?_ ?_
     ·refine (bD [S] rfl rfl (by decide) call83 rfl (pQ (_::_::A) _ [_] _ _ S W l i2 us G (.sl ms.length (ms.flatMap bT)) _ _ ar hi2 hl (by omega)) (by intro b hb;simp at hb;subst hb;simp) (by intro b hb;simp at hb;subst hb;simp [Sto.bl]) (fun hn b hb=>by simp at hb;subst hb<;>exact jJ hn) ?_)
      rintro r3 s3 ⟨x3,i3,rfl,hm3,hi3,rfl⟩
      unfold cU
      refine t2 18 22 rfl ?_ ?_
      ·refine (bDk zb5 rfl (.cons rfl (.cons rfl .nil)) (r:=iF [UInt8.ofNat (97+m%26),UInt8.ofNat (97+m/26%26)]) rfl ?_)
       refine tx 19 rfl (hX rfl rfl rfl) ?_
       refine tx 20 rfl (uN (m:=m) rfl rfl rfl rfl rfl) (tz [(22,false),(23,true),(24,false),(25,true),(26,false)] 0 (go 6 ?_))
       refine ax (go 5 ?_)
       refine wo rfl (bDk bT4 rfl (.cons rfl .nil) (r:=bP [cM m]) rfl ?_)
       refine wo rfl (bDm [_] bWi rfl rfl (by decide) (by unfold maxLen;omega) (by omega) (@length_append _ us [cM m]).symm (fun _ b hb=>by simp [hb]) (fun b hb=>by simp [hb]) (List.map_append (f:=fun x=>AC.val (.string x))).symm fun v4=>?_)
       refine go 3 ?_
       refine ⟨rfl,(b2,_,(.mk 1 (cM m) x3 .zero [] [] []),m,i3,v4,(us++[cM m]),vo,al),⟨rfl,(.r (.r (.r (.r (.r (.r (.r (.n (.n (.n (.n .nil))))))))))),(by show m <= L;omega),hi3,(by show List.length (us++[cM m])+m <= 1000;(try simp only [length_append,length_cons,length_nil]);omega),(by show List.length (al++[(.mk 1 (cM m) x3 .zero [] [] [])])+2*m <= 2*L;(try simp only [length_append,length_cons,length_nil]);omega),BTo.step hto [(.mk 1 (cM m) x3 .zero [] [] [])] (fun _ _ h=>.var hm3 h)⟩,cA (.refl _) (.refl _) (by grind) (sA rfl)⟩
      refine go 1 ?_
      refine tz [(23,true)] 6 (go 2 ?_)
      refine t2 18 24 rfl ?_ ?_
      ·refine (bDk zb5 rfl (.cons rfl (.cons rfl .nil)) (r:=iF [UInt8.ofNat (97+m%26),UInt8.ofNat (97+m/26%26)]) rfl ?_)
       refine tx 19 rfl (hX rfl rfl rfl) ?_
       refine tx 20 rfl (uN (m:=m) rfl rfl rfl rfl rfl) (tz [(24,false),(25,true),(26,false)] 0 (go 4 ?_))
       refine ax (go 5 ?_)
       refine wo rfl (bDk bT4 rfl (.cons rfl .nil) (r:=bP [cM m]) rfl ?_)
       refine wo rfl (bDm [_] bWi rfl rfl (by decide) (by unfold maxLen;omega) (by omega) (@length_append _ us [cM m]).symm (fun _ b hb=>by simp [hb]) (fun b hb=>by simp [hb]) (List.map_append (f:=fun x=>AC.val (.string x))).symm fun v4=>?_)
       refine go 3 ?_
       refine ⟨rfl,(b2,_,(.mk 1 (cM m) x3 .zero [] [] []),m,i3,v4,(us++[cM m]),vo,al),⟨rfl,(.r (.r (.r (.r (.r (.r (.r (.n (.n (.n (.n .nil))))))))))),(by show m <= L;omega),hi3,(by show List.length (us++[cM m])+m <= 1000;(try simp only [length_append,length_cons,length_nil]);omega),(by show List.length (al++[(.mk 1 (cM m) x3 .zero [] [] [])])+2*m <= 2*L;(try simp only [length_append,length_cons,length_nil]);omega),BTo.step hto [(.mk 1 (cM m) x3 .zero [] [] [])] (fun _ _ h=>.var hm3 h)⟩,cA (.refl _) (.refl _) (by grind) (sA rfl)⟩
      refine go 1 ?_
      refine ox 18 rfl rfl (bDk zb5 rfl (.cons rfl (.cons rfl .nil)) (r:=iF [UInt8.ofNat (97+m%26),UInt8.ofNat (97+m/26%26)]) rfl ?_)
      refine tx 19 rfl (hX rfl rfl rfl) ?_
      refine tx 20 rfl (uN (m:=m) rfl rfl rfl rfl rfl) (tz [(25,true),(26,false)] 0 (go 3 ?_))
      refine ax (go 5 ?_)
      refine wo rfl (bDk bT4 rfl (.cons rfl .nil) (r:=bP [cM m]) rfl ?_)
      refine wo rfl (bDm [_] bWi rfl rfl (by decide) (by unfold maxLen;omega) (by omega) (@length_append _ us [cM m]).symm (fun _ b hb=>by simp [hb]) (fun b hb=>by simp [hb]) (List.map_append (f:=fun x=>AC.val (.string x))).symm fun v4=>?_)
      refine go 3 ?_
      refine ⟨rfl,(b2,_,(.mk 1 (cM m) x3 .zero [] [] []),m,i3,v4,(us++[cM m]),vo,al),⟨rfl,(.r (.r (.r (.r (.r (.r (.r (.n (.n (.n (.n .nil))))))))))),(by show m <= L;omega),hi3,(by show List.length (us++[cM m])+m <= 1000;(try simp only [length_append,length_cons,length_nil]);omega),(by show List.length (al++[(.mk 1 (cM m) x3 .zero [] [] [])])+2*m <= 2*L;(try simp only [length_append,length_cons,length_nil]);omega),BTo.step hto [(.mk 1 (cM m) x3 .zero [] [] [])] (fun _ _ h=>.var hm3 h)⟩,cA (.refl _) (.refl _) (by grind) (sA rfl)⟩
     refine (bDk zb5 rfl (.cons rfl (.cons rfl .nil)) (r:=iF [UInt8.ofNat (97+m%26),UInt8.ofNat (97+m/26%26)]) rfl ?_)
     refine tx 19 rfl (hX rfl rfl rfl) ?_
     refine tx 20 rfl (uN (m:=m) rfl rfl rfl rfl rfl) ?_
     refine ox 2 rfl rfl (bD [S] rfl rfl (by decide) call83 rfl (pQ (_::_::A) _ [_] _ _ S W l i2 us G (.sl ms.length (ms.flatMap bT)) _ _ ar hi2 hl (by omega)) (by intro b hb;simp at hb;subst hb;simp) (by intro b hb;simp at hb;subst hb;simp [Sto.bl]) (fun hn b hb=>by simp at hb;subst hb<;>exact jJ hn) ?_)
     rintro r3 s3 ⟨x3,i3,rfl,hm3,hi3,rfl⟩
     unfold cU
     refine tz [(22,false),(23,true),(24,false),(25,true),(26,false)] 0 (go 6 ?_)
     refine ax (go 5 ?_)
     refine wo rfl (bDk bT4 rfl (.cons rfl .nil) (r:=bP [cM m]) rfl ?_)
     refine wo rfl (bDm [_] bWi rfl rfl (by decide) (by unfold maxLen;omega) (by omega) (@length_append _ us [cM m]).symm (fun _ b hb=>by simp [hb]) (fun b hb=>by simp [hb]) (List.map_append (f:=fun x=>AC.val (.string x))).symm fun v4=>?_)
     refine go 3 ?_
     refine ⟨rfl,(b2,_,(.mk 1 (cM m) x3 .zero [] [] []),m,i3,v4,(us++[cM m]),vo,al),⟨rfl,(.r (.r (.r (.r (.r (.r (.r (.n (.n (.n (.n .nil))))))))))),(by show m <= L;omega),hi3,(by show List.length (us++[cM m])+m <= 1000;(try simp only [length_append,length_cons,length_nil]);omega),(by show List.length (al++[(.mk 1 (cM m) x3 .zero [] [] [])])+2*m <= 2*L;(try simp only [length_append,length_cons,length_nil]);omega),BTo.step hto [(.mk 1 (cM m) x3 .zero [] [] [])] (fun _ _ h=>.var hm3 h)⟩,cA (.refl _) (.refl _) (by grind) (sA rfl)⟩
    refine wcp false rfl (by first|exact eE (by omega)|(simp [bC]<;>omega)) (go 7 ?_)
    by_cases hk8:z2=8
    ·refine wcp true rfl (by first|exact eU (by omega)|(simp [bC]<;>omega)) (go 2 ?_)
     refine wyz rfl (kV [_] rfl rfl rfl runUnderlying50) ?_
     by_cases hus:0<us.length
     ·refine wcp true rfl (by first|exact eU (by omega)|(simp [bC]<;>omega)) (go 5 ?_)
      refine aEw [_] hus fun gu cu hgu=>?_
      subst hgu
      refine dx [b1,W] (tz [(0,true),(1,true),(2,true),(3,true),(4,true),(5,true),(6,true),(10,true),(11,true),(13,true)] 9 (go 11 ?_))
      refine ox 7 rfl rfl (bD [S] rfl rfl (by decide) call45 rfl (eC (_::_::A) _ _ _ l i2 _ hi2 hl (by omega) (by omega)) (by intro b hb;simp at hb;subst hb;simp) (by intro b hb;simp at hb;subst hb;simp [Sto.bl]) (fun hn b hb=>by simp at hb;subst hb<;>exact jJ hn) ?_)
      rintro r3 s3 ⟨z3,i3,rfl,hy3,hi3,rfl⟩
      refine tx 8 rfl (dH z3 rfl rfl rfl rfl (by omega) runUnderlying50 sizeOf9) ?_
      refine t2 9 12 rfl ?_ ?_
      ·refine way rfl (by decide) (dT (g:=gu) (k:=us.length) (cap:=cu) (E0:=9) (zz:=1) (cs:=bP us) rfl rfl (by simp) isAgg9 sizeOf9 (rB us z3 (by omega)) (fun _ h=>by cases h)) ?_
       refine ox 12 rfl rfl (bD [S] rfl rfl (by decide) call83 rfl (pQ (_::_::A) _ [_] _ _ S W l i3 us G (.sl ms.length (ms.flatMap bT)) _ _ ar hi3 hl (by omega)) (by intro b hb;simp at hb;subst hb;simp) (by intro b hb;simp at hb;subst hb;simp [Sto.bl]) (fun hn b hb=>by simp at hb;subst hb<;>exact jJ hn) ?_)
       rintro r4 s4 ⟨x4,i4,rfl,hm4,hi4,rfl⟩
       unfold cU
       refine tz [(14,false),(15,true),(16,false),(17,true),(18,false)] 0 (go 6 ?_)
       refine ax (go 1 ?_)
       refine ⟨rfl,(b2,_,(.mk 2 us[z3] x4 .zero [] [] []),m,i4,(.slice (some ⟨gu,0,none⟩) us.length cu),us,vo,al),⟨rfl,(.r (.r (.r (.r (.r (.r (.r (.n (.n (.n (.n .nil))))))))))),(by show m <= L;omega),hi4,(by show List.length us+m <= 1000;(try simp only [length_append,length_cons,length_nil]);omega),(by show List.length (al++[(.mk 2 us[z3] x4 .zero [] [] [])])+2*m <= 2*L;(try simp only [length_append,length_cons,length_nil]);omega),BTo.step hto [(.mk 2 us[z3] x4 .zero [] [] [])] (fun _ _ h=>.assign (getElem_mem (by omega)) hm4 h)⟩,cA (.refl _) (.refl _) (by grind) (sA rfl)⟩
      refine (bD [S] rfl rfl (by decide) call83 rfl (pQ (_::_::A) _ [_] _ _ S W l i3 us G (.sl ms.length (ms.flatMap bT)) _ _ ar hi3 hl (by omega)) (by intro b hb;simp at hb;subst hb;simp) (by intro b hb;simp at hb;subst hb;simp [Sto.bl]) (fun hn b hb=>by simp at hb;subst hb<;>exact jJ hn) ?_)
      rintro r4 s4 ⟨x4,i4,rfl,hm4,hi4,rfl⟩
      unfold cU
      refine t2 9 14 rfl ?_ ?_
      ·refine way rfl (by decide) (dT (g:=gu) (k:=us.length) (cap:=cu) (E0:=9) (zz:=1) (cs:=bP us) rfl rfl (by simp) isAgg9 sizeOf9 (rB us z3 (by omega)) (fun _ h=>by cases h)) ?_
       refine tz [(14,false),(15,true),(16,false),(17,true),(18,false)] 0 (go 6 ?_)
       refine ax (go 1 ?_)
       refine ⟨rfl,(b2,_,(.mk 2 us[z3] x4 .zero [] [] []),m,i4,(.slice (some ⟨gu,0,none⟩) us.length cu),us,vo,al),⟨rfl,(.r (.r (.r (.r (.r (.r (.r (.n (.n (.n (.n .nil))))))))))),(by show m <= L;omega),hi4,(by show List.length us+m <= 1000;(try simp only [length_append,length_cons,length_nil]);omega),(by show List.length (al++[(.mk 2 us[z3] x4 .zero [] [] [])])+2*m <= 2*L;(try simp only [length_append,length_cons,length_nil]);omega),BTo.step hto [(.mk 2 us[z3] x4 .zero [] [] [])] (fun _ _ h=>.assign (getElem_mem (by omega)) hm4 h)⟩,cA (.refl _) (.refl _) (by grind) (sA rfl)⟩
      refine go 1 ?_
      refine ox 9 rfl rfl (way rfl (by decide) (dT (g:=gu) (k:=us.length) (cap:=cu) (E0:=9) (zz:=1) (cs:=bP us) rfl rfl (by simp) isAgg9 sizeOf9 (rB us z3 (by omega)) (fun _ h=>by cases h)) ?_)
      refine tz [(15,true),(16,false),(17,true),(18,false)] 0 (go 5 ?_)
      refine ax (go 1 ?_)
      refine ⟨rfl,(b2,_,(.mk 2 us[z3] x4 .zero [] [] []),m,i4,(.slice (some ⟨gu,0,none⟩) us.length cu),us,vo,al),⟨rfl,(.r (.r (.r (.r (.r (.r (.r (.n (.n (.n (.n .nil))))))))))),(by show m <= L;omega),hi4,(by show List.length us+m <= 1000;(try simp only [length_append,length_cons,length_nil]);omega),(by show List.length (al++[(.mk 2 us[z3] x4 .zero [] [] [])])+2*m <= 2*L;(try simp only [length_append,length_cons,length_nil]);omega),BTo.step hto [(.mk 2 us[z3] x4 .zero [] [] [])] (fun _ _ h=>.assign (getElem_mem (by omega)) hm4 h)⟩,cA (.refl _) (.refl _) (by grind) (sA rfl)⟩
     refine wcp false rfl (by first|exact eE (by omega)|(simp [bC]<;>omega)) (go 8 ?_)
     refine wcp false rfl (by first|exact eE (by omega)|(simp [bC]<;>omega)) (go 2 ?_)
     refine wcp false rfl (by first|exact eE (by omega)|(simp [bC]<;>omega)) (go 8 ?_)
     refine wcp false rfl (by first|exact eE (by omega)|(simp [bC]<;>omega)) (go 11 ?_)
     refine wcp false rfl (by first|exact eE (by omega)|(simp [bC]<;>omega)) (go 11 ?_)
     refine wcp false rfl (by first|exact eE (by omega)|(simp [bC]<;>omega)) (go 17 ?_)
     refine wo rfl (bD [S] rfl rfl (by decide) call82 rfl (rG (_::_::A) _ [_] _ _ S W l i2 ms ps us fn G _ FB _ ar hi2 hl hm1 hm2 hmz hp2 (by omega)) (bDj (by simp)) (bDj (by simp [Sto.bl])) (fun _=>bDj (by simp)) ?_)
     rintro r3 s3 ⟨f3,i3,rfl,hm3,hi3,rfl⟩
     unfold encR
     refine go 17 fun b3=>?_
     refine eA 60 rfl (Wk.agg (.r (.r (.r (.r (.r (.n (.r (.r (.n (.n (.n .nil)))))))))))) ?_
     refine wo rfl (bDk bDu rfl (.cons rfl .nil) (aV encS dG (.mk 5 aK .zero f3 [] [] []) (cJ _) rfl rfl) ?_)
     refine wo rfl (jU [] Tryz.t78 192 rfl rfl (by decide) rfl rfl underlying56 (by kernel_rfl) rfl rfl rfl rfl (by decide) rfl (by unfold maxLen;first|omega|(simp only [length_append,length_cons,length_nil];omega)) (by first|omega|(simp only [length_append,length_cons,length_nil];omega)) (@length_append _ al [(.mk 5 aK .zero f3 [] [] [])]).symm (fun _ b hb=>by simp [hb]) (fun b hb=>by simp [hb]) (List.flatMap_append (f:=encS)).symm fun v4=>?_)
     refine go 9 ?_
     refine wo rfl (bD [S,W] rfl rfl (by decide) call46 rfl (ih m (by omega) (_::_::_::A) [_] _ _ us i3 0 2 hi3 (by omega) (by omega) (by omega) (by simp [hF])) (by intro b hb;simp at hb⊢;rcases hb with rfl|rfl<;>simp) (by intro b hb;simp at hb;rcases hb with rfl|rfl<;>simp [Sto.bl]) (by intro _ b hb;simp at hb⊢;rcases hb with rfl|rfl<;>simp) ?_)
     rintro r5 s5 ⟨b5l,i5,l5,rfl,hm5,hi5,rfl⟩
     have hle5:=hm5.le
     have hln5:=hm5.len2
     refine wo rfl (jU [] Tryz.t78 192 rfl rfl (by decide) rfl rfl underlying56 (by kernel_rfl) rfl rfl rfl rfl (by decide) (oY _) (by unfold maxLen;first|omega|(simp only [length_append,length_cons,length_nil];omega)) (by first|omega|(simp only [length_append,length_cons,length_nil];omega)) (@length_append _ (al++[(.mk 5 aK .zero f3 [] [] [])]) b5l).symm (fun _ b hb=>by simp [hb]) (fun b hb=>by simp [hb]) (List.flatMap_append (f:=encS)).symm fun v6=>?_)
     refine go 8 ?_
     refine ⟨rfl,(b2,_,(.mk 6 aK .zero f3 [] [] []),l5,i5,u,us,v6,(al++[(.mk 5 aK .zero f3 [] [] [])]++b5l)),⟨rfl,(.r (.r (.r (.r (.r (.n (.r (.r (.n (.n (.n .nil))))))))))),(by show l5 <= L;omega),hi5,(by show List.length us+l5 <= 1000;(try simp only [length_append,length_cons,length_nil]);omega),(by show List.length ((al++[(.mk 5 aK .zero f3 [] [] [])]++b5l)++[(.mk 6 aK .zero f3 [] [] [])])+2*l5 <= 2*L;(try simp only [length_append,length_cons,length_nil]);omega),(by have h:=BTo.step hto ((.mk 5 aK .zero f3 [] [] [])::(b5l++[(.mk 6 aK .zero f3 [] [] [])])) (fun _ _ h=>by rw [List.cons_append,append_assoc];exact .pair hm3 hm5 h);simpa using h)⟩,cA (.cons _ (.refl _)) (.refl _) (by grind) (sA rfl)⟩
    refine wcp false rfl (by first|exact eE (by omega)|(simp [bC]<;>omega)) (go 12 ?_)
    by_cases hk9:z2=9
    ·refine wcp true rfl (by first|exact eU (by omega)|(simp [bC]<;>omega)) (go 18 ?_)
     refine wcp false rfl (eE (by omega)) (go 6 ?_)
     refine dx [b2,b1,W] (tz [(0,true),(1,true),(2,true),(3,true),(4,true),(5,true),(6,true),(7,true),(8,true),(9,true),(10,true),(11,true),(12,true),(13,true),(14,true)] 5 (go 16 ?_))
     refine t2 15 18 rfl ?_ ?_
     ·refine (bD [S] rfl rfl (by decide) call45 rfl (eC (_::_::A) _ _ _ l i2 _ hi2 hl (by omega) (by omega)) (by intro b hb;simp at hb;subst hb;simp) (by intro b hb;simp at hb;subst hb;simp [Sto.bl]) (fun hn b hb=>by simp at hb;subst hb<;>exact jJ hn) ?_)
      rintro r3 s3 ⟨z3,i3,rfl,hy3,hi3,rfl⟩
      refine tx 16 rfl (dH z3 rfl rfl rfl rfl (by omega) runUnderlying28 sizeOf58) ?_
      refine t2 17 18 rfl ?_ ?_
      ·refine way rfl (by decide) (dT (g:=gF) (k:=fs.length) (cap:=capF) (E0:=58) (zz:=3) (cs:=fs.flatMap cQ) rfl rfl (by simp [hF]) isAgg58 sizeOf58 (nG fs z3 (by omega)) (fun _ h=>by cases h)) ?_
       refine tz [(18,false),(19,false)] 0 (go 3 fun b4=>?_)
       refine ax (go 1 ?_)
       refine dx [b4,b1,W] (tz [(0,true),(1,true),(2,true),(3,true),(4,true),(5,true),(7,true)] 4 (go 8 ?_))
       refine ox 6 rfl rfl (bD [S] rfl rfl (by decide) call84 rfl (sS (_::_::_::A) _ [_] _ _ S W l i3 ms ps us fn G _ FB _ ar fs[z3].1 fs[z3].2.1 fs[z3].2.2 hi3 hl hm1 hm2 hmz hp2 (by omega) (hfp _ (getElem_mem (by omega)))) (by intro b hb;simp at hb;subst hb;simp) (by intro b hb;simp at hb;subst hb;simp [Sto.bl]) (fun hn b hb=>by simp at hb;subst hb<;>exact jJ hn) ?_)
       rintro r4 s4 ⟨a4,i4,rfl,hm4,hi4,rfl⟩
       refine tz [(8,false),(9,true),(10,false)] 0 (go 4 ?_)
       refine ax (go 1 ?_)
       refine ⟨rfl,(b2,_,(.mk 3 fs[z3].1 .zero .zero a4 [] []),m,i4,u,us,vo,al),⟨rfl,(.r (.r (.r (.r (.r (.n (.r (.n (.r (.n (.n .nil))))))))))),(by show m <= L;omega),hi4,(by show List.length us+m <= 1000;(try simp only [length_append,length_cons,length_nil]);omega),(by show List.length (al++[(.mk 3 fs[z3].1 .zero .zero a4 [] [])])+2*m <= 2*L;(try simp only [length_append,length_cons,length_nil]);omega),BTo.step hto [(.mk 3 fs[z3].1 .zero .zero a4 [] [])] (fun _ _ h=>.call (g:=(fs[z3].1,fs[z3].2.1)) (.inl rfl) (List.mem_map.2 ⟨_,getElem_mem (by omega),rfl⟩) hm4 h)⟩,cA (.cons _ (.refl _)) (.refl _) (by grind) (sA rfl)⟩
      refine (jK rfl rfl (by decide) zeroValue58 rfl fun b5=>?_)
      refine ox 17 rfl rfl (way rfl (by decide) (dT (g:=gF) (k:=fs.length) (cap:=capF) (E0:=58) (zz:=3) (cs:=fs.flatMap cQ) rfl rfl (by simp [hF]) isAgg58 sizeOf58 (nG fs z3 (by omega)) (fun _ h=>by cases h)) ?_)
      refine tz [(19,false)] 0 (go 2 ?_)
      refine ax (go 1 ?_)
      refine dx [b5,b1,W] (tz [(0,true),(1,true),(2,true),(3,true),(4,true),(5,true),(7,true)] 4 (go 8 ?_))
      refine ox 6 rfl rfl (bD [S] rfl rfl (by decide) call84 rfl (sS (_::_::_::A) _ [_] _ _ S W l i3 ms ps us fn G _ FB _ ar fs[z3].1 fs[z3].2.1 fs[z3].2.2 hi3 hl hm1 hm2 hmz hp2 (by omega) (hfp _ (getElem_mem (by omega)))) (by intro b hb;simp at hb;subst hb;simp) (by intro b hb;simp at hb;subst hb;simp [Sto.bl]) (fun hn b hb=>by simp at hb;subst hb<;>exact jJ hn) ?_)
      rintro r4 s4 ⟨a4,i4,rfl,hm4,hi4,rfl⟩
      refine tz [(8,false),(9,true),(10,false)] 0 (go 4 ?_)
      refine ax (go 1 ?_)
      refine ⟨rfl,(b2,_,(.mk 3 fs[z3].1 .zero .zero a4 [] []),m,i4,u,us,vo,al),⟨rfl,(.r (.r (.r (.r (.r (.n (.r (.n (.r (.n (.n .nil))))))))))),(by show m <= L;omega),hi4,(by show List.length us+m <= 1000;(try simp only [length_append,length_cons,length_nil]);omega),(by show List.length (al++[(.mk 3 fs[z3].1 .zero .zero a4 [] [])])+2*m <= 2*L;(try simp only [length_append,length_cons,length_nil]);omega),BTo.step hto [(.mk 3 fs[z3].1 .zero .zero a4 [] [])] (fun _ _ h=>.call (g:=(fs[z3].1,fs[z3].2.1)) (.inl rfl) (List.mem_map.2 ⟨_,getElem_mem (by omega),rfl⟩) hm4 h)⟩,cA (.cons _ (.refl _)) (.refl _) (by grind) (sA rfl)⟩
     refine (jK rfl rfl (by decide) zeroValue58 rfl fun b6=>?_)
     refine ox 15 rfl rfl (bD [S] rfl rfl (by decide) call45 rfl (eC (_::_::_::A) _ _ _ l i2 _ hi2 hl (by omega) (by omega)) (by intro b hb;simp at hb;subst hb;simp) (by intro b hb;simp at hb;subst hb;simp [Sto.bl]) (fun hn b hb=>by simp at hb;subst hb<;>exact jJ hn) ?_)
     rintro r3 s3 ⟨z3,i3,rfl,hy3,hi3,rfl⟩
     refine tx 16 rfl (dH z3 rfl rfl rfl rfl (by omega) runUnderlying28 sizeOf58) ?_
     refine ox 17 rfl rfl (way rfl (by decide) (dT (g:=gF) (k:=fs.length) (cap:=capF) (E0:=58) (zz:=3) (cs:=fs.flatMap cQ) rfl rfl (by simp [hF]) isAgg58 sizeOf58 (nG fs z3 (by omega)) (fun _ h=>by cases h)) ?_)
     refine tz [(19,false)] 0 (go 2 ?_)
     refine ax (go 1 ?_)
     refine dx [b6,b1,W] (tz [(0,true),(1,true),(2,true),(3,true),(4,true),(5,true),(7,true)] 4 (go 8 ?_))
     refine ox 6 rfl rfl (bD [S] rfl rfl (by decide) call84 rfl (sS (_::_::_::A) _ [_] _ _ S W l i3 ms ps us fn G _ FB _ ar fs[z3].1 fs[z3].2.1 fs[z3].2.2 hi3 hl hm1 hm2 hmz hp2 (by omega) (hfp _ (getElem_mem (by omega)))) (by intro b hb;simp at hb;subst hb;simp) (by intro b hb;simp at hb;subst hb;simp [Sto.bl]) (fun hn b hb=>by simp at hb;subst hb<;>exact jJ hn) ?_)
     rintro r4 s4 ⟨a4,i4,rfl,hm4,hi4,rfl⟩
     refine tz [(8,false),(9,true),(10,false)] 0 (go 4 ?_)
     refine ax (go 1 ?_)
     refine ⟨rfl,(b2,_,(.mk 3 fs[z3].1 .zero .zero a4 [] []),m,i4,u,us,vo,al),⟨rfl,(.r (.r (.r (.r (.r (.n (.r (.n (.r (.n (.n .nil))))))))))),(by show m <= L;omega),hi4,(by show List.length us+m <= 1000;(try simp only [length_append,length_cons,length_nil]);omega),(by show List.length (al++[(.mk 3 fs[z3].1 .zero .zero a4 [] [])])+2*m <= 2*L;(try simp only [length_append,length_cons,length_nil]);omega),BTo.step hto [(.mk 3 fs[z3].1 .zero .zero a4 [] [])] (fun _ _ h=>.call (g:=(fs[z3].1,fs[z3].2.1)) (.inl rfl) (List.mem_map.2 ⟨_,getElem_mem (by omega),rfl⟩) hm4 h)⟩,cA (.cons _ (.refl _)) (.refl _) (by grind) (sA rfl)⟩
    refine wcp false rfl (by first|exact eE (by omega)|(simp [bC]<;>omega)) (go 2 ?_)
    by_cases hk10:z2=10
    ·refine wcp true rfl (by first|exact eU (by omega)|(simp [bC]<;>omega)) (go 15 ?_)
     refine wcp true rfl (eU (by omega)) (go 9 ?_)
     refine dx [b2,b1,W] (tz [(0,true),(1,true),(2,true),(3,true),(4,true),(5,true),(6,true),(7,true),(8,true),(9,true),(10,true),(11,true),(12,true),(13,true),(14,true)] 5 (go 16 ?_))
     refine t2 15 18 rfl ?_ ?_
     ·refine (bD [S] rfl rfl (by decide) call45 rfl (eC (_::_::A) _ _ _ l i2 _ hi2 hl (by omega) (by omega)) (by intro b hb;simp at hb;subst hb;simp) (by intro b hb;simp at hb;subst hb;simp [Sto.bl]) (fun hn b hb=>by simp at hb;subst hb<;>exact jJ hn) ?_)
      rintro r3 s3 ⟨z3,i3,rfl,hy3,hi3,rfl⟩
      refine tx 16 rfl (dH z3 rfl rfl rfl rfl (by omega) runUnderlying28 sizeOf58) ?_
      refine t2 17 18 rfl ?_ ?_
      ·refine way rfl (by decide) (dT (g:=gF) (k:=fs.length) (cap:=capF) (E0:=58) (zz:=3) (cs:=fs.flatMap cQ) rfl rfl (by simp [hF]) isAgg58 sizeOf58 (nG fs z3 (by omega)) (fun _ h=>by cases h)) ?_
       refine tz [(18,false),(19,false)] 0 (go 3 fun b7=>?_)
       refine ax (go 1 ?_)
       refine dx [b7,b1,W] (tz [(0,true),(1,true),(2,true),(3,true),(4,true),(5,true),(7,true)] 4 (go 8 ?_))
       refine ox 6 rfl rfl (bD [S] rfl rfl (by decide) call84 rfl (sS (_::_::_::A) _ [_] _ _ S W l i3 ms ps us fn G _ FB _ ar fs[z3].1 fs[z3].2.1 fs[z3].2.2 hi3 hl hm1 hm2 hmz hp2 (by omega) (hfp _ (getElem_mem (by omega)))) (by intro b hb;simp at hb;subst hb;simp) (by intro b hb;simp at hb;subst hb;simp [Sto.bl]) (fun hn b hb=>by simp at hb;subst hb<;>exact jJ hn) ?_)
       rintro r4 s4 ⟨a4,i4,rfl,hm4,hi4,rfl⟩
       refine tz [(8,false),(9,true),(10,false)] 0 (go 4 ?_)
       refine ax (go 1 ?_)
       refine ⟨rfl,(b2,_,(.mk 4 fs[z3].1 .zero .zero a4 [] []),m,i4,u,us,vo,al),⟨rfl,(.r (.r (.r (.r (.r (.n (.r (.n (.r (.n (.n .nil))))))))))),(by show m <= L;omega),hi4,(by show List.length us+m <= 1000;(try simp only [length_append,length_cons,length_nil]);omega),(by show List.length (al++[(.mk 4 fs[z3].1 .zero .zero a4 [] [])])+2*m <= 2*L;(try simp only [length_append,length_cons,length_nil]);omega),BTo.step hto [(.mk 4 fs[z3].1 .zero .zero a4 [] [])] (fun _ _ h=>.call (g:=(fs[z3].1,fs[z3].2.1)) (.inr rfl) (List.mem_map.2 ⟨_,getElem_mem (by omega),rfl⟩) hm4 h)⟩,cA (.cons _ (.refl _)) (.refl _) (by grind) (sA rfl)⟩
      refine (jK rfl rfl (by decide) zeroValue58 rfl fun b8=>?_)
      refine ox 17 rfl rfl (way rfl (by decide) (dT (g:=gF) (k:=fs.length) (cap:=capF) (E0:=58) (zz:=3) (cs:=fs.flatMap cQ) rfl rfl (by simp [hF]) isAgg58 sizeOf58 (nG fs z3 (by omega)) (fun _ h=>by cases h)) ?_)
      refine tz [(19,false)] 0 (go 2 ?_)
      refine ax (go 1 ?_)
      refine dx [b8,b1,W] (tz [(0,true),(1,true),(2,true),(3,true),(4,true),(5,true),(7,true)] 4 (go 8 ?_))
      refine ox 6 rfl rfl (bD [S] rfl rfl (by decide) call84 rfl (sS (_::_::_::A) _ [_] _ _ S W l i3 ms ps us fn G _ FB _ ar fs[z3].1 fs[z3].2.1 fs[z3].2.2 hi3 hl hm1 hm2 hmz hp2 (by omega) (hfp _ (getElem_mem (by omega)))) (by intro b hb;simp at hb;subst hb;simp) (by intro b hb;simp at hb;subst hb;simp [Sto.bl]) (fun hn b hb=>by simp at hb;subst hb<;>exact jJ hn) ?_)
      rintro r4 s4 ⟨a4,i4,rfl,hm4,hi4,rfl⟩
      refine tz [(8,false),(9,true),(10,false)] 0 (go 4 ?_)
      refine ax (go 1 ?_)
      refine ⟨rfl,(b2,_,(.mk 4 fs[z3].1 .zero .zero a4 [] []),m,i4,u,us,vo,al),⟨rfl,(.r (.r (.r (.r (.r (.n (.r (.n (.r (.n (.n .nil))))))))))),(by show m <= L;omega),hi4,(by show List.length us+m <= 1000;(try simp only [length_append,length_cons,length_nil]);omega),(by show List.length (al++[(.mk 4 fs[z3].1 .zero .zero a4 [] [])])+2*m <= 2*L;(try simp only [length_append,length_cons,length_nil]);omega),BTo.step hto [(.mk 4 fs[z3].1 .zero .zero a4 [] [])] (fun _ _ h=>.call (g:=(fs[z3].1,fs[z3].2.1)) (.inr rfl) (List.mem_map.2 ⟨_,getElem_mem (by omega),rfl⟩) hm4 h)⟩,cA (.cons _ (.refl _)) (.refl _) (by grind) (sA rfl)⟩
     refine (jK rfl rfl (by decide) zeroValue58 rfl fun b9=>?_)
     refine ox 15 rfl rfl (bD [S] rfl rfl (by decide) call45 rfl (eC (_::_::_::A) _ _ _ l i2 _ hi2 hl (by omega) (by omega)) (by intro b hb;simp at hb;subst hb;simp) (by intro b hb;simp at hb;subst hb;simp [Sto.bl]) (fun hn b hb=>by simp at hb;subst hb<;>exact jJ hn) ?_)
     rintro r3 s3 ⟨z3,i3,rfl,hy3,hi3,rfl⟩
     refine tx 16 rfl (dH z3 rfl rfl rfl rfl (by omega) runUnderlying28 sizeOf58) ?_
     refine ox 17 rfl rfl (way rfl (by decide) (dT (g:=gF) (k:=fs.length) (cap:=capF) (E0:=58) (zz:=3) (cs:=fs.flatMap cQ) rfl rfl (by simp [hF]) isAgg58 sizeOf58 (nG fs z3 (by omega)) (fun _ h=>by cases h)) ?_)
     refine tz [(19,false)] 0 (go 2 ?_)
     refine ax (go 1 ?_)
     refine dx [b9,b1,W] (tz [(0,true),(1,true),(2,true),(3,true),(4,true),(5,true),(7,true)] 4 (go 8 ?_))
     refine ox 6 rfl rfl (bD [S] rfl rfl (by decide) call84 rfl (sS (_::_::_::A) _ [_] _ _ S W l i3 ms ps us fn G _ FB _ ar fs[z3].1 fs[z3].2.1 fs[z3].2.2 hi3 hl hm1 hm2 hmz hp2 (by omega) (hfp _ (getElem_mem (by omega)))) (by intro b hb;simp at hb;subst hb;simp) (by intro b hb;simp at hb;subst hb;simp [Sto.bl]) (fun hn b hb=>by simp at hb;subst hb<;>exact jJ hn) ?_)
     rintro r4 s4 ⟨a4,i4,rfl,hm4,hi4,rfl⟩
     refine tz [(8,false),(9,true),(10,false)] 0 (go 4 ?_)
     refine ax (go 1 ?_)
     refine ⟨rfl,(b2,_,(.mk 4 fs[z3].1 .zero .zero a4 [] []),m,i4,u,us,vo,al),⟨rfl,(.r (.r (.r (.r (.r (.n (.r (.n (.r (.n (.n .nil))))))))))),(by show m <= L;omega),hi4,(by show List.length us+m <= 1000;(try simp only [length_append,length_cons,length_nil]);omega),(by show List.length (al++[(.mk 4 fs[z3].1 .zero .zero a4 [] [])])+2*m <= 2*L;(try simp only [length_append,length_cons,length_nil]);omega),BTo.step hto [(.mk 4 fs[z3].1 .zero .zero a4 [] [])] (fun _ _ h=>.call (g:=(fs[z3].1,fs[z3].2.1)) (.inr rfl) (List.mem_map.2 ⟨_,getElem_mem (by omega),rfl⟩) hm4 h)⟩,cA (.cons _ (.refl _)) (.refl _) (by grind) (sA rfl)⟩
    refine wcp false rfl (by first|exact eE (by omega)|(simp [bC]<;>omega)) (go 8 ?_)
    by_cases hk11:z2=11
    ·refine wcp true rfl (by first|exact eU (by omega)|(simp [bC]<;>omega)) (go 2 ?_)
     by_cases hd0:0<deep
     ·refine wcp true rfl (by first|exact eU (by omega)|(simp [bC]<;>omega)) (go 6 ?_)
      refine dx [b1] (tz [(0,true),(1,true),(3,true),(4,true),(5,true),(6,true)] 9 (go 7 ?_))
      refine tx 7 rfl (cI ((deep-1:Nat):Int) rfl rfl rfl (by omega) (by omega) (by omega)) (tz [(9,true)] 7 (go 2 ?_))
      refine ox 2 rfl rfl (bD [S] rfl rfl (by decide) call83 rfl (pQ (_::_::A) _ [_] _ _ S W l i2 us G (.sl ms.length (ms.flatMap bT)) _ _ ar hi2 hl (by omega)) (by intro b hb;simp at hb;subst hb;simp) (by intro b hb;simp at hb;subst hb;simp [Sto.bl]) (fun hn b hb=>by simp at hb;subst hb<;>exact jJ hn) ?_)
      rintro r3 s3 ⟨x3,i3,rfl,hm3,hi3,rfl⟩
      unfold cU
      refine ox 8 rfl rfl (bD [S,W] rfl rfl (by decide) call46 rfl (ih m (by omega) (_::_::A) [_] _ _ us i3 (deep-1) 3 hi3 (by omega) (by omega) (by omega) (by simp [hF])) (by intro b hb;simp at hb⊢;rcases hb with rfl|rfl<;>simp) (by intro b hb;simp at hb;rcases hb with rfl|rfl<;>simp [Sto.bl]) (fun hn b hb=>by simp at hb;rcases hb with rfl|rfl<;>exact jJ hn) ?_)
      rintro r4 s4 ⟨b4l,i4,l4,rfl,hm4,hi4,rfl⟩
      have hle4:=hm4.le
      have hln4:=hm4.len2
      refine tz [(10,false),(11,true),(12,false),(13,true),(14,false)] 0 (go 6 ?_)
      refine ax (go 7 ?_)
      refine wo rfl (bD [S] rfl rfl (by decide) call45 rfl (eC (_::_::A) _ _ _ l i4 _ hi4 hl (by decide) (by decide)) (bDj (by simp)) (bDj (by simp [Sto.bl])) (fun _=>bDj (by simp)) ?_)
      rintro r5 s5 ⟨z5,i5,rfl,hy5,hi5,rfl⟩
      by_cases hel:z5=1
      ·refine wcp true rfl (by first|exact eU (by omega)|(simp [bC]<;>omega)) (go 8 ?_)
       refine wyz rfl (cI ((deep-1:Nat):Int) rfl rfl rfl (by omega) (by omega) (by omega)) ?_
       refine wo rfl (bD [S,W] rfl rfl (by decide) call46 rfl (ih l4 (by omega) (_::_::A) [_] _ _ us i5 (deep-1) 3 hi5 (by omega) (by omega) (by omega) (by simp [hF])) (by intro b hb;simp at hb⊢;rcases hb with rfl|rfl<;>simp) (by intro b hb;simp at hb;rcases hb with rfl|rfl<;>simp [Sto.bl]) (by intro _ b hb;simp at hb⊢;rcases hb with rfl|rfl<;>simp) ?_)
       rintro r6 s6 ⟨b6l,i6,l6,rfl,hm6,hi6,rfl⟩
       have hle6:=hm6.le
       have hln6:=hm6.len2
       refine go 4 ?_
       refine ⟨rfl,(b2,_,(.mk 7 aK x3 .zero [] b4l b6l),l6,i6,u,us,vo,al),⟨rfl,(.r (.r (.r (.r (.r (.r (.r (.n (.n (.r (.r .nil))))))))))),(by show l6 <= L;omega),hi6,(by show List.length us+l6 <= 1000;(try simp only [length_append,length_cons,length_nil]);omega),(by show List.length (al++[(.mk 7 aK x3 .zero [] b4l b6l)])+2*l6 <= 2*L;(try simp only [length_append,length_cons,length_nil]);omega),BTo.step hto [(.mk 7 aK x3 .zero [] b4l b6l)] (fun _ _ h=>by obtain ⟨d,rfl⟩:∃d,deep=d+1:=⟨deep-1,by omega⟩;exact .cond hm3 hm4 hm6 h)⟩,cA (.refl _) (.refl _) (by grind) (sA rfl)⟩
      refine wcp false rfl (by first|exact eE (by omega)|(simp [bC]<;>omega)) (go 5 ?_)
      refine ⟨rfl,(b2,_,(.mk 7 aK x3 .zero [] b4l []),l4,i5,u,us,vo,al),⟨rfl,(.r (.r (.r (.r (.r (.r (.r (.n (.n (.r (.n .nil))))))))))),(by show l4 <= L;omega),hi5,(by show List.length us+l4 <= 1000;(try simp only [length_append,length_cons,length_nil]);omega),(by show List.length (al++[(.mk 7 aK x3 .zero [] b4l [])])+2*l4 <= 2*L;(try simp only [length_append,length_cons,length_nil]);omega),BTo.step hto [(.mk 7 aK x3 .zero [] b4l [])] (fun _ _ h=>by obtain ⟨d,rfl⟩:∃d,deep=d+1:=⟨deep-1,by omega⟩;exact .cond hm3 hm4 .nil h)⟩,cA (.refl _) (.refl _) (by grind) (sA rfl)⟩
     refine wcp false rfl (by first|exact eE (by omega)|(simp [bC]<;>omega)) (go 8 ?_)
     refine wcp false rfl (by first|exact eE (by omega)|(simp [bC]<;>omega)) (go 11 ?_)
     refine wcp false rfl (by first|exact eE (by omega)|(simp [bC]<;>omega)) (go 17 ?_)
     refine wo rfl (bD [S] rfl rfl (by decide) call82 rfl (rG (_::_::A) _ [_] _ _ S W l i2 ms ps us fn G _ FB _ ar hi2 hl hm1 hm2 hmz hp2 (by omega)) (bDj (by simp)) (bDj (by simp [Sto.bl])) (fun _=>bDj (by simp)) ?_)
     rintro r3 s3 ⟨f3,i3,rfl,hm3,hi3,rfl⟩
     unfold encR
     refine go 17 fun b10=>?_
     refine eA 60 rfl (Wk.agg (.r (.r (.r (.r (.r (.n (.r (.r (.n (.n (.n .nil)))))))))))) ?_
     refine wo rfl (bDk bDu rfl (.cons rfl .nil) (aV encS dG (.mk 5 aK .zero f3 [] [] []) (cJ _) rfl rfl) ?_)
     refine wo rfl (jU [] Tryz.t78 192 rfl rfl (by decide) rfl rfl underlying56 (by kernel_rfl) rfl rfl rfl rfl (by decide) rfl (by unfold maxLen;first|omega|(simp only [length_append,length_cons,length_nil];omega)) (by first|omega|(simp only [length_append,length_cons,length_nil];omega)) (@length_append _ al [(.mk 5 aK .zero f3 [] [] [])]).symm (fun _ b hb=>by simp [hb]) (fun b hb=>by simp [hb]) (List.flatMap_append (f:=encS)).symm fun v4=>?_)
     refine go 9 ?_
     refine wo rfl (bD [S,W] rfl rfl (by decide) call46 rfl (ih m (by omega) (_::_::_::A) [_] _ _ us i3 0 2 hi3 (by omega) (by omega) (by omega) (by simp [hF])) (by intro b hb;simp at hb⊢;rcases hb with rfl|rfl<;>simp) (by intro b hb;simp at hb;rcases hb with rfl|rfl<;>simp [Sto.bl]) (by intro _ b hb;simp at hb⊢;rcases hb with rfl|rfl<;>simp) ?_)
     rintro r5 s5 ⟨b5l,i5,l5,rfl,hm5,hi5,rfl⟩
     have hle5:=hm5.le
     have hln5:=hm5.len2
     refine wo rfl (jU [] Tryz.t78 192 rfl rfl (by decide) rfl rfl underlying56 (by kernel_rfl) rfl rfl rfl rfl (by decide) (oY _) (by unfold maxLen;first|omega|(simp only [length_append,length_cons,length_nil];omega)) (by first|omega|(simp only [length_append,length_cons,length_nil];omega)) (@length_append _ (al++[(.mk 5 aK .zero f3 [] [] [])]) b5l).symm (fun _ b hb=>by simp [hb]) (fun b hb=>by simp [hb]) (List.flatMap_append (f:=encS)).symm fun v6=>?_)
     refine go 8 ?_
     refine ⟨rfl,(b2,_,(.mk 6 aK .zero f3 [] [] []),l5,i5,u,us,v6,(al++[(.mk 5 aK .zero f3 [] [] [])]++b5l)),⟨rfl,(.r (.r (.r (.r (.r (.n (.r (.r (.n (.n (.n .nil))))))))))),(by show l5 <= L;omega),hi5,(by show List.length us+l5 <= 1000;(try simp only [length_append,length_cons,length_nil]);omega),(by show List.length ((al++[(.mk 5 aK .zero f3 [] [] [])]++b5l)++[(.mk 6 aK .zero f3 [] [] [])])+2*l5 <= 2*L;(try simp only [length_append,length_cons,length_nil]);omega),(by have h:=BTo.step hto ((.mk 5 aK .zero f3 [] [] [])::(b5l++[(.mk 6 aK .zero f3 [] [] [])])) (fun _ _ h=>by rw [List.cons_append,append_assoc];exact .pair hm3 hm5 h);simpa using h)⟩,cA (.cons _ (.refl _)) (.refl _) (by grind) (sA rfl)⟩
    refine wcp false rfl (by first|exact eE (by omega)|(simp [bC]<;>omega)) (go 11 ?_)
    by_cases hk12:z2=12
    ·refine wcp true rfl (by first|exact eU (by omega)|(simp [bC]<;>omega)) (go 2 ?_)
     by_cases hd1:0<deep
     ·refine wcp true rfl (by first|exact eU (by omega)|(simp [bC]<;>omega)) (go 5 ?_)
      refine dx [b1] (tz [(0,true),(1,true),(3,true),(4,true),(5,true),(6,true)] 9 (go 7 ?_))
      refine tx 7 rfl (cI ((deep-1:Nat):Int) rfl rfl rfl (by omega) (by omega) (by omega)) (tz [(9,true)] 7 (go 2 ?_))
      refine ox 2 rfl rfl (bD [S] rfl rfl (by decide) call83 rfl (pQ (_::_::A) _ [_] _ _ S W l i2 us G (.sl ms.length (ms.flatMap bT)) _ _ ar hi2 hl (by omega)) (by intro b hb;simp at hb;subst hb;simp) (by intro b hb;simp at hb;subst hb;simp [Sto.bl]) (fun hn b hb=>by simp at hb;subst hb<;>exact jJ hn) ?_)
      rintro r3 s3 ⟨x3,i3,rfl,hm3,hi3,rfl⟩
      unfold cU
      refine ox 8 rfl rfl (bD [S,W] rfl rfl (by decide) call46 rfl (ih m (by omega) (_::_::A) [_] _ _ us i3 (deep-1) 3 hi3 (by omega) (by omega) (by omega) (by simp [hF])) (by intro b hb;simp at hb⊢;rcases hb with rfl|rfl<;>simp) (by intro b hb;simp at hb;rcases hb with rfl|rfl<;>simp [Sto.bl]) (fun hn b hb=>by simp at hb;rcases hb with rfl|rfl<;>exact jJ hn) ?_)
      rintro r4 s4 ⟨b4l,i4,l4,rfl,hm4,hi4,rfl⟩
      have hle4:=hm4.le
      have hln4:=hm4.len2
      refine tz [(10,false),(11,true),(12,false),(13,true),(14,false)] 0 (go 6 ?_)
      refine ax (go 1 ?_)
      refine ⟨rfl,(b2,_,(.mk 8 aK x3 .zero [] b4l []),l4,i4,u,us,vo,al),⟨rfl,(.r (.r (.r (.r (.r (.r (.r (.n (.n (.r (.n .nil))))))))))),(by show l4 <= L;omega),hi4,(by show List.length us+l4 <= 1000;(try simp only [length_append,length_cons,length_nil]);omega),(by show List.length (al++[(.mk 8 aK x3 .zero [] b4l [])])+2*l4 <= 2*L;(try simp only [length_append,length_cons,length_nil]);omega),BTo.step hto [(.mk 8 aK x3 .zero [] b4l [])] (fun _ _ h=>by obtain ⟨d,rfl⟩:∃d,deep=d+1:=⟨deep-1,by omega⟩;exact .loop hm3 hm4 h)⟩,cA (.refl _) (.refl _) (by grind) (sA rfl)⟩
     refine wcp false rfl (by first|exact eE (by omega)|(simp [bC]<;>omega)) (go 8 ?_)
     refine wcp false rfl (by first|exact eE (by omega)|(simp [bC]<;>omega)) (go 17 ?_)
     refine wo rfl (bD [S] rfl rfl (by decide) call82 rfl (rG (_::_::A) _ [_] _ _ S W l i2 ms ps us fn G _ FB _ ar hi2 hl hm1 hm2 hmz hp2 (by omega)) (bDj (by simp)) (bDj (by simp [Sto.bl])) (fun _=>bDj (by simp)) ?_)
     rintro r3 s3 ⟨f3,i3,rfl,hm3,hi3,rfl⟩
     unfold encR
     refine go 17 fun b11=>?_
     refine eA 60 rfl (Wk.agg (.r (.r (.r (.r (.r (.n (.r (.r (.n (.n (.n .nil)))))))))))) ?_
     refine wo rfl (bDk bDu rfl (.cons rfl .nil) (aV encS dG (.mk 5 aK .zero f3 [] [] []) (cJ _) rfl rfl) ?_)
     refine wo rfl (jU [] Tryz.t78 192 rfl rfl (by decide) rfl rfl underlying56 (by kernel_rfl) rfl rfl rfl rfl (by decide) rfl (by unfold maxLen;first|omega|(simp only [length_append,length_cons,length_nil];omega)) (by first|omega|(simp only [length_append,length_cons,length_nil];omega)) (@length_append _ al [(.mk 5 aK .zero f3 [] [] [])]).symm (fun _ b hb=>by simp [hb]) (fun b hb=>by simp [hb]) (List.flatMap_append (f:=encS)).symm fun v4=>?_)
     refine go 9 ?_
     refine wo rfl (bD [S,W] rfl rfl (by decide) call46 rfl (ih m (by omega) (_::_::_::A) [_] _ _ us i3 0 2 hi3 (by omega) (by omega) (by omega) (by simp [hF])) (by intro b hb;simp at hb⊢;rcases hb with rfl|rfl<;>simp) (by intro b hb;simp at hb;rcases hb with rfl|rfl<;>simp [Sto.bl]) (by intro _ b hb;simp at hb⊢;rcases hb with rfl|rfl<;>simp) ?_)
     rintro r5 s5 ⟨b5l,i5,l5,rfl,hm5,hi5,rfl⟩
     have hle5:=hm5.le
     have hln5:=hm5.len2
     refine wo rfl (jU [] Tryz.t78 192 rfl rfl (by decide) rfl rfl underlying56 (by kernel_rfl) rfl rfl rfl rfl (by decide) (oY _) (by unfold maxLen;first|omega|(simp only [length_append,length_cons,length_nil];omega)) (by first|omega|(simp only [length_append,length_cons,length_nil];omega)) (@length_append _ (al++[(.mk 5 aK .zero f3 [] [] [])]) b5l).symm (fun _ b hb=>by simp [hb]) (fun b hb=>by simp [hb]) (List.flatMap_append (f:=encS)).symm fun v6=>?_)
     refine go 8 ?_
     refine ⟨rfl,(b2,_,(.mk 6 aK .zero f3 [] [] []),l5,i5,u,us,v6,(al++[(.mk 5 aK .zero f3 [] [] [])]++b5l)),⟨rfl,(.r (.r (.r (.r (.r (.n (.r (.r (.n (.n (.n .nil))))))))))),(by show l5 <= L;omega),hi5,(by show List.length us+l5 <= 1000;(try simp only [length_append,length_cons,length_nil]);omega),(by show List.length ((al++[(.mk 5 aK .zero f3 [] [] [])]++b5l)++[(.mk 6 aK .zero f3 [] [] [])])+2*l5 <= 2*L;(try simp only [length_append,length_cons,length_nil]);omega),(by have h:=BTo.step hto ((.mk 5 aK .zero f3 [] [] [])::(b5l++[(.mk 6 aK .zero f3 [] [] [])])) (fun _ _ h=>by rw [List.cons_append,append_assoc];exact .pair hm3 hm5 h);simpa using h)⟩,cA (.cons _ (.refl _)) (.refl _) (by grind) (sA rfl)⟩
    refine wcp false rfl (by first|exact eE (by omega)|(simp [bC]<;>omega)) (go 11 ?_)
    by_cases hk13:z2=13
    ·refine wcp true rfl (by first|exact eU (by omega)|(simp [bC]<;>omega)) (go 5 ?_)
     refine wo rfl (bD [S] rfl rfl (by decide) call45 rfl (eC (_::_::A) _ _ _ l i2 _ hi2 hl (by decide) (by decide)) (bDj (by simp)) (bDj (by simp [Sto.bl])) (fun _=>bDj (by simp)) ?_)
     rintro r3 s3 ⟨z3,i3,rfl,hy3,hi3,rfl⟩
     by_cases hrt:z3=1
     ·refine wcp true rfl (by first|exact eU (by omega)|(simp [bC]<;>omega)) (go 10 ?_)
      refine ⟨rfl,(b2,_,(.mk 9 aK .zero .zero [] [] []),m,i3,u,us,vo,al),⟨rfl,(.r (.r (.r (.r (.r (.n (.r (.n (.n (.n (.n .nil))))))))))),(by show m <= L;omega),hi3,(by show List.length us+m <= 1000;(try simp only [length_append,length_cons,length_nil]);omega),(by show List.length (al++[(.mk 9 aK .zero .zero [] [] [])])+2*m <= 2*L;(try simp only [length_append,length_cons,length_nil]);omega),BTo.step hto [(.mk 9 aK .zero .zero [] [] [])] (fun _ _ h=>.ret h)⟩,cA (.refl _) (.refl _) (by grind) (sA rfl)⟩
     refine wcp false rfl (by first|exact eE (by omega)|(simp [bC]<;>omega)) (go 10 ?_)
     refine wo rfl (bD [S] rfl rfl (by decide) call82 rfl (rG (_::_::A) _ [_] _ _ S W l i3 ms ps us fn G _ FB _ ar hi3 hl hm1 hm2 hmz hp2 (by omega)) (bDj (by simp)) (bDj (by simp [Sto.bl])) (fun _=>bDj (by simp)) ?_)
     rintro r4 s4 ⟨f4,i4,rfl,hm4,hi4,rfl⟩
     unfold encR
     refine go 17 fun b12=>?_
     refine eA 60 rfl (Wk.agg (.r (.r (.r (.r (.r (.n (.r (.r (.n (.n (.n .nil)))))))))))) ?_
     refine wo rfl (bDk bDu rfl (.cons rfl .nil) (aV encS dG (.mk 5 aK .zero f4 [] [] []) (cJ _) rfl rfl) ?_)
     refine wo rfl (jU [] Tryz.t78 192 rfl rfl (by decide) rfl rfl underlying56 (by kernel_rfl) rfl rfl rfl rfl (by decide) rfl (by unfold maxLen;first|omega|(simp only [length_append,length_cons,length_nil];omega)) (by first|omega|(simp only [length_append,length_cons,length_nil];omega)) (@length_append _ al [(.mk 5 aK .zero f4 [] [] [])]).symm (fun _ b hb=>by simp [hb]) (fun b hb=>by simp [hb]) (List.flatMap_append (f:=encS)).symm fun v5=>?_)
     refine go 9 ?_
     refine wo rfl (bD [S,W] rfl rfl (by decide) call46 rfl (ih m (by omega) (_::_::_::A) [_] _ _ us i4 0 2 hi4 (by omega) (by omega) (by omega) (by simp [hF])) (by intro b hb;simp at hb⊢;rcases hb with rfl|rfl<;>simp) (by intro b hb;simp at hb;rcases hb with rfl|rfl<;>simp [Sto.bl]) (by intro _ b hb;simp at hb⊢;rcases hb with rfl|rfl<;>simp) ?_)
     rintro r6 s6 ⟨b6l,i6,l6,rfl,hm6,hi6,rfl⟩
     have hle6:=hm6.le
     have hln6:=hm6.len2
     refine wo rfl (jU [] Tryz.t78 192 rfl rfl (by decide) rfl rfl underlying56 (by kernel_rfl) rfl rfl rfl rfl (by decide) (oY _) (by unfold maxLen;first|omega|(simp only [length_append,length_cons,length_nil];omega)) (by first|omega|(simp only [length_append,length_cons,length_nil];omega)) (@length_append _ (al++[(.mk 5 aK .zero f4 [] [] [])]) b6l).symm (fun _ b hb=>by simp [hb]) (fun b hb=>by simp [hb]) (List.flatMap_append (f:=encS)).symm fun v7=>?_)
     refine go 8 ?_
     refine ⟨rfl,(b2,_,(.mk 6 aK .zero f4 [] [] []),l6,i6,u,us,v7,(al++[(.mk 5 aK .zero f4 [] [] [])]++b6l)),⟨rfl,(.r (.r (.r (.r (.r (.n (.r (.r (.n (.n (.n .nil))))))))))),(by show l6 <= L;omega),hi6,(by show List.length us+l6 <= 1000;(try simp only [length_append,length_cons,length_nil]);omega),(by show List.length ((al++[(.mk 5 aK .zero f4 [] [] [])]++b6l)++[(.mk 6 aK .zero f4 [] [] [])])+2*l6 <= 2*L;(try simp only [length_append,length_cons,length_nil]);omega),(by have h:=BTo.step hto ((.mk 5 aK .zero f4 [] [] [])::(b6l++[(.mk 6 aK .zero f4 [] [] [])])) (fun _ _ h=>by rw [List.cons_append,append_assoc];exact .pair hm4 hm6 h);simpa using h)⟩,cA (.cons _ (.refl _)) (.refl _) (by grind) (sA rfl)⟩
    refine wcp false rfl (by first|exact eE (by omega)|(simp [bC]<;>omega)) (go 17 ?_)
    refine wo rfl (bD [S] rfl rfl (by decide) call82 rfl (rG (_::_::A) _ [_] _ _ S W l i2 ms ps us fn G _ FB _ ar hi2 hl hm1 hm2 hmz hp2 (by omega)) (bDj (by simp)) (bDj (by simp [Sto.bl])) (fun _=>bDj (by simp)) ?_)
    rintro r3 s3 ⟨f3,i3,rfl,hm3,hi3,rfl⟩
    unfold encR
    refine go 17 fun b13=>?_
    refine eA 60 rfl (Wk.agg (.r (.r (.r (.r (.r (.n (.r (.r (.n (.n (.n .nil)))))))))))) ?_
    refine wo rfl (bDk bDu rfl (.cons rfl .nil) (aV encS dG (.mk 5 aK .zero f3 [] [] []) (cJ _) rfl rfl) ?_)
    refine wo rfl (jU [] Tryz.t78 192 rfl rfl (by decide) rfl rfl underlying56 (by kernel_rfl) rfl rfl rfl rfl (by decide) rfl (by unfold maxLen;first|omega|(simp only [length_append,length_cons,length_nil];omega)) (by first|omega|(simp only [length_append,length_cons,length_nil];omega)) (@length_append _ al [(.mk 5 aK .zero f3 [] [] [])]).symm (fun _ b hb=>by simp [hb]) (fun b hb=>by simp [hb]) (List.flatMap_append (f:=encS)).symm fun v4=>?_)
    refine go 9 ?_
    refine wo rfl (bD [S,W] rfl rfl (by decide) call46 rfl (ih m (by omega) (_::_::_::A) [_] _ _ us i3 0 2 hi3 (by omega) (by omega) (by omega) (by simp [hF])) (by intro b hb;simp at hb⊢;rcases hb with rfl|rfl<;>simp) (by intro b hb;simp at hb;rcases hb with rfl|rfl<;>simp [Sto.bl]) (by intro _ b hb;simp at hb⊢;rcases hb with rfl|rfl<;>simp) ?_)
    rintro r5 s5 ⟨b5l,i5,l5,rfl,hm5,hi5,rfl⟩
    have hle5:=hm5.le
    have hln5:=hm5.len2
    refine wo rfl (jU [] Tryz.t78 192 rfl rfl (by decide) rfl rfl underlying56 (by kernel_rfl) rfl rfl rfl rfl (by decide) (oY _) (by unfold maxLen;first|omega|(simp only [length_append,length_cons,length_nil];omega)) (by first|omega|(simp only [length_append,length_cons,length_nil];omega)) (@length_append _ (al++[(.mk 5 aK .zero f3 [] [] [])]) b5l).symm (fun _ b hb=>by simp [hb]) (fun b hb=>by simp [hb]) (List.flatMap_append (f:=encS)).symm fun v6=>?_)
    refine go 8 ?_
    refine ⟨rfl,(b2,_,(.mk 6 aK .zero f3 [] [] []),l5,i5,u,us,v6,(al++[(.mk 5 aK .zero f3 [] [] [])]++b5l)),⟨rfl,(.r (.r (.r (.r (.r (.n (.r (.r (.n (.n (.n .nil))))))))))),(by show l5 <= L;omega),hi5,(by show List.length us+l5 <= 1000;(try simp only [length_append,length_cons,length_nil]);omega),(by show List.length ((al++[(.mk 5 aK .zero f3 [] [] [])]++b5l)++[(.mk 6 aK .zero f3 [] [] [])])+2*l5 <= 2*L;(try simp only [length_append,length_cons,length_nil]);omega),(by have h:=BTo.step hto ((.mk 5 aK .zero f3 [] [] [])::(b5l++[(.mk 6 aK .zero f3 [] [] [])])) (fun _ _ h=>by rw [List.cons_append,append_assoc];exact .pair hm3 hm5 h);simpa using h)⟩,cA (.cons _ (.refl _)) (.refl _) (by grind) (sA rfl)⟩
   rintro ⟨tb,cs,sm,m2,i9,u2,us2,vo2,al2⟩ ⟨hcl,hwk,hm2l,hi9,hul2,hal2,hto2⟩
   dsimp only at hcl hwk hm2l hi9 hul2 hal2 hto2
   have hal3:al2.length+1+2*m2 <= 2*L:=by simp only [length_append,length_cons,length_nil] at hal2;omega
   show AWp prog _ (⟨249,tb::(aY vo2++(aY u2++[b1,S,W])),⟨⟨tb,78,cs⟩::⟨b1,58,[.val (.string fn),.sl ps.length (ps.flatMap cP),FB]⟩::(A++⟨S,102,[.sl l.length (l.map fun i=>.val (.int .i64 i)),nC i9]⟩::⟨W,104,[.val (.pointer (some ⟨S,0,none⟩)),G,(.sl ms.length (ms.flatMap bT)),(.val (.slice (some ⟨gF,0,none⟩) fs.length capF)),nC m2,.val (.bool ar)]⟩::B),⟨vo2,78,11,al2.length,al2.flatMap encS⟩::⟨u2,9,1,us2.length,bP us2⟩::RA++⟨vv,9,1,vars.length,bP vars⟩::rw⟩,[(13,pP tb),(12,nI (n+1)),(11,.c (.val vo2)),(2,.c (.val u2)),(0,pP W),(3,nI deep),(6,pP b1)]⟩:AS) _
   refine go 2 ?_
   refine wyz rfl (id (aX [] rfl rfl rfl isAgg78 sizeOf78 (bK hcl rfl) (fun _ h=>by cases h))) ?_
   refine eA 245 rfl (Wk.agg hwk) ?_
   refine wo rfl (bDk bDu rfl (.cons rfl .nil) (aV encS dG sm (cJ _) rfl rfl) ?_)
   refine wo rfl (jU [] Tryz.t78 192 rfl rfl (by decide) rfl rfl underlying56 (by kernel_rfl) rfl rfl rfl rfl (by decide) (oY [sm]) (by unfold maxLen;first|omega|(simp only [length_append,length_cons,length_nil];omega)) (by first|omega|(simp only [length_append,length_cons,length_nil];omega)) (@length_append _ al2 [sm]).symm (fun _ b hb=>by simp [hb]) (fun b hb=>by simp [hb]) (List.flatMap_append (f:=encS)).symm fun v3=>?_)
   refine go 6 ?_
   refine wyz rfl (cI ((n:Nat):Int) rfl rfl rfl (by omega) (by omega) (by omega)) (go 2 ?_)
   refine ⟨(n,m2,i9,u2,us2,v3,(al2++[sm])),⟨by show n <= most;omega,by show m2 <= L;omega,hi9,by show List.length us2+m2 <= 1000;omega,hal2,hto2⟩,Nat.lt_succ_self n,cA (.cons _ (.refl _)) (.refl _) (by grind) (sA rfl)⟩
  refine wcp false rfl (by first|exact eE (by omega)|(simp [bC]<;>omega)) (go 11 ?_)
  refine aE1 11 rfl ?_
  refine go 5 ?_
  exact ⟨.inr rfl,_,SSt A (⟨W,104,[.val (.pointer (some ⟨S,0,none⟩)),G,(.sl ms.length (ms.flatMap bT)),(.val (.slice (some ⟨gF,0,none⟩) fs.length capF)),nC lf,.val (.bool ar)]⟩::B) (gP RA vv vars rw) S l ik,aR rfl (aF rfl),aA (.cons _ (.refl _)) (.cons _ (.refl _)),⟨al,ik,lf,rfl,hto.fin,hik,rfl⟩⟩
 refine wcp false rfl (by first|exact eE (by omega)|(simp [bC]<;>omega)) (go 17 ?_)
 refine aE1 11 rfl ?_
 refine go 5 ?_
 exact ⟨.inr rfl,_,SSt A (⟨W,104,[.val (.pointer (some ⟨S,0,none⟩)),G,(.sl ms.length (ms.flatMap bT)),(.val (.slice (some ⟨gF,0,none⟩) fs.length capF)),nC lf,.val (.bool ar)]⟩::B) (gP RA vv vars rw) S l ik,aR rfl (aF rfl),aA (.cons _ (.refl _)) (.cons _ (.refl _)),⟨al,ik,lf,rfl,hto.fin,hik,rfl⟩⟩
theorem aLa(B:List Box)(S W:Nat)(l:List Int)(ms:List cL)(ps:List aS)(fn:ByteArray)(G FB:AC)(ar:Bool)(fs:List (ByteArray×List aS×AC))(gF capF:Nat)(hl:l.length <= 1000000)(hm1:1 <= ms.length)(hm2:ms.length <= 1000)(hmz:∀m,m∈ms -> m.size <= 1000)(hp2:ps.length <= 1000)(hf1:1 <= fs.length)(hf2:fs.length <= 1000)(hfp:∀f,f∈fs -> f.2.1.length <= 1000):∀(L:Nat) (A:List Box) (RA rw:List bA) (vv:Value) (vars:List ByteArray) (i0 deep most:Nat) (hi0:i0 <= l.length) (hd:deep <= 100) (hmost:most <= 1000) (hvl:vars.length+L <= 1000) (hF:(⟨.slice (some ⟨gF,0,none⟩) fs.length capF,58,3,fs.length,fs.flatMap cQ⟩:bA)∈rw),aL prog 46 [pP W,.agg [.val (.string fn),.sl ps.length (ps.flatMap cP),FB],.c (.val vv),nI deep,nI most] [S,W] (SSt A (⟨W,104,[.val (.pointer (some ⟨S,0,none⟩)),G,(.sl ms.length (ms.flatMap bT)),(.val (.slice (some ⟨gF,0,none⟩) fs.length capF)),nC L,.val (.bool ar)]⟩::B) (gP RA vv vars rw) S l i0) (fun r s=>∃(al:List aJ) (i left':Nat),r=.c (.sl al.length (al.flatMap encS)) /\ dJ ms (fs.map fun f=>(f.1,f.2.1)) ps vars deep L al left' /\ i <= l.length /\ s=SSt A (⟨W,104,[.val (.pointer (some ⟨S,0,none⟩)),G,(.sl ms.length (ms.flatMap bT)),(.val (.slice (some ⟨gF,0,none⟩) fs.length capF)),.val (.int .i64 ((left':Nat):Int)),.val (.bool ar)]⟩::B) (gP RA vv vars rw) S l i):=by
 intro L
 induction L using Nat.strongRecOn with
 |ind L ih=>exact fun A RA rw vv vars i0 deep most hi0 hd hmost hvl hF=>aKm B S W l ms ps fn G FB ar fs gF capF hl hm1 hm2 hmz hp2 hf1 hf2 hfp L ih A RA rw vv vars i0 deep most hi0 hd hmost hvl hF
theorem vJ(B:List Box)(S W:Nat)(l:List Int)(ms:List cL)(ps:List aS)(fn:ByteArray)(G FB:AC)(ar:Bool)(fs:List (ByteArray×List aS×AC))(gF capF:Nat)(hl:l.length <= 1000000)(hm1:1 <= ms.length)(hm2:ms.length <= 1000)(hmz:∀m,m∈ms -> m.size <= 1000)(hp2:ps.length <= 1000)(hf1:1 <= fs.length)(hf2:fs.length <= 1000)(hfp:∀f,f∈fs -> f.2.1.length <= 1000)(k:Nat)(hk:fs.length=k)(L:Nat)(A:List Box)(RA rw:List bA)(vv:Value)(vars:List ByteArray)(i0 deep most:Nat)(hi0:i0 <= l.length)(hd:deep <= 100)(hmost:most <= 1000)(hvl:vars.length+L <= 1000)(hF:(⟨.slice (some ⟨gF,0,none⟩) k capF,58,3,k,fs.flatMap cQ⟩:bA)∈rw):aL prog 46 [pP W,.agg [.val (.string fn),.sl ps.length (ps.flatMap cP),FB],.c (.val vv),nI deep,nI most] [S,W] (SSt A (⟨W,104,[.val (.pointer (some ⟨S,0,none⟩)),G,(.sl ms.length (ms.flatMap bT)),(.val (.slice (some ⟨gF,0,none⟩) k capF)),nC L,.val (.bool ar)]⟩::B) (gP RA vv vars rw) S l i0) (fun r s=>∃(al:List aJ) (i left':Nat),r=.c (.sl al.length (al.flatMap encS)) /\ dJ ms (fs.map fun f=>(f.1,f.2.1)) ps vars deep L al left' /\ i <= l.length /\ s=SSt A (⟨W,104,[.val (.pointer (some ⟨S,0,none⟩)),G,(.sl ms.length (ms.flatMap bT)),(.val (.slice (some ⟨gF,0,none⟩) k capF)),.val (.int .i64 ((left':Nat):Int)),.val (.bool ar)]⟩::B) (gP RA vv vars rw) S l i):=by
 subst hk
 exact aLa B S W l ms ps fn G FB ar fs gF capF hl hm1 hm2 hmz hp2 hf1 hf2 hfp L A RA rw vv vars i0 deep most hi0 hd hmost hvl hF
end
end Go.Proofs.YtojinfngbbajgaaGreatDoor
