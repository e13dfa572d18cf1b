import Derived.Test.YtojinfngbbajgaaGreatDoorF5J
import Derived.Test.YtojinfngbbajgaaGreatDoorF35J
import Derived.Test.YtojinfngbbajgaaGreatDoorF9J
set_option linter.all false
set_option synthInstance.maxHeartbeats 1000000
set_option synthInstance.maxSize 1000000
set_option maxHeartbeats 1600000
set_option maxRecDepth 100000
namespace Go.Proofs.YtojinfngbbajgaaGreatDoor
open Go.Proofs.Tryz
open List (length_append length_cons length_nil mem_append mem_cons not_mem_nil append_assoc getElem_mem take_of_length_le)
section
open Go.RowKit
def bS3(s:aJ):Nat:=1+s.expr.nodes+s.ref.wt+wtA s.args
theorem bTm(s:aJ):s.wt=bS3 s+wtS s.thn+wtS s.els:=by rw [gD];unfold bS3;omega
structure QOk (s q:aJ):Prop where
 sane:q.sane
 base:bS3 q <= 22*bS3 s
 thn:wtS q.thn <= wtS s.thn
 els:wtS q.els <= wtS s.els
theorem QOk.self{s:aJ}(h:s.sane):QOk s s:=⟨h,by omega,Nat.le_refl _,Nat.le_refl _⟩
theorem bUr(s:aJ)(how x:Int)(hs:s.sane)(hw:s.wt <= 9000000)(σ:Sto):aL prog 60 [.agg (dG s),.c (.val (.int .i64 how)),.c (.val (.int .i64 x))] [] σ fun t s'=>(∃q:aJ,t=.agg (dG q) /\ QOk s q) /\ s'=σ:=by
 obtain ⟨k,nm,⟨eo,en,em,ea⟩,⟨rn,ri⟩,ar,th,el⟩:=s
 obtain ⟨bx,rw⟩:=σ
 have h:=bUb k nm eo en em ea rn ri ar th el how x hs (by rw [gD] at hw;simp only [aJ.args] at hw;omega) bx rw
 intro vs w hm hT hl hr
 refine (h vs w hm hT hl hr).mono ?_
 rintro en w' ⟨r,v,s',h1,⟨⟨q,rfl,q1,q2,q3⟩,rfl⟩,h4⟩
 refine ⟨_,v,_,h1,⟨⟨q,rfl,q1,?_,?_,?_⟩,rfl⟩,h4⟩
 ·unfold bS3;simp only [aJ.expr,aJ.ref,aJ.args,cY.wt,aH.nodes] at q3⊢;omega
 ·rcases q2 with ⟨e1,e2⟩|⟨e1,e2⟩
  ·rw [e1];exact Nat.le_refl _
  rw [e1,wtS];omega
 rcases q2 with ⟨e1,e2⟩|⟨e1,e2⟩
 ·rw [e2];exact Nat.le_refl _
 rw [e2,wtS];omega
structure bU1 (l:List aJ) (n:Int) (l':List aJ) (n':Int):Prop where
 sane:gC l'
 wt:wtS l' <= 22*wtS l
 lo:n-22*(wtS l:Int) <= n'
 hi:n' <= n
def bSr(q:aJ)(t:List aJ):aJ:=.mk q.kind q.name q.expr q.ref q.args t q.els
def bSx(q:aJ)(t:List aJ):aJ:=.mk q.kind q.name q.expr q.ref q.args q.thn t
theorem bTw(a b:List aJ):wtS (a++b)=wtS a+wtS b:=by
 induction a with
 |nil=>rw [List.nil_append,wtS];omega
 |cons x a ih=>rw [List.cons_append,wtS,wtS,ih];omega
theorem bUi(l:List aJ)(k:Nat)(h:k<l.length):wtS (l.take (k+1))=wtS (l.take k)+l[k].wt:=by
 rw [List.take_succ_eq_append_getElem h,bTw,wtS,wtS];omega
theorem bUs(l:List aJ)(k:Nat):wtS (l.take k) <= wtS l:=by
 have h:=bTw (l.take k) (l.drop k)
 rw [List.take_append_drop] at h;omega
theorem bT7{a b:List aJ}(ha:gC a)(hb:gC b):gC (a++b):=by
 induction a with
 |nil=>exact hb
 |cons x a ih=>rw [List.cons_append,gC];rw [gC] at ha;exact ⟨ha.1,ih ha.2⟩
theorem bUc{q:aJ}{t1 t2:List aJ}(h:q.sane)(h1:gC t1)(h2:gC t2):(bSx (bSr q t1) t2).sane:=by
 obtain ⟨a,b,c,d,-,-⟩:=yW h
 unfold bSx bSr;rw [aJ.sane];exact ⟨a,b,c,d,h1,h2⟩
section
variable {pr r:List aJ}{q:aJ}{k:Nat}
theorem bS5(hk:pr.length=k):(pr++q::r).flatMap encS=pr.flatMap encS++(dG q++r.flatMap encS) /\ (pr.flatMap encS).length=k*11:=by
 refine ⟨by rw [List.flatMap_append,List.flatMap_cons,cJ],?_⟩
 rw [aFz encS 11 mE,hk]
theorem bU0(hk:pr.length=k):pk true 11 ((pr++q::r).flatMap encS) (0+k*11)=some (.agg (dG q)):=by
 obtain ⟨h1,h2⟩:=bS5 (q:=q) (r:=r) hk
 unfold pk
 rw [if_pos rfl,h1,Nat.zero_add,List.drop_left' h2,List.take_left' (by rfl),if_pos (by rw [length_append,length_append,h2];show _ <= _+(11+_);omega)]
theorem bT9(hk:pr.length=k)(i:Nat)(x:AC)(hx:(dG q)[i]?=some x):pk false 1 ((pr++q::r).flatMap encS) (0+k*11+i)=some (.c x):=by
 obtain ⟨h1,h2⟩:=bS5 (q:=q) (r:=r) hk
 have hi:i<(dG q).length:=(List.getElem?_eq_some_iff.1 hx).1
 unfold pk
 rw [if_neg (by decide),h1,Nat.zero_add,List.getElem?_append_right (by omega),h2,Nat.add_sub_cancel_left,List.getElem?_append_left hi,hx];rfl
theorem bUx(hk:pr.length=k)(q':aJ):splice ((pr++q::r).flatMap encS) (0+k*11) (dG q')=(pr++q'::r).flatMap encS:=by
 rw [Nat.zero_add,←cJ,bSu encS 11 mE _ k (by simp;omega)]
 congr 1
 subst hk;simp
theorem bTx(hk:pr.length=k)(i:Nat)(x:AC)(q':aJ)(hi:i<11)(hx:(dG q).set i x=dG q'):splice ((pr++q::r).flatMap encS) (0+k*11+i) [x]=(pr++q'::r).flatMap encS:=by
 obtain ⟨h1,h2⟩:=bS5 (q:=q) (r:=r) hk
 obtain ⟨h3,h4⟩:=bS5 (q:=q') (r:=r) hk
 have h11:(dG q).length=11:=rfl
 rw [h1,h3,←hx]
 unfold splice
 rw [Nat.zero_add,←h2,List.take_append,take_of_length_le (by omega),Nat.add_sub_cancel_left,List.take_append_of_le_length (by omega)]
 simp only [append_assoc]
 rw [List.drop_append,List.drop_of_length_le (by simp;omega),List.nil_append,show (pr.flatMap encS).length+i+[x].length-(pr.flatMap encS).length=i+1 by simp;omega,List.drop_append_of_le_length (by omega),List.set_eq_take_append_cons_drop,if_pos (by omega)]
 simp
theorem bTk(hk:pr.length=k)(i z:Nat)(h:i+z <= 11):0+k*11+i+z <= ((pr++q::r).flatMap encS).length:=by
 rw [aFz encS 11 mE,length_append,length_cons,hk,Nat.add_mul,Nat.add_mul];omega
end
theorem bT6(N:Nat)(l:List aJ)(n how x:Int)(hN:N+1 <= 9000000)(hl:wtS l <= N+1)(hl2:l.length <= 9000000)(hs:gC l)(hn1:-1000000000000000+22*(wtS l:Int) <= n)(hn2:n <= 1000000000000000)(ih:0<l.length -> ∀(l:List aJ)(n:Int),wtS l <= N -> gC l -> -1000000000000000+22*(wtS l:Int) <= n -> n <= 1000000000000000 -> ∀s:Sto,aL prog 28 [.c (.sl l.length (l.flatMap encS)),.c (.val (.int .i64 n)),.c (.val (.int .i64 how)),.c (.val (.int .i64 x))] [] s fun t s'=>(∃l' n',t=.tup [.c (.sl l'.length (l'.flatMap encS)),.c (.val (.int .i64 n'))] /\ bU1 l n l' n') /\ s'=s)(bx:List Box)(rw:List bA):aL prog 28 [.c (.sl l.length (l.flatMap encS)),.c (.val (.int .i64 n)),.c (.val (.int .i64 how)),.c (.val (.int .i64 x))] [] ⟨bx,rw⟩ fun t s'=>(∃l' n',t=.tup [.c (.sl l'.length (l'.flatMap encS)),.c (.val (.int .i64 n'))] /\ bU1 l n l' n') /\ s'=⟨bx,rw⟩:=by
 refine acB func28 rfl ?_
 show AWp prog _ ⟨69,_,⟨bx,rw⟩,[(0,.c (.sl l.length (l.flatMap encS))),(1,.c (.val (.int .i64 n))),(2,.c (.val (.int .i64 how))),(3,.c (.val (.int .i64 x)))]⟩ _
 refine go 8 ?_
 refine wo rfl (aTr rfl rfl (by decide) underlying56 sizeOf78 fun g1=>?_)
 refine go 1 ?_
 refine wo rfl (jU [] Tryz.t78 192 rfl rfl (by decide) rfl rfl underlying56 (by kernel_rfl) rfl rfl rfl rfl (by decide) (aFz encS 11 mE l) (by unfold maxLen;omega) (by omega) (Nat.zero_add l.length) (fun _ b hb=>by simp [aY,Value.ownBlock] at hb;simp [hb]) (fun b hb=>by simp [aY,Value.ownBlock] at hb;simp [hb]) (List.nil_append _) fun w2=>?_)
 refine go 10 ?_
 refine fM (fun g:Nat×List aJ×Int×Value=>(⟨69,aY g.2.2.2,⟨bx,⟨g.2.2.2,78,11,l.length,(g.2.1++l.drop g.1).flatMap encS⟩::rw⟩,[(11,nI g.1),(10,.c (.val g.2.2.2)),(1,.c (.val (.int .i64 g.2.2.1))),(0,.c (.sl l.length (l.flatMap encS))),(2,.c (.val (.int .i64 how))),(3,.c (.val (.int .i64 x)))]⟩:AS)) (fun g=>g.1 <= l.length /\ g.2.1.length=g.1 /\ gC g.2.1 /\ wtS g.2.1 <= 22*wtS (l.take g.1) /\ n-22*(wtS (l.take g.1):Int) <= g.2.2.1 /\ g.2.2.1 <= n) (fun g=>l.length-g.1) (0,[],n,w2) (cA (.refl _) (.refl _) (fun b hb=>List.mem_append_left _ hb) (sA rfl)) ⟨by omega,rfl,trivial,by simp [wtS],by simp [wtS],Int.le_refl _⟩ ?_
 rintro ⟨k,pr,m,v⟩ ⟨hk,hpl,hps,hpw,hm1,hm2⟩
 dsimp only at hk hpl hps hpw hm1 hm2
 show AWp prog _ ⟨69,aY v,⟨bx,⟨v,78,11,l.length,(pr++l.drop k).flatMap encS⟩::rw⟩,[(11,nI k),(10,.c (.val v)),(1,.c (.val (.int .i64 m))),(0,.c (.sl l.length (l.flatMap encS))),(2,.c (.val (.int .i64 how))),(3,.c (.val (.int .i64 x)))]⟩ _
 refine go 5 ?_
 refine wyz rfl (kV [] rfl rfl rfl runUnderlying56) ?_
 by_cases h1:((k:Nat):Int)<((l.length:Nat):Int)
 ·refine wcp true rfl (jZ h1) (go 10 ?_)
  have hkl:k<l.length:=by omega
  refine aF1 [] (by omega) fun gr cr hgr=>?_
  subst hgr
  rw [List.drop_eq_getElem_cons hkl]
  have hlk:=oS _ hs _ (getElem_mem hkl)
  have hwt:=uF l k hkl
  have hwt2:=bTm l[k]
  have hwm:=bUi l k hkl
  have hwm2:=bUs l (k+1)
  have hb0:1 <= bS3 l[k]:=by unfold bS3;omega
  refine go 1 ?_
  by_cases h3:m=0
  ·refine wcp true rfl (eR h3) (go 8 ?_)
   refine wyz rfl (dH (z:=11) k rfl rfl rfl rfl hkl runUnderlying56 sizeOf78) ?_
   refine wyz rfl (rM [] rfl rfl rfl isAgg78 sizeOf78 (bU0 hpl) (fun _ h=>by cases h)) (go 2 ?_)
   refine wc0 rfl call60 rfl (bUr l[k] how x hlk (by omega) _) ?_
   rintro _ _ ⟨⟨q,rfl,hQ⟩,rfl⟩
   refine wyz rfl (dH (z:=11) k rfl rfl rfl rfl hkl runUnderlying56 sizeOf78) ?_
   refine wo rfl (aO0 (r:=(pr++q::l.drop (k+1)).flatMap encS) [] rfl rfl rfl rfl rfl sizeOf78 rfl (bTk hpl 0 11 (by decide)) (bUx hpl q) (by simp [aY,Value.ownBlock]) (fun _=>by simp [aY,Value.ownBlock]) ?_)
   refine go 5 ?_
   refine wyz rfl (qC rfl rfl rfl (by omega) (by omega)) (go 9 ?_)
   refine wyz rfl (dH (z:=11) k rfl rfl rfl rfl hkl runUnderlying56 sizeOf78) ?_
   refine wyz rfl (id <|uX 9 (0+k*11+9) rfl rfl runUnderlying78 rfl sizeOf56 (by decide) rfl) ?_
   refine wyz rfl (rM [] rfl rfl rfl isAgg56 sizeOf56 (bT9 hpl 9 _ rfl) (fun _ h=>by cases h)) (go 3 ?_)
   refine wc0 rfl call28 rfl (ih (by omega) (aJ.thn q) (m-1) (by have:=hQ.thn;have:=hQ.els;omega) (yW hQ.sane).2.2.2.2.1 (by have:=hQ.thn;have:=hQ.els;omega) (by have:=hQ.thn;have:=hQ.els;omega) _) ?_
   rintro _ _ ⟨⟨t1,m1,rfl,hE1⟩,rfl⟩
   refine go 3 ?_
   refine wyz rfl (dH (z:=11) k rfl rfl rfl rfl hkl runUnderlying56 sizeOf78) ?_
   refine wyz rfl (id <|uX 9 (0+k*11+9) rfl rfl runUnderlying78 rfl sizeOf56 (by decide) rfl) ?_
   refine wo rfl (aO0 (r:=(pr++(bSr q t1)::l.drop (k+1)).flatMap encS) [] rfl rfl rfl rfl rfl sizeOf56 rfl (bTk hpl 9 1 (by decide)) (bTx hpl 9 _ (bSr q t1) (by decide) rfl) (by simp [aY,Value.ownBlock]) (fun _=>by simp [aY,Value.ownBlock]) ?_)
   refine go 8 ?_
   refine wyz rfl (dH (z:=11) k rfl rfl rfl rfl hkl runUnderlying56 sizeOf78) ?_
   refine wyz rfl (id <|uX 10 (0+k*11+10) rfl rfl runUnderlying78 rfl sizeOf56 (by decide) rfl) ?_
   refine wyz rfl (rM [] rfl rfl rfl isAgg56 sizeOf56 (bT9 hpl 10 _ rfl) (fun _ h=>by cases h)) (go 3 ?_)
   refine wc0 rfl call28 rfl (ih (by omega) (aJ.els (bSr q t1)) m1 (by have:=hQ.thn;have:=hQ.els;have:=hE1.lo;have:=hE1.hi;show wtS q.els <= N;omega) (yW hQ.sane).2.2.2.2.2 (by have:=hQ.thn;have:=hQ.els;have:=hE1.lo;have:=hE1.hi;show -1000000000000000+22*(wtS q.els:Int) <= _;omega) (by have:=hQ.thn;have:=hQ.els;have:=hE1.lo;have:=hE1.hi;omega) _) ?_
   rintro _ _ ⟨⟨t2,m2,rfl,hE2⟩,rfl⟩
   refine go 3 ?_
   refine wyz rfl (dH (z:=11) k rfl rfl rfl rfl hkl runUnderlying56 sizeOf78) ?_
   refine wyz rfl (id <|uX 10 (0+k*11+10) rfl rfl runUnderlying78 rfl sizeOf56 (by decide) rfl) ?_
   refine wo rfl (aO0 (r:=(pr++(bSx (bSr q t1) t2)::l.drop (k+1)).flatMap encS) [] rfl rfl rfl rfl rfl sizeOf56 rfl (bTk hpl 10 1 (by decide)) (bTx hpl 10 _ (bSx (bSr q t1) t2) (by decide) rfl) (by simp [aY,Value.ownBlock]) (fun _=>by simp [aY,Value.ownBlock]) ?_)
   refine go 6 ?_
   refine wad rfl (go 2 ?_)
   have hQw:=bTm (bSx (bSr q t1) t2)
   have hwk:=bUi l k hkl
   have hbl:=bTm l[k]
   rw [show pr++(bSx (bSr q t1) t2)::l.drop (k+1)=(pr++[(bSx (bSr q t1) t2)])++l.drop (k+1) by simp]
   have hb9:bS3 (bSx (bSr q t1) t2)=bS3 q:=rfl
   have ht9:wtS (aJ.thn (bSx (bSr q t1) t2))=wtS t1:=rfl
   have he9:wtS (aJ.els (bSx (bSr q t1) t2))=wtS t2:=rfl
   have he8:wtS (aJ.els (bSr q t1))=wtS (aJ.els q):=rfl
   have e1:=hE1.wt
   have e2:=hE2.wt
   have e3:=hQ.base
   have e4:=hQ.thn
   have e5:=hQ.els
   have e6:=hE1.lo
   have e7:=hE2.lo
   have e8:=hE1.hi
   have e9:=hE2.hi
   refine ⟨(k+1,pr++[(bSx (bSr q t1) t2)],m2,(.slice (some ⟨gr,0,none⟩) l.length cr)),⟨by dsimp only;omega,by simp [hpl],bT7 hps ⟨bUc hQ.sane hE1.sane hE2.sane,trivial⟩,by dsimp only;rw [bTw,wtS,wtS];omega,by dsimp only;omega,by dsimp only;omega⟩,by show l.length-(k+1)<l.length-k;omega,(sA rfl)⟩
  refine wcp false rfl (eD h3) (go 7 ?_)
  have hQ:QOk l[k] l[k]:=QOk.self hlk
  refine go 1 ?_
  refine wyz rfl (qC rfl rfl rfl (by omega) (by omega)) (go 9 ?_)
  refine wyz rfl (dH (z:=11) k rfl rfl rfl rfl hkl runUnderlying56 sizeOf78) ?_
  refine wyz rfl (id <|uX 9 (0+k*11+9) rfl rfl runUnderlying78 rfl sizeOf56 (by decide) rfl) ?_
  refine wyz rfl (rM [] rfl rfl rfl isAgg56 sizeOf56 (bT9 hpl 9 _ rfl) (fun _ h=>by cases h)) (go 3 ?_)
  refine wc0 rfl call28 rfl (ih (by omega) (aJ.thn l[k]) (m-1) (by have:=hQ.thn;have:=hQ.els;omega) (yW hQ.sane).2.2.2.2.1 (by have:=hQ.thn;have:=hQ.els;omega) (by have:=hQ.thn;have:=hQ.els;omega) _) ?_
  rintro _ _ ⟨⟨t1,m1,rfl,hE1⟩,rfl⟩
  refine go 3 ?_
  refine wyz rfl (dH (z:=11) k rfl rfl rfl rfl hkl runUnderlying56 sizeOf78) ?_
  refine wyz rfl (id <|uX 9 (0+k*11+9) rfl rfl runUnderlying78 rfl sizeOf56 (by decide) rfl) ?_
  refine wo rfl (aO0 (r:=(pr++(bSr l[k] t1)::l.drop (k+1)).flatMap encS) [] rfl rfl rfl rfl rfl sizeOf56 rfl (bTk hpl 9 1 (by decide)) (bTx hpl 9 _ (bSr l[k] t1) (by decide) rfl) (by simp [aY,Value.ownBlock]) (fun _=>by simp [aY,Value.ownBlock]) ?_)
  refine go 8 ?_
  refine wyz rfl (dH (z:=11) k rfl rfl rfl rfl hkl runUnderlying56 sizeOf78) ?_
  refine wyz rfl (id <|uX 10 (0+k*11+10) rfl rfl runUnderlying78 rfl sizeOf56 (by decide) rfl) ?_
  refine wyz rfl (rM [] rfl rfl rfl isAgg56 sizeOf56 (bT9 hpl 10 _ rfl) (fun _ h=>by cases h)) (go 3 ?_)
  refine wc0 rfl call28 rfl (ih (by omega) (aJ.els (bSr l[k] t1)) m1 (by have:=hQ.thn;have:=hQ.els;have:=hE1.lo;have:=hE1.hi;show wtS l[k].els <= N;omega) (yW hQ.sane).2.2.2.2.2 (by have:=hQ.thn;have:=hQ.els;have:=hE1.lo;have:=hE1.hi;show -1000000000000000+22*(wtS l[k].els:Int) <= _;omega) (by have:=hQ.thn;have:=hQ.els;have:=hE1.lo;have:=hE1.hi;omega) _) ?_
  rintro _ _ ⟨⟨t2,m2,rfl,hE2⟩,rfl⟩
  refine go 3 ?_
  refine wyz rfl (dH (z:=11) k rfl rfl rfl rfl hkl runUnderlying56 sizeOf78) ?_
  refine wyz rfl (id <|uX 10 (0+k*11+10) rfl rfl runUnderlying78 rfl sizeOf56 (by decide) rfl) ?_
  refine wo rfl (aO0 (r:=(pr++(bSx (bSr l[k] t1) t2)::l.drop (k+1)).flatMap encS) [] rfl rfl rfl rfl rfl sizeOf56 rfl (bTk hpl 10 1 (by decide)) (bTx hpl 10 _ (bSx (bSr l[k] t1) t2) (by decide) rfl) (by simp [aY,Value.ownBlock]) (fun _=>by simp [aY,Value.ownBlock]) ?_)
  refine go 6 ?_
  refine wad rfl (go 2 ?_)
  have hQw:=bTm (bSx (bSr l[k] t1) t2)
  have hwk:=bUi l k hkl
  have hbl:=bTm l[k]
  rw [show pr++(bSx (bSr l[k] t1) t2)::l.drop (k+1)=(pr++[(bSx (bSr l[k] t1) t2)])++l.drop (k+1) by simp]
  have hb9:bS3 (bSx (bSr l[k] t1) t2)=bS3 l[k]:=rfl
  have ht9:wtS (aJ.thn (bSx (bSr l[k] t1) t2))=wtS t1:=rfl
  have he9:wtS (aJ.els (bSx (bSr l[k] t1) t2))=wtS t2:=rfl
  have he8:wtS (aJ.els (bSr l[k] t1))=wtS (aJ.els l[k]):=rfl
  have e1:=hE1.wt
  have e2:=hE2.wt
  have e3:=hQ.base
  have e4:=hQ.thn
  have e5:=hQ.els
  have e6:=hE1.lo
  have e7:=hE2.lo
  have e8:=hE1.hi
  have e9:=hE2.hi
  refine ⟨(k+1,pr++[(bSx (bSr l[k] t1) t2)],m2,(.slice (some ⟨gr,0,none⟩) l.length cr)),⟨by dsimp only;omega,by simp [hpl],bT7 hps ⟨bUc hQ.sane hE1.sane hE2.sane,trivial⟩,by dsimp only;rw [bTw,wtS,wtS];omega,by dsimp only;omega,by dsimp only;omega⟩,by show l.length-(k+1)<l.length-k;omega,(sA rfl)⟩
 refine wcp false rfl (jQ h1) (go 10 ?_)
 obtain rfl:k=l.length:=by omega
 rw [List.drop_length,List.append_nil]
 refine aE1 10 rfl ?_
 refine eA 10 rfl (t:=.c (.sl pr.length (pr.flatMap encS))) (by rw [hpl];exact fun _ _ h=>h) ?_
 rw [List.take_length] at hpw hm1
 refine go 7 ?_
 exact ⟨.inr rfl,_,⟨bx,rw⟩,uM rfl (aF rfl) (aF rfl),aA (.refl _) (.refl _),⟨pr,m,rfl,hps,hpw,hm1,hm2⟩,rfl⟩
end
section
open Go.RowKit
def bSy(ops:Array Oper)(m:Nat):Array Oper:=(ops.toList.take m).toArray
def bT0(ops:Array Oper)(j:Nat):List Nat:=match ops.toList[j]? with
 |none=>[]
 |some o=>o.after.toList.filterMap fun e=>if Region.binds .any e then some e.on else none
def bUu(ops:Array Oper):Nat -> List Nat -> List Nat
 |0,c=>c
 |n+1,c=>bUu ops n (c++c.flatMap (bT0 ops))
theorem bUe{ops:Array Oper}{L:Nat -> Prop}(h:∀i o,ops[i]?=some o -> L i -> ∀e∈o.after,Region.binds .any e=true -> L e.on):∀(n:Nat)(c:List Nat),(∀x,x∈c -> L x) -> ∀x,x∈bUu ops n c -> L x
 |0,_,hc=>hc
 |n+1,c,hc=>bUe h n _ fun x hx=>by
  rcases mem_append.1 hx with hx|hx
  ·exact hc x hx
  obtain ⟨y,hy,hxy⟩:=List.mem_flatMap.1 hx
  unfold bT0 at hxy
  rw [Array.getElem?_toList] at hxy
  cases ho:ops[y]? with
  |none=>rw [ho] at hxy;cases hxy
  |some o=>
   rw [ho] at hxy
   obtain ⟨e,he,h2⟩:=List.mem_filterMap.1 hxy
   split at h2
   ·rename_i hb
    cases h2
    exact h y o ho (hc y hy) e (by simpa using he) hb
   cases h2
def bUz(ops:Array Oper)(m:Nat):Bool:=(List.range ops.size).all fun i=>match ops.toList[i]? with
 |none=>true
 |some o=>if i<m then o.guard.isNone && o.after.toList.all (fun e=>!Region.binds .any e||decide (e.on<i)) else (List.range m).all fun j=>(bUu ops 2 (bT0 ops i)).contains j
theorem bT1{P:Program}{md:Region.Mode}{ops:Array Oper}{Q:Exit -> Act -> World -> Prop}:∀(f:Nat)(l:Array Bool)(a:Act)(w:World),wpAny P md ops Q f l a w -> wpAny P md ops Q (f+1) l a w
 |0,_,_,_,h=>⟨fun _=>h.2,fun i hi=>by rw [h.1] at hi;cases hi⟩
 |f+1,_,_,_,h=>⟨h.1,fun i hi=>wpOp_mono (fun a' w' h'=>bT1 f _ a' w' h') (h.2 i hi)⟩
theorem bTs{P:Program}{md:Region.Mode}{ops:Array Oper}{Q:Exit -> Act -> World -> Prop}(f:Nat)(l:Array Bool)(a:Act)(w:World)(h:wpAny P md ops Q f l a w):∀n,wpAny P md ops Q (n+f) l a w
 |0=>by rw [Nat.zero_add];exact h
 |n+1=>by rw [show n+1+f=(n+f)+1 by omega];exact bT1 _ _ _ _ (bTs f l a w h n)
theorem bS4{ops:Array Oper}{m i:Nat}:(bSy ops m)[i]?=if i<m then ops[i]? else none:=by
 unfold bSy
 rw [List.getElem?_toArray,List.getElem?_take,Array.getElem?_toList]
theorem bUp{P:Program}{ops:Array Oper}{Q Q1:Exit -> Act -> World -> Prop}{m f2:Nat}{D:Array Bool}(hc:bUz ops m=true)(hm:m <= ops.size)(hDt:∀j,j<m -> D[j]?=some true)
  (hn:∀a w,Q1 .normal a w -> wpAny P .any ops Q f2 D a w) (hq:∀e a w,e≠.normal -> Q1 e a w -> Q e a w):∀(f:Nat)(l1 l:Array Bool)(a:Act)(w:World),l1.size=m -> l.size=D.size -> m <= D.size -> (∀j,j<m -> l[j]?=l1[j]?) -> (∀j,m <= j -> l[j]?=D[j]?) -> (∀i o,ops[i]?=some o -> l.getD i false=true -> ∀e∈o.after,Region.binds .any e=true -> l.getD e.on false=true) ->
   wpAny P .any (bSy ops m) Q1 f l1 a w -> wpAny P .any ops Q (f+f2) l a w:=by
 have hcs:∀i o,ops[i]?=some o -> if i<m then o.guard=none /\ (∀e∈o.after,Region.binds .any e=true -> e.on<i) else ∀j,j<m -> j∈bUu ops 2 (bT0 ops i):=by
  intro i o ho
  have hi:i<ops.size:=(Array.getElem?_eq_some_iff.1 ho).1
  have h9:=List.all_eq_true.1 hc i (List.mem_range.2 hi)
  rw [Array.getElem?_toList,ho] at h9
  dsimp only at h9
  by_cases him:i<m
  ·rw [if_pos him] at h9⊢
   simp only [Bool.and_eq_true,List.all_eq_true,Bool.or_eq_true,Bool.not_eq_true',decide_eq_true_eq,Option.isNone_iff_eq_none] at h9
   exact ⟨h9.1,fun e he hb=>(h9.2 e (by simpa using he)).resolve_left (by rw [hb];decide)⟩
  rw [if_neg him] at h9⊢
  intro j hj
  have h8:=List.all_eq_true.1 h9 j (List.mem_range.2 hj)
  simpa using h8
 have over:∀(l1 l:Array Bool),l1.size=m -> m <= ops.size -> (∀j,j<m -> l[j]?=l1[j]?) -> Region.ready .any (bSy ops m) l1=[] -> ∀j,j<m -> l1[j]?=some true:=by
  intro l1 l hs hm hl hr j
  induction j using Nat.strongRecOn with
  |_ j ih=>
   intro hj
   by_cases h:l1.getD j true=false
   ·exfalso
    have hop:(bSy ops m)[j]?=some (ops[j]'(by omega)):=by rw [bS4,if_pos hj,Array.getElem?_eq_getElem]
    have hin:j∈Region.ready .any (bSy ops m) l1:=by
     refine mem_ready.2 ⟨h,_,hop,fun e he hb=>?_⟩
     have h2:=hcs j _ (Array.getElem?_eq_getElem (by omega:j<ops.size))
     rw [if_pos hj] at h2
     have h3:=h2.2 e he hb
     have h4:=ih e.on h3 (by omega)
     simp [Array.getD_eq_getD_getElem?,h4]
    rw [hr] at hin;cases hin
   have hj2:j<l1.size:=by omega
   rw [Array.getElem?_eq_getElem hj2]
   simp only [Array.getD_eq_getD_getElem?,Array.getElem?_eq_getElem hj2,Option.getD_some] at h
   simpa using h
 have same:∀(l1 l:Array Bool),l1.size=m -> l.size=D.size -> (∀j,j<m -> l[j]?=l1[j]?) -> (∀j,m <= j -> l[j]?=D[j]?) -> Region.ready .any (bSy ops m) l1=[] -> l=D:=by
  intro l1 l hs1 hs2 he1 he2 hr
  refine Array.ext_getElem? fun j=>?_
  by_cases hj:j<m
  ·rw [he1 j hj,over l1 l hs1 hm he1 hr j hj,hDt j hj]
  exact he2 j (by omega)
 have getD_eq:∀(l1 l:Array Bool)(j:Nat)(d:Bool),l[j]?=l1[j]? -> l.getD j d=l1.getD j d:=fun l1 l j d h=>by
  rw [Array.getD_eq_getD_getElem?,Array.getD_eq_getD_getElem?,h]
 intro f
 induction f with
 |zero=>
  intro l1 l a w hs1 hs2 hmD he1 he2 hcl H
  rw [Nat.zero_add,same l1 l hs1 hs2 he1 he2 H.1]
  exact hn a w H.2
 |succ f ih=>
  intro l1 l a w hs1 hs2 hmD he1 he2 hcl H
  by_cases hr:Region.ready .any (bSy ops m) l1=[]
  ·rw [same l1 l hs1 hs2 he1 he2 hr]
   exact bTs f2 _ _ _ (hn a w (H.1 hr)) (f+1)
  obtain ⟨k,hk⟩:=List.exists_mem_of_ne_nil _ hr
  obtain ⟨hku,ok,hok,hkall⟩:=mem_ready.1 hk
  have hkm:k<m:=by
   by_cases h:k<m
   ·exact h
   rw [bS4,if_neg h] at hok;cases hok
  rw [bS4,if_pos hkm] at hok
  have hk1:l1[k]?=some false:=by
   have hks:k<l1.size:=by omega
   rw [Array.getD_eq_getD_getElem?,Array.getElem?_eq_getElem hks] at hku
   rw [Array.getElem?_eq_getElem hks];simpa using hku
  rw [show f+1+f2=(f+f2)+1 by omega]
  refine ⟨fun h0=>?_,fun i hi=>?_⟩
  ·exfalso
   have hin:k∈Region.ready .any ops l:=by
    refine mem_ready.2 ⟨by rw [getD_eq l1 l k true (he1 k hkm)];exact hku,ok,hok,fun e he hb=>?_⟩
    have h2:=hcs k ok hok
    rw [if_pos hkm] at h2
    have h3:=h2.2 e he hb
    rw [getD_eq l1 l e.on false (he1 _ (by omega))]
    exact hkall e he hb
   rw [h0] at hin;cases hin
  obtain ⟨hiu,o,ho,hall⟩:=mem_ready.1 hi
  have h2:=hcs i o ho
  by_cases him:i<m
  ·rw [if_pos him] at h2
   have ho1:(bSy ops m)[i]?=some o:=by rw [bS4,if_pos him];exact ho
   have hi1:i∈Region.ready .any (bSy ops m) l1:=by
    refine mem_ready.2 ⟨by rw [←getD_eq l1 l i true (he1 i him)];exact hiu,o,ho1,fun e he hb=>?_⟩
    have h3:=h2.2 e he hb
    rw [←getD_eq l1 l e.on false (he1 _ (by omega))]
    exact hall e he hb
   have h4:=H.2 i hi1
   have hw:∀y,Region.wanted o y=true:=fun y=>by unfold Region.wanted;rw [h2.1]
   unfold wpOp at h4⊢
   rw [ho1] at h4
   rw [ho]
   dsimp only at h4⊢
   rw [if_pos (hw _)] at h4⊢
   have hL:LetsOut Q1 -> LetsOut Q:=fun ⟨a,w,h⟩=>⟨a,w,hq _ a w (by simp) h⟩
   rcases h4 with h4|⟨h5,h6⟩
   ·refine .inl (Oper.wp_mono2 (fun a' w' h'=>ih (l1.setIfInBounds i true) (l.setIfInBounds i true) a' w' (by simpa using hs1) (by simpa using hs2) hmD (fun j hj=>?_) (fun j hj=>?_) (fun q oq hoq hlq e he hb=>?_) h') hq hL h4)
    ·rw [Array.getElem?_setIfInBounds,Array.getElem?_setIfInBounds]
     by_cases hij:i=j
     ·rw [if_pos hij,if_pos hij,if_pos (by omega),if_pos (by omega)]
     rw [if_neg hij,if_neg hij];exact he1 j hj
    ·rw [Array.getElem?_setIfInBounds,if_neg (by omega)];exact he2 j hj
    have hup:∀z,l.getD z false=true -> (l.setIfInBounds i true).getD z false=true:=fun z hz=>by
     rw [Array.getD_eq_getD_getElem?] at hz⊢
     rw [Array.getElem?_setIfInBounds]
     split
     ·split
      ·rfl
      rw [Array.getElem?_eq_none (by omega)] at hz;cases hz
     exact hz
    by_cases hqi:i=q
    ·subst hqi
     obtain rfl:=Option.some.inj (ho.symm.trans hoq)
     exact hup _ (hall e he hb)
    refine hup _ (hcl q oq hoq ?_ e he hb)
    rw [Array.getD_eq_getD_getElem?,Array.getElem?_setIfInBounds,if_neg hqi] at hlq
    rw [Array.getD_eq_getD_getElem?];exact hlq
   exact .inr ⟨h5,hL h6⟩
  exfalso
  rw [if_neg him] at h2
  have h3:l.getD k false=true:=bUe (L:=fun z=>l.getD z false=true) hcl 2 _ (fun x hx=>by
   unfold bT0 at hx
   rw [Array.getElem?_toList,ho] at hx
   obtain ⟨e,he,h2⟩:=List.mem_filterMap.1 hx
   split at h2
   ·rename_i hb
    cases h2
    exact hall e (by simpa using he) hb
   cases h2) k (h2 k hkm)
  rw [getD_eq l1 l k false (he1 k hkm),Array.getD_eq_getD_getElem?,hk1] at h3
  cases h3
theorem bT3{P:Program}{id:Nat}{ops:Array Oper}{st:AS}{Q:Exit -> AS -> Prop}(m:Nat)(Z1 Z2:List Nat)(D:Array Bool)(hm:P.follows .mixedOrders=true)(hc:(bUz ops m,decide (m <= ops.size),decide (D.size=ops.size),(List.range m).all (fun j=>D[j]? == some true),(List.range ops.size).all (fun j=>decide (j<m)||D[j]? == some false))=(true,true,true,true,true))
  (h:lD P (bSy ops m) Z1 m (Array.replicate m false) st (fun st'=>lD P ops Z2 (ops.size-m) D st' (Q .normal))):AWp P (.region id ops true) st Q:=by
 simp only [Prod.mk.injEq,decide_eq_true_eq,List.all_eq_true,List.mem_range,beq_iff_eq,Bool.or_eq_true] at hc
 obtain ⟨hc1,hc2,hc3,hc4,hc5⟩:=hc
 intro a w hs QQ hQ
 refine Code.wp_mono (Q:=fun e a' w'=>match e with|.normal=>QQ .normal a' w'|_=>False) (fun e a' w' q=>by cases e<;>first|exact q|exact q.elim) ?_
 refine wp_region_any hm ?_
 show wpAny P .any ops _ ops.size (Array.replicate ops.size false) a w.drew
 rw [show ops.size=m+(ops.size-m) by omega]
 refine bUp (Q1:=fun e a' w'=>match e with|.normal=>∃st',lD P ops Z2 (ops.size-m) D st' (Q .normal) /\ Sim st' a' w' /\ Ext st w.drew st' w'|_=>False) (D:=D) hc1 hc2 hc4 ?_ ?_ m (Array.replicate m false) _ a w.drew (by simp) (by simp;omega) (by omega) (fun j hj=>?_) (fun j hj=>?_) (fun i o _ h=>?_) ?_
 ·rintro a' w' ⟨st',h1,h2,h3⟩
  exact wpAny_of_held _ _ _ _ (h1 a' w' h2 _ (fun _ _ _ q=>q) fun a2 w2 st2 q2 s2 k2=>hQ _ a2 w2 st2 q2 s2 (by
   have k:=h3.trans k2
   exact ⟨⟨k.keep.os,k.keep.tape,k.keep.output,k.keep.size,k.keep.block⟩,⟨k.keepT.os,k.keepT.tape,k.keepT.output,k.keepT.size,k.keepT.block⟩,k.bl,k.T⟩))
 ·intro e a' w' he q
  cases e with
  |normal=>exact absurd rfl he
  |_=>exact q.elim
 ·rw [Array.getElem?_replicate,Array.getElem?_replicate,if_pos (by omega),if_pos hj]
 ·rw [Array.getElem?_replicate]
  by_cases hjn:j<ops.size
  ·rw [if_pos (by omega),(hc5 j hjn).resolve_left (by omega)]
  rw [if_neg (by omega),Array.getElem?_eq_none (by omega)]
 ·exfalso
  rw [Array.getD_eq_getD_getElem?,Array.getElem?_replicate] at h
  split at h<;>cases h
 exact wpAny_of_held _ _ _ _ (h a w.drew hs.drew _ (fun _ _ _ q=>q) fun a' w' st' q s' k=>⟨st',q,s',k⟩)
theorem bTy{P:Program}{id:Nat}{l l1 l2:List Oper}{st:AS}{Q:Exit -> AS -> Prop}(m:Nat)(Z1 Z2:List Nat)(D:Array Bool)[hs:vT m l l1 l2](hm:P.follows .mixedOrders=true)(hc:(bUz l.toArray m,decide (m <= l.toArray.size),decide (D.size=l.toArray.size),(List.range m).all (fun j=>D[j]? == some true),(List.range l.toArray.size).all (fun j=>decide (j<m)||D[j]? == some false))=(true,true,true,true,true))(h1:l1.length=m)
  (h:lD P l1.toArray Z1 m (Array.replicate m false) st (fun st'=>lD P l.toArray Z2 (l.toArray.size-m) D st' (Q .normal))):AWp P (.region id l.toArray true) st Q:=by
 refine bT3 m Z1 Z2 D hm hc ?_
 rw [show bSy l.toArray m=l1.toArray by unfold bSy;rw [hs.h];simp only;rw [List.take_left' h1]]
 exact h
end
end Go.Proofs.YtojinfngbbajgaaGreatDoor
