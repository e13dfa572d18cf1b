import Derived.Test.YtojinfngbbajgaaGreatDoorF5J
import Derived.Test.YtojinfngbbajgaaGreatDoorF20J
import Derived.Test.YtojinfngbbajgaaGreatDoorF22J
set_option linter.all false
set_option synthInstance.maxHeartbeats 1000000
set_option synthInstance.maxSize 1000000
set_option maxHeartbeats 1600000
set_option maxRecDepth 100000
namespace Go.Proofs.YtojinfngbbajgaaGreatDoor
open Go.Proofs.Tryz
open List (length_append length_cons length_nil mem_append mem_cons not_mem_nil append_assoc getElem_mem take_of_length_le)
section
open Go.RowKit
def bLm{α:Type}(f:α -> Bool):List α -> Int
 |[]=>-1
 |x::l=>if f x then 0 else if bLm f l<0 then -1 else bLm f l+1
theorem bL4{α:Type}(f:α -> Bool):∀(l:List α)(k:Nat)(h:k<l.length),(∀i (h:i<l.length),i<k -> f l[i]=false) -> f l[k]=true -> bLm f l=k
 |x::l,0,_,_,h1=>by simp only [List.getElem_cons_zero] at h1;rw [bLm,if_pos h1];rfl
 |x::l,k+1,h,h0,h1=>by
  have hx:f x=false:=h0 0 (by simp) (by omega)
  have ih:=bL4 f l k (by simpa using h) (fun i hi hik=>h0 (i+1) (by simpa using hi) (by omega)) (by simpa using h1)
  rw [bLm,hx,if_neg (by decide),ih,if_neg (by omega)];omega
theorem bL5{α:Type}(f:α -> Bool):∀(l:List α),(∀i (h:i<l.length),f l[i]=false) -> bLm f l=-1
 |[],_=>rfl
 |x::l,h0=>by
  have hx:f x=false:=h0 0 (by simp)
  have ih:=bL5 f l (fun i hi=>h0 (i+1) (by simpa using hi))
  rw [bLm,hx,if_neg (by decide),ih,if_pos (by decide)]
theorem bLt{α:Type}(f:α -> Bool):∀(l:List α),(0 <= bLm f l↔l.any f=true) /\ -1 <= bLm f l
 |[]=>⟨by simp [bLm],by rw [bLm];omega⟩
 |x::l=>by
  have ih:=bLt f l
  rw [bLm,List.any_cons]
  cases hx:f x with
  |true=>simp
  |false=>
   rw [if_neg (by decide),Bool.false_or]
   split
   ·rename_i hl
    refine ⟨⟨fun h=>absurd h (by decide),fun h=>?_⟩,by decide⟩
    have:=ih.1.2 h;omega
   exact ⟨⟨fun h=>ih.1.1 (by omega),fun h=>by have:=ih.1.2 h;omega⟩,by omega⟩
theorem bNi{α:Type}{f:α -> Bool}{l:List α}(h:¬0 <= bLm f l):l.any f=false:=Bool.eq_false_iff.2 fun hh=>h ((bLt f l).1.2 hh)
theorem bPq{α:Type}(f:α -> Bool)(l:List α):(l.any fun x=>!f x)=!l.all f:=by
 induction l with
 |nil=>rfl
 |cons x l ih=>rw [List.any_cons,List.all_cons,ih,Bool.not_and]
theorem bMp(r:cY):okRefB r=(bQ r.name && decide (r.index.length <= 1) && !r.index.any fun e=>!dM e):=by
 obtain ⟨n,ix⟩:=r
 match ix with
 |[]=>unfold okRefB;simp
 |[e]=>unfold okRefB;simp
 |_::_::_=>unfold okRefB;simp
def d1(s:aJ):Bool:=isN s && !bQ s.name
def d2(s:aJ):Bool:=!isN s && !decide (s.name=aK)
def d3(s:aJ):Bool:=isE s && !dM s.expr
def d4(s:aJ):Bool:=!isE s && !bLg s.expr
def d5(s:aJ):Bool:=isR s && !okRefB s.ref
def d6(s:aJ):Bool:=!isR s && !kM s.ref
def d7(s:aJ):Bool:=!isC s && !decide (s.args.length=0)
def d8(s:aJ):Bool:=!isB s && !decide (s.thn.length=0)
def isI(s:aJ):Bool:=decide (s.kind=7)
def d9(s:aJ):Bool:=!isI s && !decide (s.els.length=0)
def e1(D:Nat)(s:aJ):Bool:=!isB s||(bM (D+1) s.thn && (decide (s.els.length=0)||bM (D+1) s.els))
theorem bLr(D:Nat)(s:aJ):bK9 D s=(!aG7 s && !d1 s && !d2 s && !d3 s && !d4 s && !d5 s && !d6 s && !d7 s && !d8 s && !d9 s && s.args.all fY && e1 D s):=by
 rw [kN]
 have h1:aHl s=(aG7 s||d1 s||d2 s||d3 s||d4 s||d5 s||d6 s||d7 s):=rfl
 have h2:isI s=true -> isB s=true:=fun h=>by unfold isI at h;unfold isB;simp only [decide_eq_true_eq] at h⊢;omega
 have h3:aOc D s=(!d8 s && !d9 s && e1 D s):=by
  unfold aOc d8 d9 e1
  rw [show decide (s.kind=7)=isI s from rfl]
  cases hB:isB s with
  |false=>
   have hI:isI s=false:=by cases h:isI s with|false=>rfl|true=>rw [h2 h] at hB;cases hB
   rw [hI];cases decide (s.thn.length=0)<;>cases decide (s.els.length=0)<;>rfl
  |true=>cases isI s<;>cases decide (s.thn.length=0)<;>cases decide (s.els.length=0)<;>cases bM (D+1) s.thn<;>cases bM (D+1) s.els<;>rfl
 rw [h1,h3]
 generalize e1 D s=x
 generalize s.args.all fY=y
 cases aG7 s<;>cases d1 s<;>cases d2 s<;>cases d3 s<;>cases d4 s<;>(try rfl)<;>cases d5 s<;>cases d6 s<;>cases d7 s<;>(try rfl)<;>cases d8 s<;>cases d9 s<;>cases y<;>cases x<;>rfl
theorem bLq(D:Nat):∀l:List aJ,bM D l=(decide (D<24) && l.all (bK9 D))
 |[]=>by rw [bM,List.all_nil,Bool.and_true]
 |s::l=>by
  rw [bM,bLq D l,List.all_cons]
  cases bK9 D s<;>cases decide (D<24)<;>rfl
theorem bQl(g:bS -> Bool)(l:List bS)(F:FuncId)(cap:Array Value)(s:Sto)(hl:l.length <= 1000000000)(hcf:∀args w,(callFunc F args).run prog w=.ok (.enter F args) w)(hc:∀k (h:k<l.length),aL prog F (bK5 (.agg (fV l[k]))::cap.toList.map cst) [] s fun t s'=>t=.c (.val (.bool (g l[k]))) /\ s'=s):aL prog 111 [bK5 (.c (.sl l.length (l.flatMap fV))),.c (.val (.func (.func F) #[] cap))] [] s fun t s'=>t=.c (.val (.int .i64 (bLm g l))) /\ s'=s:=by
 obtain ⟨bx,rw⟩:=s
 refine acB func111 rfl ?_
 show AWp prog _ ⟨19,_,⟨bx,rw⟩,[(0,bK5 (.c (.sl l.length (l.flatMap fV)))),(1,.c (.val (.func (.func F) #[] cap)))]⟩ _
 refine go 14 ?_
 refine lE (fun k=>∀i (h:i<l.length),i<k -> g l[i]=false) (l.length) 8 (fun k=>[(0,bK5 (.c (.sl l.length (l.flatMap fV)))),(1,.c (.val (.func (.func F) #[] cap))),(7,nI l.length)]) (fun _ _ h=>absurd h (by omega)) (sA rfl) fun k hk hvk=>?_
 replace hvk:∀i (h:i<l.length),i<k -> g l[i]=false:=hvk
 show AWp prog _ ⟨19,_,_,(8,nI k)::[(0,bK5 (.c (.sl l.length (l.flatMap fV)))),(1,.c (.val (.func (.func F) #[] cap))),(7,nI l.length)]⟩ _
 refine go 2 ?_
 by_cases h1:((k:Nat):Int)<((l.length:Nat):Int)
 ·refine wcp true rfl (jZ h1) (go 19 ?_)
  refine wyz rfl (bH fV fV l vC (fun _=>rfl) k rfl rfl rfl rfl (by omega) (by decide) runUnderlying28 sizeOf58) (go 1 ?_)
  rcases Bool.eq_false_or_eq_true (g l[k]) with h3|h3
  ·refine bNo 0 rfl hcf rfl (hc k (by omega)) h3 ?_
   refine go 15 ?_
   exact bHe (s':=⟨bx,rw⟩) rfl sb0 ⟨aPy (bL4 g l k (by omega) (fun i hi hik=>hvk i hi hik) h3),rfl⟩
  refine bNo 0 rfl hcf rfl (hc k (by omega)) h3 ?_
  refine go 7 ?_
  refine wad rfl (go 2 ?_)
  exact ⟨by omega,(fun i hi hlt2=>(Nat.lt_or_ge i k).elim (fun h9=>hvk i hi h9) (fun h9=>by have h8:i=k:=(by omega);subst h8;exact h3)),(aG rfl (gQ (by omega)) (sA rfl))⟩
 refine wcp false rfl (jQ h1) (go 15 ?_)
 exact bHe (s':=⟨bx,rw⟩) rfl sb0 ⟨aPy (bL5 g l (fun i hi=>hvk i hi (by omega))),rfl⟩
theorem bNy(g:bS -> Bool)(l:List bS)(F:FuncId)(cap:Array Value)(s:Sto)(hl:l.length <= 1000000000)(hcf:∀args w,(callFunc F args).run prog w=.ok (.enter F args) w)(hc:∀k (h:k<l.length),aL prog F (bK5 (.agg (fV l[k]))::cap.toList.map cst) [] s fun t s'=>t=.c (.val (.bool (g l[k]))) /\ s'=s):aL prog 72 [bK5 (.c (.sl l.length (l.flatMap fV))),.c (.val (.func (.func F) #[] cap))] [] s fun t s'=>t=.c (.val (.bool (l.any g))) /\ s'=s:=by
 obtain ⟨bx,rw⟩:=s
 refine acB func72 rfl ?_
 show AWp prog _ ⟨9,_,⟨bx,rw⟩,[(0,bK5 (.c (.sl l.length (l.flatMap fV)))),(1,.c (.val (.func (.func F) #[] cap)))]⟩ _
 refine go 9 ?_
 refine wcR 0 rfl call111 rfl (bQl g l F cap _ hl hcf hc) ?_
 by_cases h1:(0:Int) <= bLm g l
 ·refine wcp true rfl (aMq h1) (go 4 ?_)
  exact bHe (s':=⟨bx,rw⟩) rfl sb0 ⟨cX ((bLt g l).1.1 h1),rfl⟩
 refine wcp false rfl (aMx h1) (go 4 ?_)
 exact bHe (s':=⟨bx,rw⟩) rfl sb0 ⟨cX (bNi h1),rfl⟩
theorem bQe(g:aS -> Bool)(l:List aS)(F:FuncId)(cap:Array Value)(s:Sto)(hl:l.length <= 1000000000)(hcf:∀args w,(callFunc F args).run prog w=.ok (.enter F args) w)(hc:∀k (h:k<l.length),aL prog F (bK5 (.agg (cP l[k]))::cap.toList.map cst) [] s fun t s'=>t=.c (.val (.bool (g l[k]))) /\ s'=s):aL prog 143 [bK5 (.c (.sl l.length (l.flatMap cP))),.c (.val (.func (.func F) #[] cap))] [] s fun t s'=>t=.c (.val (.int .i64 (bLm g l))) /\ s'=s:=by
 obtain ⟨bx,rw⟩:=s
 refine acB func143 rfl ?_
 show AWp prog _ ⟨19,_,⟨bx,rw⟩,[(0,bK5 (.c (.sl l.length (l.flatMap cP)))),(1,.c (.val (.func (.func F) #[] cap)))]⟩ _
 refine go 14 ?_
 refine lE (fun k=>∀i (h:i<l.length),i<k -> g l[i]=false) (l.length) 8 (fun k=>[(0,bK5 (.c (.sl l.length (l.flatMap cP)))),(1,.c (.val (.func (.func F) #[] cap))),(7,nI l.length)]) (fun _ _ h=>absurd h (by omega)) (sA rfl) fun k hk hvk=>?_
 replace hvk:∀i (h:i<l.length),i<k -> g l[i]=false:=hvk
 show AWp prog _ ⟨19,_,_,(8,nI k)::[(0,bK5 (.c (.sl l.length (l.flatMap cP)))),(1,.c (.val (.func (.func F) #[] cap))),(7,nI l.length)]⟩ _
 refine go 2 ?_
 by_cases h1:((k:Nat):Int)<((l.length:Nat):Int)
 ·refine wcp true rfl (jZ h1) (go 19 ?_)
  refine wyz rfl (bH cP cP l gL (fun _=>rfl) k rfl rfl rfl rfl (by omega) (by decide) runUnderlying55 sizeOf89) (go 1 ?_)
  rcases Bool.eq_false_or_eq_true (g l[k]) with h3|h3
  ·refine bNo 0 rfl hcf rfl (hc k (by omega)) h3 ?_
   refine go 15 ?_
   exact bHe (s':=⟨bx,rw⟩) rfl sb0 ⟨aPy (bL4 g l k (by omega) (fun i hi hik=>hvk i hi hik) h3),rfl⟩
  refine bNo 0 rfl hcf rfl (hc k (by omega)) h3 ?_
  refine go 7 ?_
  refine wad rfl (go 2 ?_)
  exact ⟨by omega,(fun i hi hlt2=>(Nat.lt_or_ge i k).elim (fun h9=>hvk i hi h9) (fun h9=>by have h8:i=k:=(by omega);subst h8;exact h3)),(aG rfl (gQ (by omega)) (sA rfl))⟩
 refine wcp false rfl (jQ h1) (go 15 ?_)
 exact bHe (s':=⟨bx,rw⟩) rfl sb0 ⟨aPy (bL5 g l (fun i hi=>hvk i hi (by omega))),rfl⟩
theorem bNh(g:aS -> Bool)(l:List aS)(F:FuncId)(cap:Array Value)(s:Sto)(hl:l.length <= 1000000000)(hcf:∀args w,(callFunc F args).run prog w=.ok (.enter F args) w)(hc:∀k (h:k<l.length),aL prog F (bK5 (.agg (cP l[k]))::cap.toList.map cst) [] s fun t s'=>t=.c (.val (.bool (g l[k]))) /\ s'=s):aL prog 112 [bK5 (.c (.sl l.length (l.flatMap cP))),.c (.val (.func (.func F) #[] cap))] [] s fun t s'=>t=.c (.val (.bool (l.any g))) /\ s'=s:=by
 obtain ⟨bx,rw⟩:=s
 refine acB func112 rfl ?_
 show AWp prog _ ⟨9,_,⟨bx,rw⟩,[(0,bK5 (.c (.sl l.length (l.flatMap cP)))),(1,.c (.val (.func (.func F) #[] cap)))]⟩ _
 refine go 9 ?_
 refine wcR 0 rfl call143 rfl (bQe g l F cap _ hl hcf hc) ?_
 by_cases h1:(0:Int) <= bLm g l
 ·refine wcp true rfl (aMq h1) (go 4 ?_)
  exact bHe (s':=⟨bx,rw⟩) rfl sb0 ⟨cX ((bLt g l).1.1 h1),rfl⟩
 refine wcp false rfl (aMx h1) (go 4 ?_)
 exact bHe (s':=⟨bx,rw⟩) rfl sb0 ⟨cX (bNi h1),rfl⟩
theorem bRb(g:aJ -> Bool)(l:List aJ)(F:FuncId)(cap:Array Value)(s:Sto)(hl:l.length <= 1000000000)(hcf:∀args w,(callFunc F args).run prog w=.ok (.enter F args) w)(hc:∀k (h:k<l.length),aL prog F (bK5 (.agg (dG l[k]))::cap.toList.map cst) [] s fun t s'=>t=.c (.val (.bool (g l[k]))) /\ s'=s):aL prog 170 [bK5 (.c (.sl l.length (l.flatMap encS))),.c (.val (.func (.func F) #[] cap))] [] s fun t s'=>t=.c (.val (.int .i64 (bLm g l))) /\ s'=s:=by
 obtain ⟨bx,rw⟩:=s
 refine acB func170 rfl ?_
 show AWp prog _ ⟨19,_,⟨bx,rw⟩,[(0,bK5 (.c (.sl l.length (l.flatMap encS)))),(1,.c (.val (.func (.func F) #[] cap)))]⟩ _
 refine go 14 ?_
 refine lE (fun k=>∀i (h:i<l.length),i<k -> g l[i]=false) (l.length) 8 (fun k=>[(0,bK5 (.c (.sl l.length (l.flatMap encS)))),(1,.c (.val (.func (.func F) #[] cap))),(7,nI l.length)]) (fun _ _ h=>absurd h (by omega)) (sA rfl) fun k hk hvk=>?_
 replace hvk:∀i (h:i<l.length),i<k -> g l[i]=false:=hvk
 show AWp prog _ ⟨19,_,_,(8,nI k)::[(0,bK5 (.c (.sl l.length (l.flatMap encS)))),(1,.c (.val (.func (.func F) #[] cap))),(7,nI l.length)]⟩ _
 refine go 2 ?_
 by_cases h1:((k:Nat):Int)<((l.length:Nat):Int)
 ·refine wcp true rfl (jZ h1) (go 19 ?_)
  refine wyz rfl (bH encS dG l mE cJ k rfl rfl rfl rfl (by omega) (by decide) runUnderlying56 sizeOf78) (go 1 ?_)
  rcases Bool.eq_false_or_eq_true (g l[k]) with h3|h3
  ·refine bNo 0 rfl hcf rfl (hc k (by omega)) h3 ?_
   refine go 15 ?_
   exact bHe (s':=⟨bx,rw⟩) rfl sb0 ⟨aPy (bL4 g l k (by omega) (fun i hi hik=>hvk i hi hik) h3),rfl⟩
  refine bNo 0 rfl hcf rfl (hc k (by omega)) h3 ?_
  refine go 7 ?_
  refine wad rfl (go 2 ?_)
  exact ⟨by omega,(fun i hi hlt2=>(Nat.lt_or_ge i k).elim (fun h9=>hvk i hi h9) (fun h9=>by have h8:i=k:=(by omega);subst h8;exact h3)),(aG rfl (gQ (by omega)) (sA rfl))⟩
 refine wcp false rfl (jQ h1) (go 15 ?_)
 exact bHe (s':=⟨bx,rw⟩) rfl sb0 ⟨aPy (bL5 g l (fun i hi=>hvk i hi (by omega))),rfl⟩
theorem bN0(g:aJ -> Bool)(l:List aJ)(F:FuncId)(cap:Array Value)(s:Sto)(hl:l.length <= 1000000000)(hcf:∀args w,(callFunc F args).run prog w=.ok (.enter F args) w)(hc:∀k (h:k<l.length),aL prog F (bK5 (.agg (dG l[k]))::cap.toList.map cst) [] s fun t s'=>t=.c (.val (.bool (g l[k]))) /\ s'=s):aL prog 144 [bK5 (.c (.sl l.length (l.flatMap encS))),.c (.val (.func (.func F) #[] cap))] [] s fun t s'=>t=.c (.val (.bool (l.any g))) /\ s'=s:=by
 obtain ⟨bx,rw⟩:=s
 refine acB func144 rfl ?_
 show AWp prog _ ⟨9,_,⟨bx,rw⟩,[(0,bK5 (.c (.sl l.length (l.flatMap encS)))),(1,.c (.val (.func (.func F) #[] cap)))]⟩ _
 refine go 9 ?_
 refine wcR 0 rfl call170 rfl (bRb g l F cap _ hl hcf hc) ?_
 by_cases h1:(0:Int) <= bLm g l
 ·refine wcp true rfl (aMq h1) (go 4 ?_)
  exact bHe (s':=⟨bx,rw⟩) rfl sb0 ⟨cX ((bLt g l).1.1 h1),rfl⟩
 refine wcp false rfl (aMx h1) (go 4 ?_)
 exact bHe (s':=⟨bx,rw⟩) rfl sb0 ⟨cX (bNi h1),rfl⟩
theorem bRs(g:eN -> Bool)(l:List eN)(F:FuncId)(cap:Array Value)(s:Sto)(hl:l.length <= 1000000000)(hcf:∀args w,(callFunc F args).run prog w=.ok (.enter F args) w)(hc:∀k (h:k<l.length),aL prog F (bK5 (.agg (eJ l[k]))::cap.toList.map cst) [] s fun t s'=>t=.c (.val (.bool (g l[k]))) /\ s'=s):aL prog 207 [bK5 (.c (.sl l.length (l.flatMap eJ))),.c (.val (.func (.func F) #[] cap))] [] s fun t s'=>t=.c (.val (.int .i64 (bLm g l))) /\ s'=s:=by
 obtain ⟨bx,rw⟩:=s
 refine acB func207 rfl ?_
 show AWp prog _ ⟨19,_,⟨bx,rw⟩,[(0,bK5 (.c (.sl l.length (l.flatMap eJ)))),(1,.c (.val (.func (.func F) #[] cap)))]⟩ _
 refine go 14 ?_
 refine lE (fun k=>∀i (h:i<l.length),i<k -> g l[i]=false) (l.length) 8 (fun k=>[(0,bK5 (.c (.sl l.length (l.flatMap eJ)))),(1,.c (.val (.func (.func F) #[] cap))),(7,nI l.length)]) (fun _ _ h=>absurd h (by omega)) (sA rfl) fun k hk hvk=>?_
 replace hvk:∀i (h:i<l.length),i<k -> g l[i]=false:=hvk
 show AWp prog _ ⟨19,_,_,(8,nI k)::[(0,bK5 (.c (.sl l.length (l.flatMap eJ)))),(1,.c (.val (.func (.func F) #[] cap))),(7,nI l.length)]⟩ _
 refine go 2 ?_
 by_cases h1:((k:Nat):Int)<((l.length:Nat):Int)
 ·refine wcp true rfl (jZ h1) (go 19 ?_)
  refine wyz rfl (bH eJ eJ l iD (fun _=>rfl) k rfl rfl rfl rfl (by omega) (by decide) runUnderlying76 sizeOf141) (go 1 ?_)
  rcases Bool.eq_false_or_eq_true (g l[k]) with h3|h3
  ·refine bNo 0 rfl hcf rfl (hc k (by omega)) h3 ?_
   refine go 15 ?_
   exact bHe (s':=⟨bx,rw⟩) rfl sb0 ⟨aPy (bL4 g l k (by omega) (fun i hi hik=>hvk i hi hik) h3),rfl⟩
  refine bNo 0 rfl hcf rfl (hc k (by omega)) h3 ?_
  refine go 7 ?_
  refine wad rfl (go 2 ?_)
  exact ⟨by omega,(fun i hi hlt2=>(Nat.lt_or_ge i k).elim (fun h9=>hvk i hi h9) (fun h9=>by have h8:i=k:=(by omega);subst h8;exact h3)),(aG rfl (gQ (by omega)) (sA rfl))⟩
 refine wcp false rfl (jQ h1) (go 15 ?_)
 exact bHe (s':=⟨bx,rw⟩) rfl sb0 ⟨aPy (bL5 g l (fun i hi=>hvk i hi (by omega))),rfl⟩
theorem bMq(g:eN -> Bool)(l:List eN)(F:FuncId)(cap:Array Value)(s:Sto)(hl:l.length <= 1000000000)(hcf:∀args w,(callFunc F args).run prog w=.ok (.enter F args) w)(hc:∀k (h:k<l.length),aL prog F (bK5 (.agg (eJ l[k]))::cap.toList.map cst) [] s fun t s'=>t=.c (.val (.bool (g l[k]))) /\ s'=s):aL prog 176 [bK5 (.c (.sl l.length (l.flatMap eJ))),.c (.val (.func (.func F) #[] cap))] [] s fun t s'=>t=.c (.val (.bool (l.any g))) /\ s'=s:=by
 obtain ⟨bx,rw⟩:=s
 refine acB func176 rfl ?_
 show AWp prog _ ⟨9,_,⟨bx,rw⟩,[(0,bK5 (.c (.sl l.length (l.flatMap eJ)))),(1,.c (.val (.func (.func F) #[] cap)))]⟩ _
 refine go 9 ?_
 refine wcR 0 rfl call207 rfl (bRs g l F cap _ hl hcf hc) ?_
 by_cases h1:(0:Int) <= bLm g l
 ·refine wcp true rfl (aMq h1) (go 4 ?_)
  exact bHe (s':=⟨bx,rw⟩) rfl sb0 ⟨cX ((bLt g l).1.1 h1),rfl⟩
 refine wcp false rfl (aMx h1) (go 4 ?_)
 exact bHe (s':=⟨bx,rw⟩) rfl sb0 ⟨cX (bNi h1),rfl⟩
theorem bQ2(g:aH -> Bool)(l:List aH)(F:FuncId)(cap:Array Value)(s:Sto)(hl:l.length <= 1000000000)(hcf:∀args w,(callFunc F args).run prog w=.ok (.enter F args) w)(hc:∀k (h:k<l.length),aL prog F (bK5 (.agg (cU l[k]))::cap.toList.map cst) [] s fun t s'=>t=.c (.val (.bool (g l[k]))) /\ s'=s):aL prog 225 [bK5 (.c (.sl l.length (l.flatMap fO))),.c (.val (.func (.func F) #[] cap))] [] s fun t s'=>t=.c (.val (.int .i64 (bLm g l))) /\ s'=s:=by
 obtain ⟨bx,rw⟩:=s
 refine acB func225 rfl ?_
 show AWp prog _ ⟨19,_,⟨bx,rw⟩,[(0,bK5 (.c (.sl l.length (l.flatMap fO)))),(1,.c (.val (.func (.func F) #[] cap)))]⟩ _
 refine go 14 ?_
 refine lE (fun k=>∀i (h:i<l.length),i<k -> g l[i]=false) (l.length) 8 (fun k=>[(0,bK5 (.c (.sl l.length (l.flatMap fO)))),(1,.c (.val (.func (.func F) #[] cap))),(7,nI l.length)]) (fun _ _ h=>absurd h (by omega)) (sA rfl) fun k hk hvk=>?_
 replace hvk:∀i (h:i<l.length),i<k -> g l[i]=false:=hvk
 show AWp prog _ ⟨19,_,_,(8,nI k)::[(0,bK5 (.c (.sl l.length (l.flatMap fO)))),(1,.c (.val (.func (.func F) #[] cap))),(7,nI l.length)]⟩ _
 refine go 2 ?_
 by_cases h1:((k:Nat):Int)<((l.length:Nat):Int)
 ·refine wcp true rfl (jZ h1) (go 19 ?_)
  refine wyz rfl (bH fO cU l iU fP k rfl rfl rfl rfl (by omega) (by decide) runUnderlying71 sizeOf73) (go 1 ?_)
  rcases Bool.eq_false_or_eq_true (g l[k]) with h3|h3
  ·refine bNo 0 rfl hcf rfl (hc k (by omega)) h3 ?_
   refine go 15 ?_
   exact bHe (s':=⟨bx,rw⟩) rfl sb0 ⟨aPy (bL4 g l k (by omega) (fun i hi hik=>hvk i hi hik) h3),rfl⟩
  refine bNo 0 rfl hcf rfl (hc k (by omega)) h3 ?_
  refine go 7 ?_
  refine wad rfl (go 2 ?_)
  exact ⟨by omega,(fun i hi hlt2=>(Nat.lt_or_ge i k).elim (fun h9=>hvk i hi h9) (fun h9=>by have h8:i=k:=(by omega);subst h8;exact h3)),(aG rfl (gQ (by omega)) (sA rfl))⟩
 refine wcp false rfl (jQ h1) (go 15 ?_)
 exact bHe (s':=⟨bx,rw⟩) rfl sb0 ⟨aPy (bL5 g l (fun i hi=>hvk i hi (by omega))),rfl⟩
theorem bNu(g:aH -> Bool)(l:List aH)(F:FuncId)(cap:Array Value)(s:Sto)(hl:l.length <= 1000000000)(hcf:∀args w,(callFunc F args).run prog w=.ok (.enter F args) w)(hc:∀k (h:k<l.length),aL prog F (bK5 (.agg (cU l[k]))::cap.toList.map cst) [] s fun t s'=>t=.c (.val (.bool (g l[k]))) /\ s'=s):aL prog 205 [bK5 (.c (.sl l.length (l.flatMap fO))),.c (.val (.func (.func F) #[] cap))] [] s fun t s'=>t=.c (.val (.bool (l.any g))) /\ s'=s:=by
 obtain ⟨bx,rw⟩:=s
 refine acB func205 rfl ?_
 show AWp prog _ ⟨9,_,⟨bx,rw⟩,[(0,bK5 (.c (.sl l.length (l.flatMap fO)))),(1,.c (.val (.func (.func F) #[] cap)))]⟩ _
 refine go 9 ?_
 refine wcR 0 rfl call225 rfl (bQ2 g l F cap _ hl hcf hc) ?_
 by_cases h1:(0:Int) <= bLm g l
 ·refine wcp true rfl (aMq h1) (go 4 ?_)
  exact bHe (s':=⟨bx,rw⟩) rfl sb0 ⟨cX ((bLt g l).1.1 h1),rfl⟩
 refine wcp false rfl (aMx h1) (go 4 ?_)
 exact bHe (s':=⟨bx,rw⟩) rfl sb0 ⟨cX (bNi h1),rfl⟩
theorem bLp(x:ByteArray)(hx:x.size <= 4611686018427387904)(s:Sto):aL prog 110 [bK5 (.c (.val (.string x)))] [] s fun t s'=>t=.c (.val (.bool (bQ x))) /\ s'=s:=by
 obtain ⟨bx,rw⟩:=s
 refine acB func110 rfl ?_
 show AWp prog _ ⟨35,_,⟨bx,rw⟩,[(0,bK5 (.c (.val (.string x))))]⟩ _
 refine go 8 ?_
 refine wo rfl (aDc rfl rfl (by decide) rfl underlying9 underlying23 underlying5 (by first|(rw [kT];(try simp only [length_append]);omega)|omega) (N:=x.data.toList.length) rfl (cs:=iF x.data.toList) rfl ?_)
 refine wo rfl (bN9 0 [] rfl rfl (by decide) call30 rfl rfl (fun m=>aP8 x.data.toList m _) bDl bDl (fun _=>bDl) ?_)
 rintro _ _ ⟨(⟨tl1,hlx1,rfl,htl1⟩|⟨p1,e1,hlx1,rfl,he1⟩),rfl⟩
 ·refine go 12 ?_
  refine wcp true rfl (by simp [bC]) (go 3 ?_)
  by_cases h2:((tl1.length:Nat):Int)=2
  ·refine wcp true rfl (eR h2) (go 3 ?_)
   refine wyz rfl (bH aW aW tl1 bJ (fun _=>rfl) 0 rfl rfl rfl rfl (by omega) (by decide) runUnderlying36 sizeOf66) (go 2 ?_)
   by_cases h3:((tl1[0].kind:Nat):Int)=1
   ·refine wcp true rfl (eR h3) (go 3 ?_)
    refine wyz rfl (bH aW aW tl1 bJ (fun _=>rfl) 0 rfl rfl rfl rfl (by omega) (by decide) runUnderlying36 sizeOf66) (go 3 ?_)
    by_cases h4:tl1[0].text=x
    ·refine wyz rfl (aZ true rfl rfl rfl (aL8 h4)) (go 5 ?_)
     exact bHe (s':=⟨bx,rw⟩) rfl sb0 ⟨cX ((bL0 hlx1).1 ⟨by omega,by omega,by omega,h4⟩),rfl⟩
    refine wyz rfl (aZ false rfl rfl rfl (aLs h4)) (go 5 ?_)
    exact bHe (s':=⟨bx,rw⟩) rfl sb0 ⟨cX (Bool.eq_false_iff.2 fun hh=>by obtain ⟨q1,q0,q2,q3⟩:=(bL0 hlx1).2 hh;first|omega|exact h4 q3),rfl⟩
   refine wcp false rfl (eD h3) (go 13 ?_)
   exact bHe (s':=⟨bx,rw⟩) rfl sb0 ⟨cX (Bool.eq_false_iff.2 fun hh=>by obtain ⟨q1,q0,q2,q3⟩:=(bL0 hlx1).2 hh;first|omega|exact h3 q3),rfl⟩
  refine wcp false rfl (eD h2) (go 20 ?_)
  exact bHe (s':=⟨bx,rw⟩) rfl sb0 ⟨cX (Bool.eq_false_iff.2 fun hh=>by obtain ⟨q1,q0,q2,q3⟩:=(bL0 hlx1).2 hh;first|omega|exact h2 q3),rfl⟩
 refine go 12 ?_
 refine wcp false rfl (eD (by omega)) (go 24 ?_)
 exact bHe (s':=⟨bx,rw⟩) rfl sb0 ⟨cX (bOs hlx1),rfl⟩
theorem bN8(e:aH)(s:Sto):aL prog 173 [.agg (cU e)] [] s fun t s'=>t=.c (.val (.bool (bLg e))) /\ s'=s:=by
 obtain ⟨bx,rw⟩:=s
 refine acB func173 rfl ?_
 show AWp prog _ ⟨22,_,⟨bx,rw⟩,[(0,.agg (cU e))]⟩ _
 refine go 10 fun b1=>?_
 by_cases h1:e.op=0
 ·refine wcp true rfl (eR h1) (go 3 ?_)
  by_cases h2:e.num=0
  ·refine wcp true rfl (eR h2) (go 4 ?_)
   by_cases h3:e.name=aK
   ·refine wyz rfl (aZ true rfl rfl rfl (aL8 h3)) (go 5 ?_)
    by_cases h4:((e.args.length:Nat):Int)=0
    ·refine wcp true rfl (eR h4) (go 5 ?_)
     exact bHe (s':=⟨bx,rw⟩) rfl sb1 ⟨cX (by unfold bLg;rw [decide_eq_true (show e.op=0 /\ e.num=0 by omega),decide_eq_true (show e.name=aK by assumption),decide_eq_true (show e.args.length=0 by omega)];rfl),rfl⟩
    refine wcp false rfl (eD h4) (go 5 ?_)
    exact bHe (s':=⟨bx,rw⟩) rfl sb1 ⟨cX (Bool.eq_false_iff.2 fun hh=>by simp only [bLg,Bool.and_eq_true,decide_eq_true_eq] at hh;first|omega|exact h4 hh.1.2),rfl⟩
   refine wyz rfl (aZ false rfl rfl rfl (aLs h3)) (go 11 ?_)
   exact bHe (s':=⟨bx,rw⟩) rfl sb1 ⟨cX (Bool.eq_false_iff.2 fun hh=>by simp only [bLg,Bool.and_eq_true,decide_eq_true_eq] at hh;first|omega|exact h3 hh.1.2),rfl⟩
  refine wcp false rfl (eD h2) (go 16 ?_)
  exact bHe (s':=⟨bx,rw⟩) rfl sb1 ⟨cX (Bool.eq_false_iff.2 fun hh=>by simp only [bLg,Bool.and_eq_true,decide_eq_true_eq] at hh;first|omega|exact h2 hh.1.2),rfl⟩
 refine wcp false rfl (eD h1) (go 20 ?_)
 exact bHe (s':=⟨bx,rw⟩) rfl sb1 ⟨cX (Bool.eq_false_iff.2 fun hh=>by simp only [bLg,Bool.and_eq_true,decide_eq_true_eq] at hh;first|omega|exact h1 hh.1.2),rfl⟩
theorem bMo(r:cY)(s:Sto):aL prog 175 [.agg (encR r)] [] s fun t s'=>t=.c (.val (.bool (kM r))) /\ s'=s:=by
 obtain ⟨bx,rw⟩:=s
 refine acB func175 rfl ?_
 show AWp prog _ ⟨12,_,⟨bx,rw⟩,[(0,.agg (encR r))]⟩ _
 refine go 10 fun b1=>?_
 by_cases h1:r.name=aK
 ·refine wyz rfl (aZ true rfl rfl rfl (aL8 h1)) (go 4 ?_)
  by_cases h2:((r.index.length:Nat):Int)=0
  ·refine wcp true rfl (eR h2) (go 5 ?_)
   exact bHe (s':=⟨bx,rw⟩) rfl sb1 ⟨cX (by unfold kM;rw [decide_eq_true (show r.name=aK by assumption),decide_eq_true (show r.index.length=0 by omega)];rfl),rfl⟩
  refine wcp false rfl (eD h2) (go 5 ?_)
  exact bHe (s':=⟨bx,rw⟩) rfl sb1 ⟨cX (Bool.eq_false_iff.2 fun hh=>by simp only [kM,Bool.and_eq_true,decide_eq_true_eq] at hh;first|omega|exact h2 hh.1),rfl⟩
 refine wyz rfl (aZ false rfl rfl rfl (aLs h1)) (go 10 ?_)
 exact bHe (s':=⟨bx,rw⟩) rfl sb1 ⟨cX (Bool.eq_false_iff.2 fun hh=>by simp only [kM,Bool.and_eq_true,decide_eq_true_eq] at hh;first|omega|exact h1 hh.1),rfl⟩
theorem bQ6(e:aH)(hN:e.nodes <= 1000000000)(hs:e.sane)(s:Sto):aL prog 206 [bK5 (.agg (cU e))] [] s fun t s'=>t=.c (.val (.bool (!dM e))) /\ s'=s:=by
 obtain ⟨bx,rw⟩:=s
 refine acB func206 rfl ?_
 show AWp prog _ ⟨6,_,⟨bx,rw⟩,[(0,bK5 (.agg (cU e)))]⟩ _
 refine go 9 fun b1=>?_
 rcases Bool.eq_false_or_eq_true (dM e) with h1|h1
 ·refine bK8 0 rfl call172 rfl (bLw e hN hs _) h1 (go 5 ?_)
  exact bHe (s':=⟨bx,rw⟩) rfl sb1 ⟨cX (by rw [h1];rfl),rfl⟩
 refine bK8 0 rfl call172 rfl (bLw e hN hs _) h1 (go 5 ?_)
 exact bHe (s':=⟨bx,rw⟩) rfl sb1 ⟨cX (by rw [h1];rfl),rfl⟩
theorem bOn(r:cY)(hs:r.sane)(hN:cZ r.index <= 900000000)(s:Sto):aL prog 174 [bK5 (.agg (encR r))] [] s fun t s'=>t=.c (.val (.bool (okRefB r))) /\ s'=s:=by
 obtain ⟨bx,rw⟩:=s
 refine acB func174 rfl ?_
 show AWp prog _ ⟨18,_,⟨bx,rw⟩,[(0,bK5 (.agg (encR r)))]⟩ _
 refine go 10 fun b1=>?_
 rcases Bool.eq_false_or_eq_true (bQ r.name) with h1|h1
 ·refine bK8 0 rfl call110 rfl (bLp r.name hs.1 _) h1 (go 4 ?_)
  by_cases h2:((r.index.length:Nat):Int) <= 1
  ·refine wcp true rfl (aPz h2) (go 4 ?_)
   rcases Bool.eq_false_or_eq_true (r.index.any fun e=>!dM e) with h3|h3
   ·refine bK8 0 rfl call205 rfl (bNu (fun e=>!dM e) r.index 206 #[] _ (by omega) call206 (fun k hk=>bQ6 _ (by have:=nM r.index k hk;omega) (mV _ hs.2 _ (getElem_mem _)) _)) h3 (go 6 ?_)
    exact bHe (s':=⟨bx,rw⟩) rfl sb1 ⟨cX (by rw [bMp,h1,decide_eq_true (show r.index.length <= 1 by omega),h3];rfl),rfl⟩
   refine bK8 0 rfl call205 rfl (bNu (fun e=>!dM e) r.index 206 #[] _ (by omega) call206 (fun k hk=>bQ6 _ (by have:=nM r.index k hk;omega) (mV _ hs.2 _ (getElem_mem _)) _)) h3 (go 6 ?_)
   exact bHe (s':=⟨bx,rw⟩) rfl sb1 ⟨cX (by rw [bMp,h1,decide_eq_true (show r.index.length <= 1 by omega),h3];rfl),rfl⟩
  refine wcp false rfl (aPx h2) (go 11 ?_)
  exact bHe (s':=⟨bx,rw⟩) rfl sb1 ⟨cX (by rw [bMp,h1,decide_eq_false (show ¬r.index.length <= 1 by omega)];rfl),rfl⟩
 refine bK8 0 rfl call110 rfl (bLp r.name hs.1 _) h1 (go 16 ?_)
 exact bHe (s':=⟨bx,rw⟩) rfl sb1 ⟨cX (by rw [bMp,h1];rfl),rfl⟩
theorem bQ0(a:eN)(hs:a.sane)(hw:a.wt <= 900000000)(s:Sto):aL prog 178 [bK5 (.agg (eJ a))] [] s fun t s'=>t=.c (.val (.bool (fY a))) /\ s'=s:=by
 obtain ⟨bx,rw⟩:=s
 unfold eN.wt cY.wt at hw
 refine acB func178 rfl ?_
 show AWp prog _ ⟨21,_,⟨bx,rw⟩,[(0,bK5 (.agg (eJ a)))]⟩ _
 refine go 10 fun b1=>?_
 rcases Bool.eq_false_or_eq_true (a.mutex) with h1|h1
 ·refine wyz rfl (fL (bZ h1) (aX [] rfl rfl rfl isAgg4 sizeOf4 rfl (fun _ h=>by cases h))) (go 7 ?_)
  rcases Bool.eq_false_or_eq_true (bLg a.expr) with h3|h3
  ·refine bOu rfl call173 rfl (bN8 a.expr _) h3 (go 3 ?_)
   rcases Bool.eq_false_or_eq_true (okRefB a.ref) with h4|h4
   ·refine bK8 0 rfl call174 rfl (bOn a.ref hs.1 (by omega) _) h4 (go 6 ?_)
    exact bHe (s':=⟨bx,rw⟩) rfl sb1 ⟨cX (by rw [aCi h1,h4,h3];first|rfl|(cases okRefB a.ref<;>rfl)),rfl⟩
   refine bK8 0 rfl call174 rfl (bOn a.ref hs.1 (by omega) _) h4 (go 6 ?_)
   exact bHe (s':=⟨bx,rw⟩) rfl sb1 ⟨cX (by rw [aCi h1,h4,h3];first|rfl|(cases okRefB a.ref<;>rfl)),rfl⟩
  refine bOu rfl call173 rfl (bN8 a.expr _) h3 (go 10 ?_)
  exact bHe (s':=⟨bx,rw⟩) rfl sb1 ⟨cX (by rw [aCi h1,h3];first|rfl|(cases okRefB a.ref<;>rfl)),rfl⟩
 refine wyz rfl (fL (bZ h1) (aX [] rfl rfl rfl isAgg4 sizeOf4 rfl (fun _ h=>by cases h))) (go 9 ?_)
 rcases Bool.eq_false_or_eq_true (kM a.ref) with h6|h6
 ·refine bOu rfl call175 rfl (bMo a.ref _) h6 (go 3 ?_)
  rcases Bool.eq_false_or_eq_true (dM a.expr) with h7|h7
  ·refine bK8 0 rfl call172 rfl (bLw a.expr (by omega) hs.2 _) h7 (go 5 ?_)
   exact bHe (s':=⟨bx,rw⟩) rfl sb1 ⟨cX (by rw [aCv h1,h6,h7];first|rfl|(cases okRefB a.ref<;>rfl)),rfl⟩
  refine bK8 0 rfl call172 rfl (bLw a.expr (by omega) hs.2 _) h7 (go 5 ?_)
  exact bHe (s':=⟨bx,rw⟩) rfl sb1 ⟨cX (by rw [aCv h1,h6,h7];first|rfl|(cases okRefB a.ref<;>rfl)),rfl⟩
 refine bOu rfl call175 rfl (bMo a.ref _) h6 (go 9 ?_)
 exact bHe (s':=⟨bx,rw⟩) rfl sb1 ⟨cX (by rw [aCv h1,h6];first|rfl|(cases okRefB a.ref<;>rfl)),rfl⟩
theorem bNb(a:eN)(hs:a.sane)(hw:a.wt <= 900000000)(s:Sto):aL prog 177 [bK5 (.agg (eJ a))] [] s fun t s'=>t=.c (.val (.bool (!fY a))) /\ s'=s:=by
 obtain ⟨bx,rw⟩:=s
 refine acB func177 rfl ?_
 show AWp prog _ ⟨6,_,⟨bx,rw⟩,[(0,bK5 (.agg (eJ a)))]⟩ _
 refine go 9 fun b1=>?_
 rcases Bool.eq_false_or_eq_true (fY a) with h1|h1
 ·refine bK8 0 rfl call178 rfl (bQ0 a hs hw _) h1 (go 5 ?_)
  exact bHe (s':=⟨bx,rw⟩) rfl sb1 ⟨cX (by rw [h1];rfl),rfl⟩
 refine bK8 0 rfl call178 rfl (bQ0 a hs hw _) h1 (go 5 ?_)
 exact bHe (s':=⟨bx,rw⟩) rfl sb1 ⟨cX (by rw [h1];rfl),rfl⟩
theorem bP9(x:aJ)(s:Sto):aL prog 171 [.c (.val (.int .i64 x.kind))] [] s fun t s'=>t=.tup [.agg [.val (.bool (isN x)),.val (.bool (isE x)),.val (.bool (isR x)),.val (.bool (isC x)),.val (.bool (isB x)),.val (.bool (isI x))],.c (.val (.bool (!aG7 x)))] /\ s'=s:=by
 obtain ⟨bx,rw⟩:=s
 refine acB func171 rfl ?_
 show AWp prog _ ⟨27,_,⟨bx,rw⟩,[(0,.c (.val (.int .i64 x.kind)))]⟩ _
 refine go 16 fun b1=>?_
 by_cases h1:x.kind=1
 ·refine wcp true rfl (eR h1) (go 17 ?_)
  exact ⟨.inr rfl,_,⟨bx,rw⟩,uM rfl (aO [] rfl rfl isAgg227 sizeOf227 rfl) (aF rfl),aA (.cons _ (.refl _)) (.refl _),(by rw [show isN x=true by unfold isN;first|exact decide_eq_true (by omega)|exact decide_eq_false (by omega),show isE x=true by unfold isE;first|exact decide_eq_true (by omega)|exact decide_eq_false (by omega),show isR x=false by unfold isR;first|exact decide_eq_true (by omega)|exact decide_eq_false (by omega),show isC x=false by unfold isC;first|exact decide_eq_true (by omega)|exact decide_eq_false (by omega),show isB x=false by unfold isB;first|exact decide_eq_true (by omega)|exact decide_eq_false (by omega),show isI x=false by unfold isI;first|exact decide_eq_true (by omega)|exact decide_eq_false (by omega),show aG7 x=false by unfold aG7;first|exact decide_eq_true (by omega)|exact decide_eq_false (by omega)];rfl),rfl⟩
 refine wcp false rfl (eD h1) (go 5 ?_)
 by_cases h5:x.kind=2
 ·refine wcp true rfl (eR h5) (go 14 ?_)
  exact ⟨.inr rfl,_,⟨bx,rw⟩,uM rfl (aO [] rfl rfl isAgg227 sizeOf227 rfl) (aF rfl),aA (.cons _ (.refl _)) (.refl _),(by rw [show isN x=true by unfold isN;first|exact decide_eq_true (by omega)|exact decide_eq_false (by omega),show isE x=true by unfold isE;first|exact decide_eq_true (by omega)|exact decide_eq_false (by omega),show isR x=false by unfold isR;first|exact decide_eq_true (by omega)|exact decide_eq_false (by omega),show isC x=false by unfold isC;first|exact decide_eq_true (by omega)|exact decide_eq_false (by omega),show isB x=false by unfold isB;first|exact decide_eq_true (by omega)|exact decide_eq_false (by omega),show isI x=false by unfold isI;first|exact decide_eq_true (by omega)|exact decide_eq_false (by omega),show aG7 x=false by unfold aG7;first|exact decide_eq_true (by omega)|exact decide_eq_false (by omega)];rfl),rfl⟩
 refine wcp false rfl (eD h5) (go 7 ?_)
 by_cases h8:x.kind=3
 ·refine wcp true rfl (eR h8) (go 17 ?_)
  exact ⟨.inr rfl,_,⟨bx,rw⟩,uM rfl (aO [] rfl rfl isAgg227 sizeOf227 rfl) (aF rfl),aA (.cons _ (.refl _)) (.refl _),(by rw [show isN x=true by unfold isN;first|exact decide_eq_true (by omega)|exact decide_eq_false (by omega),show isE x=false by unfold isE;first|exact decide_eq_true (by omega)|exact decide_eq_false (by omega),show isR x=false by unfold isR;first|exact decide_eq_true (by omega)|exact decide_eq_false (by omega),show isC x=true by unfold isC;first|exact decide_eq_true (by omega)|exact decide_eq_false (by omega),show isB x=false by unfold isB;first|exact decide_eq_true (by omega)|exact decide_eq_false (by omega),show isI x=false by unfold isI;first|exact decide_eq_true (by omega)|exact decide_eq_false (by omega),show aG7 x=false by unfold aG7;first|exact decide_eq_true (by omega)|exact decide_eq_false (by omega)];rfl),rfl⟩
 refine wcp false rfl (eD h8) (go 5 ?_)
 by_cases h12:x.kind=4
 ·refine wcp true rfl (eR h12) (go 14 ?_)
  exact ⟨.inr rfl,_,⟨bx,rw⟩,uM rfl (aO [] rfl rfl isAgg227 sizeOf227 rfl) (aF rfl),aA (.cons _ (.refl _)) (.refl _),(by rw [show isN x=true by unfold isN;first|exact decide_eq_true (by omega)|exact decide_eq_false (by omega),show isE x=false by unfold isE;first|exact decide_eq_true (by omega)|exact decide_eq_false (by omega),show isR x=false by unfold isR;first|exact decide_eq_true (by omega)|exact decide_eq_false (by omega),show isC x=true by unfold isC;first|exact decide_eq_true (by omega)|exact decide_eq_false (by omega),show isB x=false by unfold isB;first|exact decide_eq_true (by omega)|exact decide_eq_false (by omega),show isI x=false by unfold isI;first|exact decide_eq_true (by omega)|exact decide_eq_false (by omega),show aG7 x=false by unfold aG7;first|exact decide_eq_true (by omega)|exact decide_eq_false (by omega)];rfl),rfl⟩
 refine wcp false rfl (eD h12) (go 7 ?_)
 by_cases h15:x.kind=5
 ·refine wcp true rfl (eR h15) (go 17 ?_)
  exact ⟨.inr rfl,_,⟨bx,rw⟩,uM rfl (aO [] rfl rfl isAgg227 sizeOf227 rfl) (aF rfl),aA (.cons _ (.refl _)) (.refl _),(by rw [show isN x=false by unfold isN;first|exact decide_eq_true (by omega)|exact decide_eq_false (by omega),show isE x=false by unfold isE;first|exact decide_eq_true (by omega)|exact decide_eq_false (by omega),show isR x=true by unfold isR;first|exact decide_eq_true (by omega)|exact decide_eq_false (by omega),show isC x=false by unfold isC;first|exact decide_eq_true (by omega)|exact decide_eq_false (by omega),show isB x=false by unfold isB;first|exact decide_eq_true (by omega)|exact decide_eq_false (by omega),show isI x=false by unfold isI;first|exact decide_eq_true (by omega)|exact decide_eq_false (by omega),show aG7 x=false by unfold aG7;first|exact decide_eq_true (by omega)|exact decide_eq_false (by omega)];rfl),rfl⟩
 refine wcp false rfl (eD h15) (go 5 ?_)
 by_cases h19:x.kind=6
 ·refine wcp true rfl (eR h19) (go 14 ?_)
  exact ⟨.inr rfl,_,⟨bx,rw⟩,uM rfl (aO [] rfl rfl isAgg227 sizeOf227 rfl) (aF rfl),aA (.cons _ (.refl _)) (.refl _),(by rw [show isN x=false by unfold isN;first|exact decide_eq_true (by omega)|exact decide_eq_false (by omega),show isE x=false by unfold isE;first|exact decide_eq_true (by omega)|exact decide_eq_false (by omega),show isR x=true by unfold isR;first|exact decide_eq_true (by omega)|exact decide_eq_false (by omega),show isC x=false by unfold isC;first|exact decide_eq_true (by omega)|exact decide_eq_false (by omega),show isB x=false by unfold isB;first|exact decide_eq_true (by omega)|exact decide_eq_false (by omega),show isI x=false by unfold isI;first|exact decide_eq_true (by omega)|exact decide_eq_false (by omega),show aG7 x=false by unfold aG7;first|exact decide_eq_true (by omega)|exact decide_eq_false (by omega)];rfl),rfl⟩
 refine wcp false rfl (eD h19) (go 6 ?_)
 by_cases h22:x.kind=7
 ·refine wcp true rfl (eR h22) (go 14 ?_)
  exact ⟨.inr rfl,_,⟨bx,rw⟩,uM rfl (aO [] rfl rfl isAgg227 sizeOf227 rfl) (aF rfl),aA (.cons _ (.refl _)) (.refl _),(by rw [show isN x=false by unfold isN;first|exact decide_eq_true (by omega)|exact decide_eq_false (by omega),show isE x=true by unfold isE;first|exact decide_eq_true (by omega)|exact decide_eq_false (by omega),show isR x=false by unfold isR;first|exact decide_eq_true (by omega)|exact decide_eq_false (by omega),show isC x=false by unfold isC;first|exact decide_eq_true (by omega)|exact decide_eq_false (by omega),show isB x=true by unfold isB;first|exact decide_eq_true (by omega)|exact decide_eq_false (by omega),show isI x=true by unfold isI;first|exact decide_eq_true (by omega)|exact decide_eq_false (by omega),show aG7 x=false by unfold aG7;first|exact decide_eq_true (by omega)|exact decide_eq_false (by omega)];rfl),rfl⟩
 refine wcp false rfl (eD h22) (go 6 ?_)
 by_cases h25:x.kind=8
 ·refine wcp true rfl (eR h25) (go 14 ?_)
  exact ⟨.inr rfl,_,⟨bx,rw⟩,uM rfl (aO [] rfl rfl isAgg227 sizeOf227 rfl) (aF rfl),aA (.cons _ (.refl _)) (.refl _),(by rw [show isN x=false by unfold isN;first|exact decide_eq_true (by omega)|exact decide_eq_false (by omega),show isE x=true by unfold isE;first|exact decide_eq_true (by omega)|exact decide_eq_false (by omega),show isR x=false by unfold isR;first|exact decide_eq_true (by omega)|exact decide_eq_false (by omega),show isC x=false by unfold isC;first|exact decide_eq_true (by omega)|exact decide_eq_false (by omega),show isB x=true by unfold isB;first|exact decide_eq_true (by omega)|exact decide_eq_false (by omega),show isI x=false by unfold isI;first|exact decide_eq_true (by omega)|exact decide_eq_false (by omega),show aG7 x=false by unfold aG7;first|exact decide_eq_true (by omega)|exact decide_eq_false (by omega)];rfl),rfl⟩
 refine wcp false rfl (eD h25) (go 6 ?_)
 by_cases h28:x.kind=9
 ·refine wcp true rfl (eR h28) (go 14 ?_)
  exact ⟨.inr rfl,_,⟨bx,rw⟩,uM rfl (aO [] rfl rfl isAgg227 sizeOf227 rfl) (aF rfl),aA (.cons _ (.refl _)) (.refl _),(by rw [show isN x=false by unfold isN;first|exact decide_eq_true (by omega)|exact decide_eq_false (by omega),show isE x=false by unfold isE;first|exact decide_eq_true (by omega)|exact decide_eq_false (by omega),show isR x=false by unfold isR;first|exact decide_eq_true (by omega)|exact decide_eq_false (by omega),show isC x=false by unfold isC;first|exact decide_eq_true (by omega)|exact decide_eq_false (by omega),show isB x=false by unfold isB;first|exact decide_eq_true (by omega)|exact decide_eq_false (by omega),show isI x=false by unfold isI;first|exact decide_eq_true (by omega)|exact decide_eq_false (by omega),show aG7 x=false by unfold aG7;first|exact decide_eq_true (by omega)|exact decide_eq_false (by omega)];rfl),rfl⟩
 refine wcp false rfl (eD h28) (go 15 ?_)
 exact ⟨.inr rfl,_,⟨bx,rw⟩,uM rfl (aO [] rfl rfl isAgg227 sizeOf227 rfl) (aF rfl),aA (.cons _ (.refl _)) (.refl _),(by rw [show isN x=false by unfold isN;first|exact decide_eq_true (by omega)|exact decide_eq_false (by omega),show isE x=false by unfold isE;first|exact decide_eq_true (by omega)|exact decide_eq_false (by omega),show isR x=false by unfold isR;first|exact decide_eq_true (by omega)|exact decide_eq_false (by omega),show isC x=false by unfold isC;first|exact decide_eq_true (by omega)|exact decide_eq_false (by omega),show isB x=false by unfold isB;first|exact decide_eq_true (by omega)|exact decide_eq_false (by omega),show isI x=false by unfold isI;first|exact decide_eq_true (by omega)|exact decide_eq_false (by omega),show aG7 x=true by unfold aG7;first|exact decide_eq_true (by omega)|exact decide_eq_false (by omega)];rfl),rfl⟩
theorem bO1{α:Type}{f:α -> Bool}{l:List α}(h:(l.any fun x=>!f x)=true):l.all f=false:=by rw [bPq] at h;simpa using h
theorem bMb{α:Type}{f:α -> Bool}{l:List α}(h:(l.any fun x=>!f x)=false):l.all f=true:=by rw [bPq] at h;simpa using h
theorem bPf(D:Nat)(x:aJ)(hs:x.sane)(hw:x.wt <= 900000000)(hD:D <= 1000)(ih1:∀(s:Sto),aL prog 114 [bK5 (.c (.sl x.thn.length (x.thn.flatMap encS))),.c (.val (.int .i64 (((D:Nat):Int)+1)))] [] s fun t s'=>t=.c (.val (.bool (bM (D+1) x.thn))) /\ s'=s)(ih2:∀(s:Sto),aL prog 114 [bK5 (.c (.sl x.els.length (x.els.flatMap encS))),.c (.val (.int .i64 (((D:Nat):Int)+1)))] [] s fun t s'=>t=.c (.val (.bool (bM (D+1) x.els))) /\ s'=s)(s:Sto):aL prog 146 [bK5 (.agg (dG x)),nI D] [] s fun t s'=>t=.c (.val (.bool (bK9 D x))) /\ s'=s:=by
 obtain ⟨bx,rw⟩:=s
 obtain ⟨hsn,hse,hsr,hsa,hst,hsf⟩:=yW hs
 rw [gD] at hw
 unfold cY.wt at hw
 have hwa:=aCj x.args
 refine acB func146 rfl ?_
 show AWp prog _ ⟨119,_,⟨bx,rw⟩,[(0,bK5 (.agg (dG x))),(1,nI D)]⟩ _
 refine go 10 fun b1=>?_
 refine wc1 rfl call171 rfl (bP9 x _) (go 14 fun b2=>?_)
 rcases Bool.eq_false_or_eq_true (!aG7 x) with h1|h1
 ·refine wyz rfl (fL (bZ (aKs h1)) (lF rfl rfl)) (go 4 ?_)
  refine xX [(13,.c (.val (.bool (d1 x)))),(0,bK5 (.agg (dG x))),(1,nI D),(2,pP b1),(5,pP b2),(6,.c (.val (.bool (!aG7 x))))] ?_ ?_
  ·refine go 2 ?_
   rcases Bool.eq_false_or_eq_true (isN x) with h3|h3
   ·refine wyz rfl (fL (bZ h3) (aX [] rfl rfl rfl isAgg4 sizeOf4 rfl (fun _ h=>by cases h))) (go 3 ?_)
    rcases Bool.eq_false_or_eq_true (bQ x.name) with h4|h4
    ·refine bK8 0 rfl call110 rfl (bLp x.name hsn _) h4 (go 4 ?_)
     exact ⟨rfl,(aG rfl (bZ (by unfold d1;rw [h3,h4];rfl)) (sA rfl))⟩
    refine bK8 0 rfl call110 rfl (bLp x.name hsn _) h4 (go 4 ?_)
    exact ⟨rfl,(aG rfl (bZ (by unfold d1;rw [h3,h4];rfl)) (sA rfl))⟩
   refine wyz rfl (fL (bZ h3) (aX [] rfl rfl rfl isAgg4 sizeOf4 rfl (fun _ h=>by cases h))) (go 8 ?_)
   exact ⟨rfl,(aG rfl (bZ (by unfold d1;rw [h3];rfl)) (sA rfl))⟩
  refine gY rfl (fun h5=>?_) (fun h5=>?_)
  ·refine go 2 ?_
   refine aM9 rfl h5 ?_
   refine go 8 ?_
   exact bHe (s':=⟨bx,rw⟩) rfl sb2 ⟨cX (by rw [bLr,h5];simp),rfl⟩
  refine xX [(13,.c (.val (.bool (d2 x)))),(0,bK5 (.agg (dG x))),(1,nI D),(2,pP b1),(5,pP b2),(6,.c (.val (.bool (!aG7 x))))] ?_ ?_
  ·refine go 2 ?_
   rcases Bool.eq_false_or_eq_true (isN x) with h6|h6
   ·refine wyz rfl (fL (bZ h6) (aX [] rfl rfl rfl isAgg4 sizeOf4 rfl (fun _ h=>by cases h))) (go 8 ?_)
    exact ⟨rfl,(aG rfl (bZ (by unfold d2;rw [h6];rfl)) (sA rfl))⟩
   refine wyz rfl (fL (bZ h6) (aX [] rfl rfl rfl isAgg4 sizeOf4 rfl (fun _ h=>by cases h))) (go 4 ?_)
   by_cases h7:x.name=aK
   ·refine wyz rfl (aZ false rfl rfl rfl (aMz h7)) (go 3 ?_)
    exact ⟨rfl,(aG rfl (bZ (by unfold d2;rw [h6,decide_eq_true h7];rfl)) (sA rfl))⟩
   refine wyz rfl (aZ true rfl rfl rfl (aLc h7)) (go 3 ?_)
   exact ⟨rfl,(aG rfl (bZ (by unfold d2;rw [h6,decide_eq_false h7];rfl)) (sA rfl))⟩
  refine gY rfl (fun h8=>?_) (fun h8=>?_)
  ·refine go 2 ?_
   refine aM9 rfl h8 ?_
   refine go 8 ?_
   exact bHe (s':=⟨bx,rw⟩) rfl sb2 ⟨cX (by rw [bLr,h8];simp),rfl⟩
  refine xX [(13,.c (.val (.bool (d3 x)))),(0,bK5 (.agg (dG x))),(1,nI D),(2,pP b1),(5,pP b2),(6,.c (.val (.bool (!aG7 x))))] ?_ ?_
  ·refine go 2 ?_
   rcases Bool.eq_false_or_eq_true (isE x) with h9|h9
   ·refine wyz rfl (fL (bZ h9) (aX [] rfl rfl rfl isAgg4 sizeOf4 rfl (fun _ h=>by cases h))) (go 3 ?_)
    rcases Bool.eq_false_or_eq_true (dM x.expr) with h10|h10
    ·refine bK8 0 rfl call172 rfl (bLw x.expr (by omega) hse _) h10 (go 4 ?_)
     exact ⟨rfl,(aG rfl (bZ (by unfold d3;rw [h9,h10];rfl)) (sA rfl))⟩
    refine bK8 0 rfl call172 rfl (bLw x.expr (by omega) hse _) h10 (go 4 ?_)
    exact ⟨rfl,(aG rfl (bZ (by unfold d3;rw [h9,h10];rfl)) (sA rfl))⟩
   refine wyz rfl (fL (bZ h9) (aX [] rfl rfl rfl isAgg4 sizeOf4 rfl (fun _ h=>by cases h))) (go 8 ?_)
   exact ⟨rfl,(aG rfl (bZ (by unfold d3;rw [h9];rfl)) (sA rfl))⟩
  refine gY rfl (fun h11=>?_) (fun h11=>?_)
  ·refine go 2 ?_
   refine aM9 rfl h11 ?_
   refine go 8 ?_
   exact bHe (s':=⟨bx,rw⟩) rfl sb2 ⟨cX (by rw [bLr,h11];simp),rfl⟩
  refine xX [(13,.c (.val (.bool (d4 x)))),(0,bK5 (.agg (dG x))),(1,nI D),(2,pP b1),(5,pP b2),(6,.c (.val (.bool (!aG7 x))))] ?_ ?_
  ·refine go 2 ?_
   rcases Bool.eq_false_or_eq_true (isE x) with h12|h12
   ·refine wyz rfl (fL (bZ h12) (aX [] rfl rfl rfl isAgg4 sizeOf4 rfl (fun _ h=>by cases h))) (go 9 ?_)
    exact ⟨rfl,(aG rfl (bZ (by unfold d4;rw [h12];rfl)) (sA rfl))⟩
   refine wyz rfl (fL (bZ h12) (aX [] rfl rfl rfl isAgg4 sizeOf4 rfl (fun _ h=>by cases h))) (go 4 ?_)
   rcases Bool.eq_false_or_eq_true (bLg x.expr) with h13|h13
   ·refine bOu rfl call173 rfl (bN8 x.expr _) h13 (go 4 ?_)
    exact ⟨rfl,(aG rfl (bZ (by unfold d4;rw [h12,h13];rfl)) (sA rfl))⟩
   refine bOu rfl call173 rfl (bN8 x.expr _) h13 (go 4 ?_)
   exact ⟨rfl,(aG rfl (bZ (by unfold d4;rw [h12,h13];rfl)) (sA rfl))⟩
  refine gY rfl (fun h14=>?_) (fun h14=>?_)
  ·refine go 2 ?_
   refine aM9 rfl h14 ?_
   refine go 8 ?_
   exact bHe (s':=⟨bx,rw⟩) rfl sb2 ⟨cX (by rw [bLr,h14];simp),rfl⟩
  refine xX [(13,.c (.val (.bool (d5 x)))),(0,bK5 (.agg (dG x))),(1,nI D),(2,pP b1),(5,pP b2),(6,.c (.val (.bool (!aG7 x))))] ?_ ?_
  ·refine go 2 ?_
   rcases Bool.eq_false_or_eq_true (isR x) with h15|h15
   ·refine wyz rfl (fL (bZ h15) (aX [] rfl rfl rfl isAgg4 sizeOf4 rfl (fun _ h=>by cases h))) (go 3 ?_)
    rcases Bool.eq_false_or_eq_true (okRefB x.ref) with h16|h16
    ·refine bK8 0 rfl call174 rfl (bOn x.ref hsr (by omega) _) h16 (go 4 ?_)
     exact ⟨rfl,(aG rfl (bZ (by unfold d5;rw [h15,h16];rfl)) (sA rfl))⟩
    refine bK8 0 rfl call174 rfl (bOn x.ref hsr (by omega) _) h16 (go 4 ?_)
    exact ⟨rfl,(aG rfl (bZ (by unfold d5;rw [h15,h16];rfl)) (sA rfl))⟩
   refine wyz rfl (fL (bZ h15) (aX [] rfl rfl rfl isAgg4 sizeOf4 rfl (fun _ h=>by cases h))) (go 8 ?_)
   exact ⟨rfl,(aG rfl (bZ (by unfold d5;rw [h15];rfl)) (sA rfl))⟩
  refine gY rfl (fun h17=>?_) (fun h17=>?_)
  ·refine go 2 ?_
   refine aM9 rfl h17 ?_
   refine go 8 ?_
   exact bHe (s':=⟨bx,rw⟩) rfl sb2 ⟨cX (by rw [bLr,h17];simp),rfl⟩
  refine xX [(13,.c (.val (.bool (d6 x)))),(0,bK5 (.agg (dG x))),(1,nI D),(2,pP b1),(5,pP b2),(6,.c (.val (.bool (!aG7 x))))] ?_ ?_
  ·refine go 2 ?_
   rcases Bool.eq_false_or_eq_true (isR x) with h18|h18
   ·refine wyz rfl (fL (bZ h18) (aX [] rfl rfl rfl isAgg4 sizeOf4 rfl (fun _ h=>by cases h))) (go 9 ?_)
    exact ⟨rfl,(aG rfl (bZ (by unfold d6;rw [h18];rfl)) (sA rfl))⟩
   refine wyz rfl (fL (bZ h18) (aX [] rfl rfl rfl isAgg4 sizeOf4 rfl (fun _ h=>by cases h))) (go 4 ?_)
   rcases Bool.eq_false_or_eq_true (kM x.ref) with h19|h19
   ·refine bOu rfl call175 rfl (bMo x.ref _) h19 (go 4 ?_)
    exact ⟨rfl,(aG rfl (bZ (by unfold d6;rw [h18,h19];rfl)) (sA rfl))⟩
   refine bOu rfl call175 rfl (bMo x.ref _) h19 (go 4 ?_)
   exact ⟨rfl,(aG rfl (bZ (by unfold d6;rw [h18,h19];rfl)) (sA rfl))⟩
  refine gY rfl (fun h20=>?_) (fun h20=>?_)
  ·refine go 2 ?_
   refine aM9 rfl h20 ?_
   refine go 8 ?_
   exact bHe (s':=⟨bx,rw⟩) rfl sb2 ⟨cX (by rw [bLr,h20];simp),rfl⟩
  refine xX [(13,.c (.val (.bool (d7 x)))),(0,bK5 (.agg (dG x))),(1,nI D),(2,pP b1),(5,pP b2),(6,.c (.val (.bool (!aG7 x))))] ?_ ?_
  ·refine go 2 ?_
   rcases Bool.eq_false_or_eq_true (isC x) with h21|h21
   ·refine wyz rfl (fL (bZ h21) (aX [] rfl rfl rfl isAgg4 sizeOf4 rfl (fun _ h=>by cases h))) (go 9 ?_)
    exact ⟨rfl,(aG rfl (bZ (by unfold d7;rw [h21];rfl)) (sA rfl))⟩
   refine wyz rfl (fL (bZ h21) (aX [] rfl rfl rfl isAgg4 sizeOf4 rfl (fun _ h=>by cases h))) (go 5 ?_)
   by_cases h22:(0:Int)<((x.args.length:Nat):Int)
   ·refine wcp true rfl (mH h22) (go 3 ?_)
    exact ⟨rfl,(aG rfl (bZ (by unfold d7;rw [h21,decide_eq_false (show ¬x.args.length=0 by omega)];rfl)) (sA rfl))⟩
   refine wcp false rfl (mI h22) (go 3 ?_)
   exact ⟨rfl,(aG rfl (bZ (by unfold d7;rw [h21,decide_eq_true (show x.args.length=0 by omega)];rfl)) (sA rfl))⟩
  refine gY rfl (fun h23=>?_) (fun h23=>?_)
  ·refine go 2 ?_
   refine aM9 rfl h23 ?_
   refine go 8 ?_
   exact bHe (s':=⟨bx,rw⟩) rfl sb2 ⟨cX (by rw [bLr,h23];simp),rfl⟩
  refine xX [(13,.c (.val (.bool (d8 x)))),(0,bK5 (.agg (dG x))),(1,nI D),(2,pP b1),(5,pP b2),(6,.c (.val (.bool (!aG7 x))))] ?_ ?_
  ·refine go 2 ?_
   rcases Bool.eq_false_or_eq_true (isB x) with h24|h24
   ·refine wyz rfl (fL (bZ h24) (aX [] rfl rfl rfl isAgg4 sizeOf4 rfl (fun _ h=>by cases h))) (go 9 ?_)
    exact ⟨rfl,(aG rfl (bZ (by unfold d8;rw [h24];rfl)) (sA rfl))⟩
   refine wyz rfl (fL (bZ h24) (aX [] rfl rfl rfl isAgg4 sizeOf4 rfl (fun _ h=>by cases h))) (go 5 ?_)
   by_cases h25:(0:Int)<((x.thn.length:Nat):Int)
   ·refine wcp true rfl (mH h25) (go 3 ?_)
    exact ⟨rfl,(aG rfl (bZ (by unfold d8;rw [h24,decide_eq_false (show ¬x.thn.length=0 by omega)];rfl)) (sA rfl))⟩
   refine wcp false rfl (mI h25) (go 3 ?_)
   exact ⟨rfl,(aG rfl (bZ (by unfold d8;rw [h24,decide_eq_true (show x.thn.length=0 by omega)];rfl)) (sA rfl))⟩
  refine gY rfl (fun h26=>?_) (fun h26=>?_)
  ·refine go 2 ?_
   refine aM9 rfl h26 ?_
   refine go 8 ?_
   exact bHe (s':=⟨bx,rw⟩) rfl sb2 ⟨cX (by rw [bLr,h26];simp),rfl⟩
  refine go 2 ?_
  rcases Bool.eq_false_or_eq_true (isI x) with h27|h27
  ·refine wyz rfl (fL (bZ h27) (aX [] rfl rfl rfl isAgg4 sizeOf4 rfl (fun _ h=>by cases h))) (go 19 ?_)
   rcases Bool.eq_false_or_eq_true (x.args.any fun a=>!fY a) with h29|h29
   ·refine bK8 0 rfl call176 rfl (bMq (fun a=>!fY a) x.args 177 #[] _ (by omega) call177 (fun k hk=>bNb _ (hsa _ (getElem_mem _)) (by have:=aDf x.args k hk;omega) _)) h29 (go 10 ?_)
    exact bHe (s':=⟨bx,rw⟩) rfl sb2 ⟨cX (by rw [bLr,bO1 h29];simp),rfl⟩
   refine bK8 0 rfl call176 rfl (bMq (fun a=>!fY a) x.args 177 #[] _ (by omega) call177 (fun k hk=>bNb _ (hsa _ (getElem_mem _)) (by have:=aDf x.args k hk;omega) _)) h29 (go 8 ?_)
   rcases Bool.eq_false_or_eq_true (isB x) with h32|h32
   ·refine wyz rfl (fL (bZ h32) (aX [] rfl rfl rfl isAgg4 sizeOf4 rfl (fun _ h=>by cases h))) (go 5 ?_)
    refine wad rfl ?_
    rcases Bool.eq_false_or_eq_true (bM (D+1) x.thn) with h33|h33
    ·refine bK8 0 rfl call114 rfl (ih1 _) h33 (go 4 ?_)
     by_cases h34:((x.els.length:Nat):Int)=0
     ·refine wcp true rfl (eR h34) (go 13 ?_)
      exact bHe (s':=⟨bx,rw⟩) rfl sb2 ⟨cX (by rw [bLr,h1,h5,h8,h11,h14,h17,h20,h23,h26,show d9 x=false by unfold d9;rw [h27];rfl,bMb h29,show e1 D x=true by unfold e1;rw [h32,h33,decide_eq_true (show x.els.length=0 by omega)];rfl];rfl),rfl⟩
     refine wcp false rfl (eD h34) (go 4 ?_)
     refine wad rfl ?_
     rcases Bool.eq_false_or_eq_true (bM (D+1) x.els) with h35|h35
     ·refine bK8 0 rfl call114 rfl (ih2 _) h35 (go 7 ?_)
      exact bHe (s':=⟨bx,rw⟩) rfl sb2 ⟨cX (by rw [bLr,h1,h5,h8,h11,h14,h17,h20,h23,h26,show d9 x=false by unfold d9;rw [h27];rfl,bMb h29,show e1 D x=true by unfold e1;rw [h32,h33,decide_eq_false (show ¬x.els.length=0 by omega),h35];rfl];rfl),rfl⟩
     refine bK8 0 rfl call114 rfl (ih2 _) h35 (go 7 ?_)
     exact bHe (s':=⟨bx,rw⟩) rfl sb2 ⟨cX (by rw [bLr,h1,h5,h8,h11,h14,h17,h20,h23,h26,show d9 x=false by unfold d9;rw [h27];rfl,bMb h29,show e1 D x=false by unfold e1;rw [h32,h33,decide_eq_false (show ¬x.els.length=0 by omega),h35];rfl];rfl),rfl⟩
    refine bK8 0 rfl call114 rfl (ih1 _) h33 (go 18 ?_)
    exact bHe (s':=⟨bx,rw⟩) rfl sb2 ⟨cX (by rw [bLr,h1,h5,h8,h11,h14,h17,h20,h23,h26,show d9 x=false by unfold d9;rw [h27];rfl,bMb h29,show e1 D x=false by unfold e1;rw [h32,h33];rfl];rfl),rfl⟩
   refine wyz rfl (fL (bZ h32) (aX [] rfl rfl rfl isAgg4 sizeOf4 rfl (fun _ h=>by cases h))) (go 25 ?_)
   exact bHe (s':=⟨bx,rw⟩) rfl sb2 ⟨cX (by rw [bLr,h1,h5,h8,h11,h14,h17,h20,h23,h26,show d9 x=false by unfold d9;rw [h27];rfl,bMb h29,show e1 D x=true by unfold e1;rw [h32];rfl];rfl),rfl⟩
  refine wyz rfl (fL (bZ h27) (aX [] rfl rfl rfl isAgg4 sizeOf4 rfl (fun _ h=>by cases h))) (go 5 ?_)
  by_cases h36:(0:Int)<((x.els.length:Nat):Int)
  ·refine wcp true rfl (mH h36) (go 13 ?_)
   exact bHe (s':=⟨bx,rw⟩) rfl sb2 ⟨cX (by rw [bLr,show d9 x=true by unfold d9;rw [h27,decide_eq_false (show ¬x.els.length=0 by omega)];rfl];simp),rfl⟩
  refine wcp false rfl (mI h36) (go 13 ?_)
  rcases Bool.eq_false_or_eq_true (x.args.any fun a=>!fY a) with h39|h39
  ·refine bK8 0 rfl call176 rfl (bMq (fun a=>!fY a) x.args 177 #[] _ (by omega) call177 (fun k hk=>bNb _ (hsa _ (getElem_mem _)) (by have:=aDf x.args k hk;omega) _)) h39 (go 10 ?_)
   exact bHe (s':=⟨bx,rw⟩) rfl sb2 ⟨cX (by rw [bLr,bO1 h39];simp),rfl⟩
  refine bK8 0 rfl call176 rfl (bMq (fun a=>!fY a) x.args 177 #[] _ (by omega) call177 (fun k hk=>bNb _ (hsa _ (getElem_mem _)) (by have:=aDf x.args k hk;omega) _)) h39 (go 8 ?_)
  rcases Bool.eq_false_or_eq_true (isB x) with h42|h42
  ·refine wyz rfl (fL (bZ h42) (aX [] rfl rfl rfl isAgg4 sizeOf4 rfl (fun _ h=>by cases h))) (go 5 ?_)
   refine wad rfl ?_
   rcases Bool.eq_false_or_eq_true (bM (D+1) x.thn) with h43|h43
   ·refine bK8 0 rfl call114 rfl (ih1 _) h43 (go 4 ?_)
    refine wcp true rfl (eR (by omega)) (go 13 ?_)
    exact bHe (s':=⟨bx,rw⟩) rfl sb2 ⟨cX (by rw [bLr,h1,h5,h8,h11,h14,h17,h20,h23,h26,show d9 x=false by unfold d9;rw [h27,decide_eq_true (show x.els.length=0 by omega)];rfl,bMb h39,show e1 D x=true by unfold e1;rw [h42,h43,decide_eq_true (show x.els.length=0 by omega)];rfl];rfl),rfl⟩
   refine bK8 0 rfl call114 rfl (ih1 _) h43 (go 18 ?_)
   exact bHe (s':=⟨bx,rw⟩) rfl sb2 ⟨cX (by rw [bLr,h1,h5,h8,h11,h14,h17,h20,h23,h26,show d9 x=false by unfold d9;rw [h27,decide_eq_true (show x.els.length=0 by omega)];rfl,bMb h39,show e1 D x=false by unfold e1;rw [h42,h43];rfl];rfl),rfl⟩
  refine wyz rfl (fL (bZ h42) (aX [] rfl rfl rfl isAgg4 sizeOf4 rfl (fun _ h=>by cases h))) (go 25 ?_)
  exact bHe (s':=⟨bx,rw⟩) rfl sb2 ⟨cX (by rw [bLr,h1,h5,h8,h11,h14,h17,h20,h23,h26,show d9 x=false by unfold d9;rw [h27,decide_eq_true (show x.els.length=0 by omega)];rfl,bMb h39,show e1 D x=true by unfold e1;rw [h42];rfl];rfl),rfl⟩
 refine wyz rfl (fL (bZ (aKt h1)) (lF rfl rfl)) (go 15 ?_)
 exact bHe (s':=⟨bx,rw⟩) rfl sb2 ⟨cX (by rw [bLr,h1];simp),rfl⟩
theorem bOq(D:Nat)(x:aJ)(d:Nat)(bx:List Box)(rw:List bA)(hst:∀s:Sto,aL prog 146 [bK5 (.agg (dG x)),nI D] [] s fun t s'=>t=.c (.val (.bool (bK9 D x))) /\ s'=s):aL prog 145 [bK5 (.agg (dG x)),pP d] [] ⟨⟨d,3,[nC D]⟩::bx,rw⟩ fun t s'=>t=.c (.val (.bool (!bK9 D x))) /\ s'=⟨⟨d,3,[nC D]⟩::bx,rw⟩:=by
 refine acB func145 rfl ?_
 show AWp prog _ ⟨8,_,⟨⟨d,3,[nC D]⟩::bx,rw⟩,[(0,bK5 (.agg (dG x))),(1,pP d)]⟩ _
 refine go 10 fun b1=>?_
 rcases Bool.eq_false_or_eq_true (bK9 D x) with h1|h1
 ·refine bK8 0 rfl call146 rfl (hst _) h1 (go 5 ?_)
  exact ⟨.inr rfl,_,⟨⟨d,3,[nC D]⟩::bx,rw⟩,aR rfl (aF rfl),aA (.cons _ (.refl _)) (.refl _),cX (by rw [h1];rfl),rfl⟩
 refine bK8 0 rfl call146 rfl (hst _) h1 (go 5 ?_)
 exact ⟨.inr rfl,_,⟨⟨d,3,[nC D]⟩::bx,rw⟩,aR rfl (aF rfl),aA (.cons _ (.refl _)) (.refl _),cX (by rw [h1];rfl),rfl⟩
theorem bM5(D:Nat)(l:List aJ)(hl:l.length <= 1000000000)(hst:D<24 -> ∀k (h:k<l.length) (s:Sto),aL prog 146 [bK5 (.agg (dG l[k])),nI D] [] s fun t s'=>t=.c (.val (.bool (bK9 D l[k]))) /\ s'=s)(s:Sto):aL prog 114 [bK5 (.c (.sl l.length (l.flatMap encS))),nI D] [] s fun t s'=>t=.c (.val (.bool (bM D l))) /\ s'=s:=by
 obtain ⟨bx,rw⟩:=s
 refine acB func114 rfl ?_
 show AWp prog _ ⟨11,_,⟨bx,rw⟩,[(0,bK5 (.c (.sl l.length (l.flatMap encS)))),(1,nI D)]⟩ _
 refine go 10 fun b1=>?_
 by_cases h1:(24:Int) <= ((D:Nat):Int)
 ·refine wcp true rfl (aMq h1) (go 10 ?_)
  exact bHe (s':=⟨bx,rw⟩) rfl sb1 ⟨cX (by rw [bLq,decide_eq_false (by omega)];rfl),rfl⟩
 refine wcp false rfl (aMx h1) (go 8 ?_)
 refine wyz rfl (bMs (vs:=[.pointer (some ⟨b1,0,none⟩)]) rfl rfl) ?_
 rcases Bool.eq_false_or_eq_true (l.any fun x=>!bK9 D x) with h4|h4
 ·refine bK8 0 rfl call144 rfl (bN0 (fun x=>!bK9 D x) l 145 #[.pointer (some ⟨b1,0,none⟩)] _ hl call145 (fun k hk=>bOq D l[k] _ _ _ (hst (by omega) k hk))) h4 (go 5 ?_)
  exact bHe (s':=⟨bx,rw⟩) rfl sb1 ⟨cX (by rw [bLq,decide_eq_true (by omega),bO1 h4];rfl),rfl⟩
 refine bK8 0 rfl call144 rfl (bN0 (fun x=>!bK9 D x) l 145 #[.pointer (some ⟨b1,0,none⟩)] _ hl call145 (fun k hk=>bOq D l[k] _ _ _ (hst (by omega) k hk))) h4 (go 5 ?_)
 exact bHe (s':=⟨bx,rw⟩) rfl sb1 ⟨cX (by rw [bLq,decide_eq_true (by omega),bMb h4];rfl),rfl⟩
theorem bMw:∀(N D:Nat)(l:List aJ),wtS l <= N -> N <= 900000000 -> D <= 24 -> gC l -> ∀s:Sto,aL prog 114 [bK5 (.c (.sl l.length (l.flatMap encS))),nI D] [] s fun t s'=>t=.c (.val (.bool (bM D l))) /\ s'=s
 |0,D,l,h,_,_,_,s=>bM5 D l (by have:=uZ l;omega) (fun _ k hk=>absurd (uZ l) (by omega)) s
 |N+1,D,l,h,hN,hD,hs,s=>bM5 D l (by have:=uZ l;omega) (fun hd k hk s=>by
   have hw:=uF l k hk
   have h1:=hw
   rw [gD] at h1
   have hsk:=oS _ hs _ (getElem_mem hk)
   obtain ⟨-,-,-,-,hst,hsf⟩:=yW hsk
   exact bPf D l[k] hsk (by omega) (by omega) (fun s=>bMw N (D+1) _ (by omega) (by omega) (by omega) hst s) (fun s=>bMw N (D+1) _ (by omega) (by omega) (by omega) hsf s) s) s
theorem bPr(x:aS)(hx:x.name.size <= 4611686018427387904)(s:Sto):aL prog 113 [bK5 (.agg (cP x))] [] s fun t s'=>t=.c (.val (.bool (!bQ x.name))) /\ s'=s:=by
 obtain ⟨bx,rw⟩:=s
 refine acB func113 rfl ?_
 show AWp prog _ ⟨7,_,⟨bx,rw⟩,[(0,bK5 (.agg (cP x)))]⟩ _
 refine go 10 fun b1=>?_
 rcases Bool.eq_false_or_eq_true (bQ x.name) with h1|h1
 ·refine bK8 0 rfl call110 rfl (bLp x.name hx _) h1 (go 5 ?_)
  exact bHe (s':=⟨bx,rw⟩) rfl sb1 ⟨cX (by rw [h1];rfl),rfl⟩
 refine bK8 0 rfl call110 rfl (bLp x.name hx _) h1 (go 5 ?_)
 exact bHe (s':=⟨bx,rw⟩) rfl sb1 ⟨cX (by rw [h1];rfl),rfl⟩
theorem bPw(f:bS)(hs:f.sane)(hw:f.wt <= 900000000)(s:Sto):aL prog 74 [bK5 (.agg (fV f))] [] s fun t s'=>t=.c (.val (.bool (gW f))) /\ s'=s:=by
 obtain ⟨bx,rw⟩:=s
 unfold bS.wt at hw
 refine acB func74 rfl ?_
 show AWp prog _ ⟨23,_,⟨bx,rw⟩,[(0,bK5 (.agg (fV f)))]⟩ _
 refine go 10 fun b1=>?_
 rcases Bool.eq_false_or_eq_true (bQ f.name) with h1|h1
 ·refine bK8 0 rfl call110 rfl (bLp f.name hs.1 _) h1 (go 4 ?_)
  by_cases h2:((f.params.length:Nat):Int) <= 6
  ·refine wcp true rfl (aPz h2) (go 4 ?_)
   rcases Bool.eq_false_or_eq_true (f.params.any fun x=>!bQ x.name) with h3|h3
   ·refine bK8 0 rfl call112 rfl (bNh (fun x=>!bQ x.name) f.params 113 #[] _ (by omega) call113 (fun k hk=>bPr _ (hs.2.1 _ (getElem_mem _)) _)) h3 (go 11 ?_)
    exact bHe (s':=⟨bx,rw⟩) rfl sb1 ⟨cX (by unfold gW;rw [bO1 (f:=fun x:aS=>bQ x.name) h3,Bool.and_false]),rfl⟩
   refine bK8 0 rfl call112 rfl (bNh (fun x=>!bQ x.name) f.params 113 #[] _ (by omega) call113 (fun k hk=>bPr _ (hs.2.1 _ (getElem_mem _)) _)) h3 (go 5 ?_)
   rcases Bool.eq_false_or_eq_true (bM 0 f.body) with h4|h4
   ·refine bK8 0 rfl call114 rfl (bMw _ 0 f.body (Nat.le_refl _) (by omega) (by omega) hs.2.2 _) h4 (go 5 ?_)
    exact bHe (s':=⟨bx,rw⟩) rfl sb1 ⟨cX (by unfold gW;rw [h1,decide_eq_true (show f.params.length <= 6 by omega),bMb (f:=fun x:aS=>bQ x.name) h3,h4];rfl),rfl⟩
   refine bK8 0 rfl call114 rfl (bMw _ 0 f.body (Nat.le_refl _) (by omega) (by omega) hs.2.2 _) h4 (go 5 ?_)
   exact bHe (s':=⟨bx,rw⟩) rfl sb1 ⟨cX (by unfold gW;rw [h1,decide_eq_true (show f.params.length <= 6 by omega),bMb (f:=fun x:aS=>bQ x.name) h3,h4];rfl),rfl⟩
  refine wcp false rfl (aPx h2) (go 16 ?_)
  exact bHe (s':=⟨bx,rw⟩) rfl sb1 ⟨cX (by unfold gW;rw [h1,decide_eq_false (show ¬f.params.length <= 6 by omega)];rfl),rfl⟩
 refine bK8 0 rfl call110 rfl (bLp f.name hs.1 _) h1 (go 21 ?_)
 exact bHe (s':=⟨bx,rw⟩) rfl sb1 ⟨cX (by unfold gW;rw [h1];rfl),rfl⟩
theorem bPy(f:bS)(hs:f.sane)(hw:f.wt <= 900000000)(s:Sto):aL prog 73 [bK5 (.agg (fV f))] [] s fun t s'=>t=.c (.val (.bool (!gW f))) /\ s'=s:=by
 obtain ⟨bx,rw⟩:=s
 refine acB func73 rfl ?_
 show AWp prog _ ⟨6,_,⟨bx,rw⟩,[(0,bK5 (.agg (fV f)))]⟩ _
 refine go 9 fun b1=>?_
 rcases Bool.eq_false_or_eq_true (gW f) with h1|h1
 ·refine bK8 0 rfl call74 rfl (bPw f hs hw _) h1 (go 5 ?_)
  exact bHe (s':=⟨bx,rw⟩) rfl sb1 ⟨cX (by rw [h1];rfl),rfl⟩
 refine bK8 0 rfl call74 rfl (bPw f hs hw _) h1 (go 5 ?_)
 exact bHe (s':=⟨bx,rw⟩) rfl sb1 ⟨cX (by rw [h1];rfl),rfl⟩
def bL1(p:cK):Bool:=decide (p.globals.length <= 16 /\ p.mutexes.length <= 12 /\ p.funcs.length <= 16) && p.globals.all gH && p.mutexes.all fS
theorem bN6{p:cK}(h:¬(p.globals.length <= 16 /\ p.mutexes.length <= 12 /\ p.funcs.length <= 16)):bL1 p=false:=by unfold bL1;rw [decide_eq_false h];rfl
theorem bR2{p:cK}(k:Nat)(h:k<p.globals.length)(hb:gH p.globals[k]=false):bL1 p=false:=by unfold bL1;rw [oA _ _ k h hb];simp
theorem bPu{p:cK}(k:Nat)(h:k<p.mutexes.length)(hb:fS p.mutexes[k]=false):bL1 p=false:=by unfold bL1;rw [oA _ _ k h hb];simp
theorem bP0(p:cK)(hs:p.sane)(hw:p.wt <= 100000000)(s:Sto):aL prog 71 [bK5 (.agg (jV p))] [] s fun t s'=>t=.c (.val (.bool (bL1 p))) /\ s'=s:=by
 obtain ⟨bx,rw⟩:=s
 have hw1:=hw
 unfold cK.wt at hw1
 have hfn:=aDr bS.wt (fun x=>by unfold bS.wt;omega) p.funcs
 refine acB func71 rfl ?_
 show AWp prog _ ⟨71,_,⟨bx,rw⟩,[(0,bK5 (.agg (jV p)))]⟩ _
 refine go 12 fun b1=>?_
 by_cases h1:(16:Int)<((p.globals.length:Nat):Int)
 ·refine wcp true rfl (mH h1) (go 22 ?_)
  exact bHe (s':=⟨bx,rw⟩) rfl sb1 ⟨cX (bN6 (by omega)),rfl⟩
 refine wcp false rfl (mI h1) (go 4 ?_)
 by_cases h3:(12:Int)<((p.mutexes.length:Nat):Int)
 ·refine wcp true rfl (mH h3) (go 17 ?_)
  exact bHe (s':=⟨bx,rw⟩) rfl sb1 ⟨cX (bN6 (by omega)),rfl⟩
 refine wcp false rfl (mI h3) (go 5 ?_)
 by_cases h5:(16:Int)<((p.funcs.length:Nat):Int)
 ·refine wcp true rfl (mH h5) (go 11 ?_)
  exact bHe (s':=⟨bx,rw⟩) rfl sb1 ⟨cX (bN6 (by omega)),rfl⟩
 refine wcp false rfl (mI h5) (go 16 ?_)
 refine lE (fun k=>∀q (h:q<p.globals.length),q<k -> gH p.globals[q]=true) (p.globals.length) 26 (fun k=>[(0,bK5 (.agg (jV p))),(1,pP b1),(24,.c (.sl p.globals.length (p.globals.flatMap dB))),(25,nI p.globals.length)]) (fun _ _ h=>absurd h (by omega)) (sA rfl) fun k hk hvk=>?_
 replace hvk:∀q (h:q<p.globals.length),q<k -> gH p.globals[q]=true:=hvk
 show AWp prog _ ⟨71,_,_,(26,nI k)::[(0,bK5 (.agg (jV p))),(1,pP b1),(24,.c (.sl p.globals.length (p.globals.flatMap dB))),(25,nI p.globals.length)]⟩ _
 refine go 2 ?_
 by_cases h8:((k:Nat):Int)<((p.globals.length:Nat):Int)
 ·refine wcp true rfl (jZ h8) (go 10 ?_)
  refine wyz rfl (bH dB dB p.globals nS (fun _=>rfl) k rfl rfl rfl rfl (by omega) (by decide) runUnderlying26 sizeOf86) (go 7 fun b2=>?_)
  have hgs:=hs.globals p.globals[k] (getElem_mem _)
  refine go 2 ?_
  rcases Bool.eq_false_or_eq_true (bQ p.globals[k].name) with h10|h10
  ·refine bK8 0 rfl call110 rfl (bLp p.globals[k].name hgs.2 _) h10 (go 4 ?_)
   by_cases h11:p.globals[k].init=-9223372036854775808
   ·refine wcp true rfl (eR h11) (go 15 ?_)
    exact bHe (s':=⟨bx,rw⟩) rfl sb2 ⟨cX (bR2 k (by omega) (by unfold gH;rw [h10,decide_eq_false (by omega)];rfl)),rfl⟩
   refine wcp false rfl (eD h11) (go 8 ?_)
   refine wad rfl (go 2 ?_)
   exact ⟨by omega,(fun q hq hlt2=>(Nat.lt_or_ge q k).elim (fun h9=>hvk q hq h9) (fun h9=>by have h8:k=q:=(by omega);subst h8;exact (by unfold gH;rw [h10,decide_eq_true (by omega)];rfl))),cA (.cons _ (.refl _)) (.refl _) (fun b hb=>List.mem_cons_of_mem _ (hb)) (aG rfl (gQ (by omega)) (sA rfl))⟩
  refine bK8 0 rfl call110 rfl (bLp p.globals[k].name hgs.2 _) h10 (go 20 ?_)
  exact bHe (s':=⟨bx,rw⟩) rfl sb2 ⟨cX (bR2 k (by omega) (by unfold gH;rw [h10];rfl)),rfl⟩
 refine wcp false rfl (jQ h8) (go 19 ?_)
 refine lE (fun i=>∀q (h:q<p.mutexes.length),q<i -> fS p.mutexes[q]=true) (p.mutexes.length) 43 (fun i=>[(0,bK5 (.agg (jV p))),(1,pP b1),(41,.c (.sl p.mutexes.length (p.mutexes.flatMap bT))),(42,nI p.mutexes.length)]) (fun _ _ h=>absurd h (by omega)) (sA rfl) fun i hi hvi=>?_
 replace hvi:∀q (h:q<p.mutexes.length),q<i -> fS p.mutexes[q]=true:=hvi
 show AWp prog _ ⟨71,_,_,(43,nI i)::[(0,bK5 (.agg (jV p))),(1,pP b1),(41,.c (.sl p.mutexes.length (p.mutexes.flatMap bT))),(42,nI p.mutexes.length)]⟩ _
 refine go 2 ?_
 by_cases h16:((i:Nat):Int)<((p.mutexes.length:Nat):Int)
 ·refine wcp true rfl (jZ h16) (go 10 ?_)
  refine wyz rfl (bH bT bT p.mutexes mZ (fun _=>rfl) i rfl rfl rfl rfl (by omega) (by decide) runUnderlying27 sizeOf70) (go 7 fun b3=>?_)
  have hms:=hs.mutexes p.mutexes[i] (getElem_mem _)
  refine go 2 ?_
  rcases Bool.eq_false_or_eq_true (bQ p.mutexes[i].name) with h18|h18
  ·refine bK8 0 rfl call110 rfl (bLp p.mutexes[i].name hms.2 _) h18 (go 4 ?_)
   by_cases h19:p.mutexes[i].size<0
   ·refine wcp true rfl (jZ h19) (go 29 ?_)
    exact bHe (s':=⟨bx,rw⟩) rfl sb2 ⟨cX (bPu i (by omega) (by unfold fS;rw [decide_eq_false (show ¬(0 <= p.mutexes[i].size /\ p.mutexes[i].size <= 64) by omega)];simp)),rfl⟩
   refine wcp false rfl (jQ h19) (go 4 ?_)
   by_cases h21:(64:Int)<p.mutexes[i].size
   ·refine wcp true rfl (mH h21) (go 24 ?_)
    exact bHe (s':=⟨bx,rw⟩) rfl sb2 ⟨cX (bPu i (by omega) (by unfold fS;rw [decide_eq_false (show ¬(0 <= p.mutexes[i].size /\ p.mutexes[i].size <= 64) by omega)];simp)),rfl⟩
   refine wcp false rfl (mI h21) (go 3 ?_)
   rcases Bool.eq_false_or_eq_true (p.mutexes[i].reentrant) with h23|h23
   ·refine wyz rfl (fL (bZ h23) (aX [] rfl rfl rfl isAgg4 sizeOf4 rfl (fun _ h=>by cases h))) (go 3 ?_)
    by_cases h24:(0:Int)<p.mutexes[i].size
    ·refine wcp true rfl (mH h24) (go 16 ?_)
     exact bHe (s':=⟨bx,rw⟩) rfl sb2 ⟨cX (bPu i (by omega) (by unfold fS;rw [h18,decide_eq_true (show 0 <= p.mutexes[i].size /\ p.mutexes[i].size <= 64 by omega),h23,decide_eq_true (show 0<p.mutexes[i].size by omega)];rfl)),rfl⟩
    refine wcp false rfl (mI h24) (go 9 ?_)
    refine wad rfl (go 2 ?_)
    exact ⟨by omega,(fun q hq hlt2=>(Nat.lt_or_ge q i).elim (fun h9=>hvi q hq h9) (fun h9=>by have h8:i=q:=(by omega);subst h8;exact (by unfold fS;rw [h18,decide_eq_true (show 0 <= p.mutexes[i].size /\ p.mutexes[i].size <= 64 by omega),h23,decide_eq_false (show ¬0<p.mutexes[i].size by omega)];rfl))),cA (.cons _ (.refl _)) (.refl _) (fun b hb=>List.mem_cons_of_mem _ (hb)) (aG rfl (gQ (by omega)) (sA rfl))⟩
   refine wyz rfl (fL (bZ h23) (aX [] rfl rfl rfl isAgg4 sizeOf4 rfl (fun _ h=>by cases h))) (go 13 ?_)
   refine wad rfl (go 2 ?_)
   exact ⟨by omega,(fun q hq hlt2=>(Nat.lt_or_ge q i).elim (fun h9=>hvi q hq h9) (fun h9=>by have h8:i=q:=(by omega);subst h8;exact (by unfold fS;rw [h18,decide_eq_true (show 0 <= p.mutexes[i].size /\ p.mutexes[i].size <= 64 by omega),h23];rfl))),cA (.cons _ (.refl _)) (.refl _) (fun b hb=>List.mem_cons_of_mem _ (hb)) (aG rfl (gQ (by omega)) (sA rfl))⟩
  refine bK8 0 rfl call110 rfl (bLp p.mutexes[i].name hms.2 _) h18 (go 34 ?_)
  exact bHe (s':=⟨bx,rw⟩) rfl sb2 ⟨cX (bPu i (by omega) (by unfold fS;rw [h18];rfl)),rfl⟩
 refine wcp false rfl (jQ h16) (go 15 ?_)
 exact bHe (s':=⟨bx,rw⟩) rfl sb1 ⟨cX (by unfold bL1;rw [decide_eq_true (by omega),yD _ _ (fun q hq=>hvk q hq (by omega)),yD _ _ (fun q hq=>hvi q hq (by omega))];rfl),rfl⟩
end
end Go.Proofs.YtojinfngbbajgaaGreatDoor
