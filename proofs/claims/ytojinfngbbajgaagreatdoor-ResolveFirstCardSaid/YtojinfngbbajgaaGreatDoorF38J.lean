import Derived.Test.YtojinfngbbajgaaGreatDoorF15J
set_option linter.all false
set_option synthInstance.maxHeartbeats 1000000
set_option synthInstance.maxSize 1000000
namespace Go.Proofs.YtojinfngbbajgaaGreatDoor
open List (length_append length_cons length_nil mem_append mem_cons not_mem_nil append_assoc getElem_mem take_of_length_le)
section
def hG(fs fs':Fns):Prop:=∀s,(bZu fs s).map bS.params=(bZu fs' s).map bS.params
theorem hG.put{fs fs':Fns}(h:hG fs fs')(k:ByteArray){f f':bS}(hp:f.params=f'.params):hG (bZq fs k f) (bZq fs' k f'):=fun s=>by
 rw [cBo,cBo];split
 ·simp [hp]
 exact h s
theorem cEy:∀(l l':List bS)(m m':Fns),l.map (fun f=>(f.name,f.params))=l'.map (fun f=>(f.name,f.params)) -> hG m m' -> hG (l.foldl (fun m f=>bZq m f.name f) m) (l'.foldl (fun m f=>bZq m f.name f) m')
 |[],[],_,_,_,h=>h
 |[],_::_,_,_,e,_=>by simp at e
 |_::_,[],_,_,e,_=>by simp at e
 |f::l,f'::l',m,m',e,h=>by
  simp only [List.map_cons,List.cons.injEq,Prod.mk.injEq] at e
  rw [List.foldl_cons,List.foldl_cons,←e.1.1]
  exact cEy l l' _ _ e.2 (h.put f.name e.1.2)
section
variable {fs fs':Fns}(hs:hG fs fs')
include hs
theorem cE1(v:Vis)(n:ByteArray)(al:List eN):cAx v fs n al=cAx v fs' n al:=by
 have h:=hs n
 unfold cAx
 rcases h1:bZu fs n with _|f<;>rcases h2:bZu fs' n with _|f'<;>rw [h1,h2] at h<;>simp at h
 show (if _ then _ else if _ then (if al.length=f.params.length then bZ3 v al f.params else 7) else _)=(if _ then _ else if _ then (if al.length=f'.params.length then bZ3 v al f'.params else 7) else _)
 rw [h]
theorem cEz(v:Vis)(s:aJ):bZ5 v fs s=bZ5 v fs' s:=by unfold bZ5;rw [cE1 hs]
end
mutual
theorem cE2{fs fs':Fns}(hs:hG fs fs'):∀(s:aJ)(x:RS),bZ4 fs s x=bZ4 fs' s x
 |.mk k name e r args t f,x=>by
  rw [bZ4,bZ4,cEz hs,fN hs t [] (cAy (.mk k name e r args t f) x),fN hs f [] (cA7 (bZr fs' t [] (cAy (.mk k name e r args t f) x))).2]
theorem fN{fs fs':Fns}(hs:hG fs fs'):∀(l:List aJ)(own:List ByteArray)(x:RS),bZr fs l own x=bZr fs' l own x
 |[],_,_=>by rw [bZr,bZr]
 |s::l,own,x=>by rw [bZr,bZr,cE2 hs s x,fN hs l (cCp s own) (bZ4 fs' s x).2]
end
theorem cE3{fs fs':Fns}(hs:hG fs fs')(f:bS)(v:Vis):cAe fs f v=cAe fs' f v:=by unfold cAe bZ2;rw [fN hs]
theorem cEs(fs:Fns):∀(l:List bS)(i:Nat)(v:Vis),(cAg fs l i v).2.2≠0 -> (i:Int) <= (cAg fs l i v).1 /\ (cAg fs l i v).1<(i:Int)+(l.length:Int)
 |[],i,v,h=>by rw [cAg] at h;exact absurd rfl h
 |f::r,i,v,h=>by
  rw [cAg] at h⊢
  by_cases h0:(cAe fs f v).1=0
  ·rw [if_pos h0] at h⊢
   have:=cEs fs r (i+1) _ h
   simp only [length_cons];omega
  rw [if_neg h0]
  simp only [length_cons];omega
theorem cEu{fs fs':Fns}(hs:hG fs fs'):∀(l:List bS)(k:Nat)(f':bS)(i:Nat)(v:Vis),(cAg fs l i v).2.2≠0 -> (cAg fs l i v).1<(i:Int)+(k:Int) -> cAg fs' (l.set k f') i v=cAg fs l i v
 |[],k,f',i,v,h,_=>by rw [cAg] at h;exact absurd rfl h
 |f::r,0,f',i,v,h,h2=>by have:=(cEs fs (f::r) i v h).1;omega
 |f::r,k+1,f',i,v,h,h2=>by
  rw [List.set_cons_succ,cAg,cAg,←cE3 hs]
  rw [cAg] at h h2
  split
  ·rename_i h0
   rw [if_pos h0] at h h2
   exact cEu hs r k f' (i+1) _ h (by omega)
  rfl
theorem cE4{p:cK}{f s:Int}{e:Nat}(h:cAb p=(f,s,e))(he:e≠0):-1 <= f /\ f<(p.funcs.length:Int):=by
 unfold cAb at h
 split at h
 ·cases h;omega
 split at h
 ·cases h;omega
 split at h
 ·have:=cEs (bZ7 p.funcs) p.funcs 0 (bZz (bZs p) [] 0).2 (by rw [h];exact he)
  rw [h] at this;omega
 cases h;omega
theorem cEv{α β:Type}(g:α -> β):∀(l:List α)(k:Nat)(a:α)(hk:k<l.length),g a=g l[k] -> (l.set k a).map g=l.map g
 |[],_,_,hk,_=>by simp at hk
 |x::l,0,a,hk,h=>by simp at h⊢;exact h
 |x::l,k+1,a,hk,h=>by
  simp only [List.set_cons_succ,List.map_cons,List.cons.injEq,true_and]
  exact cEv g l k a (by simpa using hk) (by simpa using h)
theorem cEx{p:cK}{f s:Int}{e:Nat}(h:cAb p=(f,s,e))(he:e≠0)(hf:0 <= f)(k:Nat)(hk:k<p.funcs.length)(hfk:f<(k:Int))(b:List aJ):
  cAb ⟨p.globals,p.mutexes,p.funcs.set k ⟨p.funcs[k].name,p.funcs[k].params,b⟩⟩=(f,s,e)∨cAb ⟨p.globals,p.mutexes,p.funcs.set k ⟨p.funcs[k].name,p.funcs[k].params,b⟩⟩=(-1,-1,10):=by
 by_cases hv:jI ⟨p.globals,p.mutexes,p.funcs.set k ⟨p.funcs[k].name,p.funcs[k].params,b⟩⟩=false
 ·right;unfold cAb;rw [if_pos hv]
 left
 have hn:(p.funcs.set k ⟨p.funcs[k].name,p.funcs[k].params,b⟩).map (fun f=>(f.name,f.params))=p.funcs.map (fun f=>(f.name,f.params)):=cEv _ _ _ _ hk rfl
 have hso:bZs ⟨p.globals,p.mutexes,p.funcs.set k ⟨p.funcs[k].name,p.funcs[k].params,b⟩⟩=bZs p:=by
  unfold bZs;dsimp only;rw [cEv (fun f:bS=>(f.name,(5:Int))) p.funcs k ⟨p.funcs[k].name,p.funcs[k].params,b⟩ hk rfl]
 have hsim:hG (bZ7 p.funcs) (bZ7 (p.funcs.set k ⟨p.funcs[k].name,p.funcs[k].params,b⟩)):=cEy _ _ _ _ hn.symm (fun _=>rfl)
 have hm:cA9 ⟨p.globals,p.mutexes,p.funcs.set k ⟨p.funcs[k].name,p.funcs[k].params,b⟩⟩=cA9 p:=by
  have h1:=hsim cCg
  unfold cA9;dsimp only
  rcases h2:bZu (bZ7 p.funcs) cCg with _|g<;>rcases h3:bZu (bZ7 (p.funcs.set k ⟨p.funcs[k].name,p.funcs[k].params,b⟩)) cCg with _|g'<;>rw [h2,h3] at h1<;>simp at h1⊢
  rw [h1]
 unfold cAb
 rw [if_neg hv,hso,hm]
 unfold cAb at h
 split at h
 ·cases h;omega
 split at h
 ·cases h;omega
 rename_i hd
 skip
 by_cases hmm:cA9 p=true
 ·rw [if_pos hmm] at h⊢
  show cAg (bZ7 (p.funcs.set k ⟨p.funcs[k].name,p.funcs[k].params,b⟩)) (p.funcs.set k ⟨p.funcs[k].name,p.funcs[k].params,b⟩) 0 _=_
  rw [cEu hsim p.funcs k _ 0 _ (by rw [h];exact he) (by rw [h];show f<_;omega),h]
 rw [if_neg hmm] at h;cases h;omega
end
end Go.Proofs.YtojinfngbbajgaaGreatDoor
