import Derived.Test.YtojinfngbbajgaaGreatDoorF5J
import Derived.Test.YtojinfngbbajgaaGreatDoorF13J
set_option linter.all false
set_option synthInstance.maxHeartbeats 1000000
set_option synthInstance.maxSize 1000000
namespace Go.Proofs.YtojinfngbbajgaaGreatDoor
open List (length_append length_cons length_nil mem_append mem_cons not_mem_nil append_assoc getElem_mem take_of_length_le)
section
open Go.RowKit
theorem tP{tabs:List UInt8}{s:aJ}(h:s.kind=1):bY tabs s=tabs++([118,97,114,32]++s.name.data.toList++[32,61,32]++aP s.expr++[59])++[10]:=by
 obtain ⟨kind,name,e,r,args,t,el⟩:=s
 obtain rfl:kind=1:=h
 rw [bY];rfl
theorem tT{tabs:List UInt8}{s:aJ}(h:s.kind=2):bY tabs s=tabs++(s.name.data.toList++[32,61,32]++aP s.expr++[59])++[10]:=by
 obtain ⟨kind,name,e,r,args,t,el⟩:=s
 obtain rfl:kind=2:=h
 rw [bY];rfl
theorem tZ{tabs:List UInt8}{s:aJ}(h:s.kind=3):bY tabs s=tabs++(s.name.data.toList++dF s.args++[59])++[10]:=by
 obtain ⟨kind,name,e,r,args,t,el⟩:=s
 obtain rfl:kind=3:=h
 rw [bY];rfl
theorem tH{tabs:List UInt8}{s:aJ}(h:s.kind=4):bY tabs s=tabs++([103,111,32]++s.name.data.toList++dF s.args++[59])++[10]:=by
 obtain ⟨kind,name,e,r,args,t,el⟩:=s
 obtain rfl:kind=4:=h
 rw [bY];rfl
theorem uD{tabs:List UInt8}{s:aJ}(h:s.kind=5):bY tabs s=tabs++([108,111,99,107,32]++dC s.ref++[59])++[10]:=by
 obtain ⟨kind,name,e,r,args,t,el⟩:=s
 obtain rfl:kind=5:=h
 rw [bY];rfl
theorem tI{tabs:List UInt8}{s:aJ}(h:s.kind=6):bY tabs s=tabs++([117,110,108,111,99,107,32]++dC s.ref++[59])++[10]:=by
 obtain ⟨kind,name,e,r,args,t,el⟩:=s
 obtain rfl:kind=6:=h
 rw [bY];rfl
theorem pU{tabs:List UInt8}{s:aJ}(h:s.kind=7):bY tabs s=tabs++([105,102,32]++aP s.expr++[32,123,10]++aC (tabs++[9]) s.thn++tabs++[125]++(if s.els.length=0 then [] else [32,101,108,115,101,32,123,10]++aC (tabs++[9]) s.els++tabs++[125]))++[10]:=by
 obtain ⟨kind,name,e,r,args,t,el⟩:=s
 obtain rfl:kind=7:=h
 rw [bY];rfl
theorem pV{tabs:List UInt8}{s:aJ}(h:s.kind=8):bY tabs s=tabs++([119,104,105,108,101,32]++aP s.expr++[32,123,10]++aC (tabs++[9]) s.thn++tabs++[125]++(if s.els.length=0 then [] else [32,101,108,115,101,32,123,10]++aC (tabs++[9]) s.els++tabs++[125]))++[10]:=by
 obtain ⟨kind,name,e,r,args,t,el⟩:=s
 obtain rfl:kind=8:=h
 rw [bY];rfl
theorem uB{tabs:List UInt8}{s:aJ}(h:¬s.kind=1 /\ ¬s.kind=2 /\ ¬s.kind=3 /\ ¬s.kind=4 /\ ¬s.kind=5 /\ ¬s.kind=6 /\ ¬s.kind=7 /\ ¬s.kind=8):bY tabs s=tabs++[114,101,116,117,114,110,59]++[10]:=by
 obtain ⟨kind,name,e,r,args,t,el⟩:=s
 obtain ⟨h1,h2,h3,h4,h5,h6,h7,h8⟩:=h
 simp only [aJ.kind] at h1 h2 h3 h4 h5 h6 h7 h8
 rw [bY,if_neg h1,if_neg h2,if_neg h3,if_neg h4,if_neg h5,if_neg h6,if_neg (fun h=>h.elim h7 h8)]
theorem dX(tabs:List UInt8)(l:List aJ)(k:Nat)(hk:k<l.length):aC tabs (l.take (k+1))=aC tabs (l.take k)++bY tabs l[k]:=by
 rw [List.take_succ_eq_append_getElem hk,oX,aC,aC,List.append_nil]
theorem nQ(tabs:List UInt8):∀(l:List aJ)(k:Nat),(aC tabs (l.take k)).length <= (aC tabs l).length
 |[],k=>by simp
 |s::l,0=>by rw [List.take_zero,aC];simp
 |s::l,k+1=>by have:=nQ tabs l k;rw [List.take_succ_cons,aC,aC,length_append,length_append];omega
structure OkS (D:Nat) (s:aJ):Prop where
 name:s.name.data.toList.length <= 4611686018427387904
 expr:(s.kind=1∨s.kind=2∨s.kind=7∨s.kind=8) -> eO s.expr=true
 ref:(s.kind=5∨s.kind=6) -> okRefB s.ref=true
 args:∀a,a∈s.args -> fY a=true
 thn:(s.kind=7∨s.kind=8) -> bM (D+1) s.thn=true
 els:s.els.length=0∨bM (D+1) s.els=true
 saneE:s.expr.sane
 saneR:s.ref.sane
 saneA:∀a,a∈s.args -> a.sane
 saneT:gC s.thn
 saneF:gC s.els
theorem aHv{D:Nat}{s:aJ}(hs:s.sane)(h:bK9 D s=true):OkS D s:=by
 obtain ⟨k,n,e,r,args,t,el⟩:=s
 rw [aJ.sane] at hs
 rw [bK9] at h
 obtain ⟨hn,he,hr,ha,ht,hel⟩:=hs
 simp only [Bool.and_eq_true,Bool.or_eq_true,decide_eq_true_eq] at h
 obtain ⟨⟨⟨⟨⟨⟨⟨h1,h2⟩,h3⟩,h4⟩,h5⟩,h6⟩,h7⟩,h8⟩:=h
 exact ⟨hn,fun hp=>by
  have hp:k=1∨k=2∨k=7∨k=8:=hp
  rw [if_pos hp] at h3;exact kR h3,fun hp=>by
  have hp:k=5∨k=6:=hp
  rwa [if_pos hp] at h4,List.all_eq_true.1 h6,fun hp=>by
  have hp:k=7∨k=8:=hp
  rwa [if_pos hp] at h7,h8.imp id (fun h=>h.2),he,hr,ha,ht,hel⟩
end
end Go.Proofs.YtojinfngbbajgaaGreatDoor
