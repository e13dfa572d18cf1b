import Derived.Test.YtjgeihmhppadaaaGreatDoorG26J
set_option linter.all false
set_option synthInstance.maxHeartbeats 1000000
set_option synthInstance.maxSize 1000000
set_option maxHeartbeats 1600000
set_option maxRecDepth 100000
namespace Go.Proofs.YtjgeihmhppadaaaGreatDoor
open Go.Proofs.Tryz
open List (length_append length_cons length_nil mem_append mem_cons not_mem_nil append_assoc getElem_mem take_of_length_le)
section
open Go.RowKit
theorem eC(A B:List Box)(rw:List bA)(S:Nat)(l:List Int)(i0:Nat)(n:Int)(hi0:i0 <= l.length)(hl:l.length <= 1000000)(hn0:0<n)(hn1:n <= 4611686018427387904):aL prog 23 [pP S,Ci n] [S] (SSt A B rw S l i0) λr s=>∃(z:Nat) (i:Nat),r=nI z /\ (z:Int)<n /\ i <= l.length /\ s=SSt A B rw S l i:=
 (aC2 A B rw S l i0 n hi0 hl hn0 hn1).mono λr s ⟨z,i,h1,h2,h3,h4,h5⟩=>⟨z.toNat,i,h1.trans (congrArg (λx=>AT.c (Vi x)) (Int.toNat_of_nonneg h2).symm),by rw [Int.toNat_of_nonneg h2];exact h3,h4,h5⟩
abbrev gP(RA:List bA)(nv:Value)(names:List ByteArray)(rw:List bA):List bA:=RA++⟨nv,9,1,names.length,bP names⟩::rw
theorem aNv{P:Program}{U:List Nat}{o:Oper}{st:AS}{E yt:TypeId}{x y:Operand}{m:Nat}(r:Nat)(ho:o.op=.binOp .rem E x y yt)(hx:evA st x=some (nI m))(hy:evA st y=some (Ci 2))(hr:m%2=r):AY P U o st (nI r):=by
 subst hr
 exact aG3 ho hx hy V Y
theorem yU(A B:List Box)(RA rw:List bA)(nv:Value)(S:Nat)(l:List Int)(i0:Nat)(names:List ByteArray)(d:Nat)(hi0:i0 <= l.length)(hl:l.length <= 1000000)(hnl:names.length <= 1000000)(hd:d <= 100)(ih:d≠0 -> ∀(A:List Box)(i:Nat),i <= l.length -> aL prog 78 [pP S,Cv nv,Ci ((d-1:Nat):Int)] [S] (SSt A B (gP RA nv names rw) S l i) (λr s=>∃(e:aH) (i:Nat),r=.agg (cU e) /\ eT names (d-1) e /\ i <= l.length /\ s=SSt A B (gP RA nv names rw) S l i)):aL prog 78 [pP S,Cv nv,nI d] [S] (SSt A B (gP RA nv names rw) S l i0) (λr s=>∃(e:aH) (i:Nat),r=.agg (cU e) /\ eT names (d) e /\ i <= l.length /\ s=SSt A B (gP RA nv names rw) S l i):=by
 refine acX 64 func78 ?_
 refine go 8 λb1=>?_
 refine wo Y (bD [S] Y Y V call23 Y (eC (_::A) _ _ _ l i0 _ hi0 hl V V) (bDj) (bDj (h:=by simp [Sto.bl])) (λ_=>bDj) ?_)
 rintro r1 s1 ⟨z1,i1,rfl,hy1,hi1,rfl⟩
 refine go 8 ?_
 by_cases hd0:d=0
 ·refine wcp true Y FT (go 12 ?_)
  refine wyz Y (kV RA Y Y Y runUnderlying61) ?_
  by_cases hn0:0<names.length
  focus
   refine wcp true Y FT (go 2 ?_)
   refine wo Y (bD [S] Y Y V call23 Y (eC (_::A) _ _ _ l i1 _ hi1 hl V V) (bDj) (bDj (h:=by simp [Sto.bl])) (λ_=>bDj) ?_)
   rintro r7 s29 ⟨z7,i7,rfl,hy7,hi7,rfl⟩
   by_cases hz21:z7=1
   ·refine wcp true Y FT (go 9 ?_)
    refine wyz Y (kV RA Y Y Y runUnderlying61) ?_
    refine wo Y (bD [S] Y Y V call23 Y (eC (_::A) _ _ _ l i7 _ hi7 hl J J) (bDj) (bDj (h:=by simp [Sto.bl])) (λ_=>bDj) ?_)
    rintro r2 s2 ⟨z2,i2,rfl,hy2,hi2,rfl⟩
    have hj2:z2<names.length:=J
    refine aF1 RA J λg cap hg=>?_
    subst hg
    refine wyz Y (dH z2 Y Y Y Y hj2 runUnderlying61 sizeOf9) ?_
    refine wyz Y (rM RA isAgg9 sizeOf9 (rB names _ hj2)) (go 8 ?_)
    exact ⟨.inr Y,_,SSt A B (gP RA _ names rw) S l i2,(eK (Wk.agg (.r (.r (.r (.n .nil))))) (aR Y (aO [] Y Y isAgg87 sizeOf87 (bK Y Y)))),aA (.cons _ (.refl _)) (.refl _),⟨(.mk 2 0 names[z2] []),i2,Y,(.name (getElem_mem hj2)),hi2,Y⟩⟩
   refine wcp false Y FS (go 9 ?_)
   refine wo Y (bD [S] Y Y V call107 Y (vH (_::A) _ _ _ l i7 hi7 hl) (bDj) (bDj (h:=by simp [Sto.bl])) (λ_=>bDj) ?_)
  rotate_left
  refine wcp false Y FS (go 13 ?_)
  refine wo Y (bD [S] Y Y V call107 Y (vH (_::A) _ _ _ l i1 hi1 hl) (bDj) (bDj (h:=by simp [Sto.bl])) (λ_=>bDj) ?_)
  all_goals
   rintro r2 s2 ⟨z2,i2,rfl,hz2,hy2,hi2,rfl⟩
   refine go 7 ?_
   exact ⟨.inr Y,_,SSt A B (gP RA _ names rw) S l i2,(eK (Wk.agg (.r (.r (.r (.n .nil))))) (aR Y (aO [] Y Y isAgg87 sizeOf87 (bK Y Y)))),aA (.cons _ (.refl _)) (.refl _),⟨(.mk 1 z2 aK []),i2,Y,(.num hz2 hy2),hi2,Y⟩⟩
 refine wcp false Y FS (go 2 ?_)
 by_cases hz2:z1<2
 ·refine wcp true Y FT (go 9 ?_)
  refine wyz Y (kV RA Y Y Y runUnderlying61) ?_
  by_cases hn0:0<names.length
  focus
   refine wcp true Y FT (go 2 ?_)
   refine wo Y (bD [S] Y Y V call23 Y (eC (_::A) _ _ _ l i1 _ hi1 hl V V) (bDj) (bDj (h:=by simp [Sto.bl])) (λ_=>bDj) ?_)
   rintro r7 s29 ⟨z7,i7,rfl,hy7,hi7,rfl⟩
   by_cases hz21:z7=1
   ·refine wcp true Y FT (go 9 ?_)
    refine wyz Y (kV RA Y Y Y runUnderlying61) ?_
    refine wo Y (bD [S] Y Y V call23 Y (eC (_::A) _ _ _ l i7 _ hi7 hl J J) (bDj) (bDj (h:=by simp [Sto.bl])) (λ_=>bDj) ?_)
    rintro r2 s2 ⟨z2,i2,rfl,hy2,hi2,rfl⟩
    have hj2:z2<names.length:=J
    refine aF1 RA J λg cap hg=>?_
    subst hg
    refine wyz Y (dH z2 Y Y Y Y hj2 runUnderlying61 sizeOf9) ?_
    refine wyz Y (rM RA isAgg9 sizeOf9 (rB names _ hj2)) (go 8 ?_)
    exact ⟨.inr Y,_,SSt A B (gP RA _ names rw) S l i2,(eK (Wk.agg (.r (.r (.r (.n .nil))))) (aR Y (aO [] Y Y isAgg87 sizeOf87 (bK Y Y)))),aA (.cons _ (.refl _)) (.refl _),⟨(.mk 2 0 names[z2] []),i2,Y,(.name (getElem_mem hj2)),hi2,Y⟩⟩
   refine wcp false Y FS (go 9 ?_)
   refine wo Y (bD [S] Y Y V call107 Y (vH (_::A) _ _ _ l i7 hi7 hl) (bDj) (bDj (h:=by simp [Sto.bl])) (λ_=>bDj) ?_)
  rotate_left
  refine wcp false Y FS (go 13 ?_)
  refine wo Y (bD [S] Y Y V call107 Y (vH (_::A) _ _ _ l i1 hi1 hl) (bDj) (bDj (h:=by simp [Sto.bl])) (λ_=>bDj) ?_)
  all_goals
   rintro r2 s2 ⟨z2,i2,rfl,hz2,hy2,hi2,rfl⟩
   refine go 7 ?_
   exact ⟨.inr Y,_,SSt A B (gP RA _ names rw) S l i2,(eK (Wk.agg (.r (.r (.r (.n .nil))))) (aR Y (aO [] Y Y isAgg87 sizeOf87 (bK Y Y)))),aA (.cons _ (.refl _)) (.refl _),⟨(.mk 1 z2 aK []),i2,Y,(.num hz2 hy2),hi2,Y⟩⟩
 refine wcp false Y FS (go 8 ?_)
 by_cases hz4:z1<4
 ·refine wcp true Y FT (go 7 ?_)
  refine wyz Y (aNv (z1%2) Y Y Y Y) ?_
  refine wad Y (go 3 ?_)
  refine wyz Y (cI ((d-1:Nat):Int)) ?_
  refine wo Y (bD [S] Y Y V call78 Y (ih hd0 (_::A) i1 hi1) (bDj) (bDj (h:=by simp [Sto.bl])) (λ_=>bDj) ?_)
  rintro r2 s2 ⟨x2,i2,rfl,hm2,hi2,rfl⟩
  refine wo Y (bDk (hf:=aV fO cU x2 (fP _) Y Y) bDo ?_)
  refine go 7 ?_
  exact ⟨.inr Y,_,SSt A B (gP RA _ names rw) S l i2,(eK (Wk.agg (.r (.r (.r (.r .nil))))) (aR Y (aO [] Y Y isAgg87 sizeOf87 (bK Y Y)))),aA (.cons _ (.refl _)) (.refl _),⟨(.mk (3+((z1%2:Nat):Int)) 0 aK [x2]),i2,Y,(by obtain ⟨d',rfl⟩:∃d',d=d'+1:=⟨d-1,J⟩;exact .un J hm2),hi2,Y⟩⟩
 refine wcp false Y FS (go 10 ?_)
 refine wo Y (bD [S] Y Y V call23 Y (eC (_::A) _ _ _ l i1 _ hi1 hl V V) (bDj) (bDj (h:=by simp [Sto.bl])) (λ_=>bDj) ?_)
 rintro r2 s2 ⟨z2,i2,rfl,hy2,hi2,rfl⟩
 refine wad Y (go 3 ?_)
 refine wyz Y (cI ((d-1:Nat):Int)) ?_
 refine wo Y (bD [S] Y Y V call78 Y (ih hd0 (_::A) i2 hi2) (bDj) (bDj (h:=by simp [Sto.bl])) (λ_=>bDj) ?_)
 rintro r3 s3 ⟨x3,i3,rfl,hm3,hi3,rfl⟩
 refine go 3 ?_
 refine wyz Y (cI ((d-1:Nat):Int)) ?_
 refine wo Y (bD [S] Y Y V call78 Y (ih hd0 (_::A) i3 hi3) (bDj) (bDj (h:=by simp [Sto.bl])) (λ_=>bDj) ?_)
 rintro r4 s4 ⟨x4,i4,rfl,hm4,hi4,rfl⟩
 refine wo Y (bDk (hps:=(.cons Y (.cons Y .nil))) (hf:=aEp fO cU x3 x4 fP Y (λ_=>Y)) bDy ?_)
 refine go 5 ?_
 exact ⟨.inr Y,_,SSt A B (gP RA _ names rw) S l i4,(eK (Wk.agg (.r (.r (.r (.r .nil))))) (aR Y (aO [] Y Y isAgg87 sizeOf87 (bK Y Y)))),aA (.cons _ (.refl _)) (.refl _),⟨(.mk (5+((z2:Nat):Int)) 0 aK [x3,x4]),i4,Y,(by obtain ⟨d',rfl⟩:∃d',d=d'+1:=⟨d-1,J⟩;exact .bin J J hm3 hm4),hi4,Y⟩⟩
theorem xZ(B:List Box)(RA rw:List bA)(nv:Value)(S:Nat)(l:List Int)(names:List ByteArray)(hl:l.length <= 1000000)(hnl:names.length <= 1000000):∀(d:Nat),d <= 100 -> ∀(A:List Box)(i:Nat),i <= l.length -> aL prog 78 [pP S,Cv nv,nI d] [S] (SSt A B (gP RA nv names rw) S l i) (λr s=>∃(e:aH) (i:Nat),r=.agg (cU e) /\ eT names (d) e /\ i <= l.length /\ s=SSt A B (gP RA nv names rw) S l i)
 |0,hd,A,i,hi=>yU A B RA rw nv S l i names 0 hi hl hnl hd (λh=>absurd rfl h)
 |d+1,hd,A,i,hi=>yU A B RA rw nv S l i names (d+1) hi hl hnl hd (λ_ A i hi=>xZ B RA rw nv S l names hl hnl d J A i hi)
theorem aM1(A B:List Box)(RA rw:List bA)(nv:Value)(S W:Nat)(l:List Int)(i0:Nat)(names:List ByteArray)(G M F:AC)(left:Int)(ar:Bool)(size:Int)(hs0:0<size)(hs1:size <= 4611686018427387904)(hi0:i0 <= l.length)(hl:l.length <= 1000000)(hnl:names.length <= 1000000):aL prog 77 [pP W,Cv nv,Ci size] [S] (SSt A (⟨W,56,[.val (.pointer (some ⟨S,0,none⟩)),G,M,F,Vi left,Vb ar]⟩::B) (gP RA nv names rw) S l i0) (λr s=>∃(e:aH) (i:Nat),r=.agg (cU e) /\ eT names 1 e /\ i <= l.length /\ s=SSt A (⟨W,56,[.val (.pointer (some ⟨S,0,none⟩)),G,M,F,Vi left,Vb ar]⟩::B) (gP RA nv names rw) S l i):=by
 cases ar
 ·refine acX 32 func77 ?_
  refine go 32 λb1=>?_
  refine wo Y (bD [S] Y Y V call23 Y (eC (_::A) _ _ _ l i0 _ hi0 hl hs0 hs1) (bDj) (bDj (h:=by simp [Sto.bl])) (λ_=>bDj) ?_)
  rintro r1 s1 ⟨z1,i1,rfl,hy1,hi1,rfl⟩
  refine go 5 ?_
  exact ⟨.inr Y,_,SSt A (⟨W,56,[.val (.pointer (some ⟨S,0,none⟩)),G,M,F,Vi left,Vb false]⟩::B) (gP RA nv names rw) S l i1,(eK (Wk.agg (.r (.r (.r (.n .nil))))) (aR Y (aO [] Y Y isAgg87 sizeOf87 (bK Y Y)))),aA (.cons _ (.refl _)) (.refl _),⟨.mk 1 z1 aK [],i1,Y,.num J J,hi1,Y⟩⟩
 refine acX 32 func77 ?_
 refine go 17 λb1=>?_
 refine wo Y (bD [S] Y Y V call23 Y (eC (_::A) _ _ _ l i0 _ hi0 hl V V) (bDj) (bDj (h:=by simp [Sto.bl])) (λ_=>bDj) ?_)
 rintro r1 s1 ⟨z1,i1,rfl,hy1,hi1,rfl⟩
 by_cases hz1:z1=1
 ·refine wcp true Y FT (go 11 ?_)
  refine wo Y (bD [S] Y Y V call78 Y (xZ _ RA _ _ S l names hl hnl 1 Gz (_::A) i1 hi1) (bDj) (bDj (h:=by simp [Sto.bl])) (λ_=>bDj) ?_)
  rintro r2 s2 ⟨x2,i2,rfl,hm2,hi2,rfl⟩
  refine go 5 ?_
  exact ⟨.inr Y,_,SSt A (⟨W,56,[.val (.pointer (some ⟨S,0,none⟩)),G,M,F,Vi left,Vb true]⟩::B) (gP RA nv names rw) S l i2,(aR Y (aO [] Y Y isAgg87 sizeOf87 (bK Y Y))),aA (.cons _ (.refl _)) (.refl _),⟨x2,i2,Y,hm2,hi2,Y⟩⟩
 refine wcp false Y FS (go 13 ?_)
 refine wo Y (bD [S] Y Y V call23 Y (eC (_::A) _ _ _ l i1 _ hi1 hl hs0 hs1) (bDj) (bDj (h:=by simp [Sto.bl])) (λ_=>bDj) ?_)
 rintro r2 s2 ⟨z2,i2,rfl,hy2,hi2,rfl⟩
 refine go 5 ?_
 exact ⟨.inr Y,_,SSt A (⟨W,56,[.val (.pointer (some ⟨S,0,none⟩)),G,M,F,Vi left,Vb true]⟩::B) (gP RA nv names rw) S l i2,(eK (Wk.agg (.r (.r (.r (.n .nil))))) (aR Y (aO [] Y Y isAgg87 sizeOf87 (bK Y Y)))),aA (.cons _ (.refl _)) (.refl _),⟨.mk 1 z2 aK [],i2,Y,.num J J,hi2,Y⟩⟩
theorem pQ(A B:List Box)(RA rw:List bA)(nv:Value)(S W:Nat)(l:List Int)(i0:Nat)(names:List ByteArray)(G M F:AC)(left:Int)(ar:Bool)(hi0:i0 <= l.length)(hl:l.length <= 1000000)(hnl:names.length <= 1000000):aL prog 43 [pP W,Cv nv] [S] (SSt A (⟨W,56,[.val (.pointer (some ⟨S,0,none⟩)),G,M,F,Vi left,Vb ar]⟩::B) (gP RA nv names rw) S l i0) (λr s=>∃(e:aH) (i:Nat),r=.agg (cU e) /\ eT names 2 e /\ i <= l.length /\ s=SSt A (⟨W,56,[.val (.pointer (some ⟨S,0,none⟩)),G,M,F,Vi left,Vb ar]⟩::B) (gP RA nv names rw) S l i):=by
 cases ar
 ·refine acX 28 func43 ?_
  refine go 23 λb1=>?_
  refine wo Y (bD [S] Y Y V call78 Y (xZ _ RA _ _ S l names hl hnl 0 Gz (_::A) i0 hi0) (bDj) (bDj (h:=by simp [Sto.bl])) (λ_=>bDj) ?_)
  rintro r1 s1 ⟨x1,i1,rfl,hm1,hi1,rfl⟩
  refine go 5 ?_
  exact ⟨.inr Y,_,SSt A (⟨W,56,[.val (.pointer (some ⟨S,0,none⟩)),G,M,F,Vi left,Vb false]⟩::B) (gP RA nv names rw) S l i1,(aR Y (aO [] Y Y isAgg87 sizeOf87 (bK Y Y))),aA (.cons _ (.refl _)) (.refl _),⟨x1,i1,Y,(hm1.mono J),hi1,Y⟩⟩
 refine acX 28 func43 ?_
 refine go 19 λb1=>?_
 refine dx [W] (tz [(0,true),(1,true),(2,true),(3,true),(4,true),(5,true),(6,true),(7,true),(8,true)] 4 (go 10 ?_))
 refine ox 9 Y Y (bD [S] Y Y V call23 Y (eC (_::A) _ _ _ l i0 _ hi0 hl V V) Gg FU FR ?_)
 rintro r1 s1 ⟨z1,i1,rfl,hy1,hi1,rfl⟩
 refine tx 10 Y (bB Y Y Y J J) ?_
 refine ox 11 Y Y (bD [S] Y Y V call78 Y (xZ _ RA _ _ S l names hl hnl (1+z1) Gz (_::A) i1 hi1) Gg FU FR ?_)
 rintro r2 s2 ⟨x2,i2,rfl,hm2,hi2,rfl⟩
 refine tz [(12,false)] 0 (go 2 ?_)
 refine ax (go 2 ?_)
 exact ⟨.inr Y,_,SSt A (⟨W,56,[.val (.pointer (some ⟨S,0,none⟩)),G,M,F,Vi left,Vb true]⟩::B) (gP RA nv names rw) S l i2,(aR Y (aO [] Y Y isAgg87 sizeOf87 (bK Y Y))),aA (.cons _ (.refl _)) (.refl _),⟨x2,i2,Y,(hm2.mono J),hi2,Y⟩⟩
end
section
def iZ(ms:List cL):List ByteArray:=ms.map cL.name
def jB(ps:List aS):List ByteArray:=(ps.map λx=>if x.mutex then [x.name,x.name] else []).flatten
theorem aDs(ms:List cL)(k:Nat)(h:k<ms.length):iZ (ms.take (k+1))=iZ (ms.take k)++[ms[k].name]:=by
 rw [List.take_succ_eq_append_getElem h,iZ,List.map_append];rfl
theorem vX(ps:List aS)(k:Nat)(h:k<ps.length):jB (ps.take (k+1))=jB (ps.take k)++(if ps[k].mutex then [ps[k].name,ps[k].name] else []):=by
 rw [List.take_succ_eq_append_getElem h,jB,List.map_append,List.flatten_append];simp [jB]
theorem xK:∀(ps:List aS),(jB ps).length <= 2*ps.length
 |[]=>by simp [jB]
 |x::r=>by
  have:=xK r
  simp only [jB,List.map_cons,List.flatten_cons,length_append,length_cons] at this⊢
  split<;>(simp only [length_cons,length_nil];omega)
theorem aE4(ps:List aS)(n:ByteArray)(h:n∈jB ps):∃x,x∈ps /\ x.mutex=true /\ x.name=n:=by
 simp only [jB,List.mem_flatten,List.mem_map] at h
 obtain ⟨l,⟨x,hx,rfl⟩,hn⟩:=h
 cases hm:x.mutex with
 |true=>rw [hm] at hn;simp at hn;exact ⟨x,hx,hm,hn.symm⟩
 |false=>rw [hm] at hn;simp at hn
end
section
open Go.RowKit
theorem aI7{ms:List cL}{ps:List aS}{vars:List ByteArray}{n:ByteArray}(h:n∈jB ps):uA ms ps vars ⟨n,[]⟩:=by
 obtain ⟨x,hx,hxm,rfl⟩:=aE4 ps _ h
 exact .param hx hxm
theorem rG(A B:List Box)(RA rw:List bA)(vv:Value)(S W:Nat)(l:List Int)(i0:Nat)(ms:List cL)(ps:List aS)(vars:List ByteArray)(fn:ByteArray)(G F FB:AC)(left:Int)(ar:Bool)(hi0:i0 <= l.length)(hl:l.length <= 1000000)(hm1:1 <= ms.length)(hm2:ms.length <= 1000)(hmz:∀m,m∈ms -> m.size <= 1000)(hp2:ps.length <= 1000)(hvl:vars.length <= 1000000):aL prog 42 [pP W,.agg [Vs fn,Sq cP ps,FB],Cv vv] [S] (SSt A (⟨W,56,[.val (.pointer (some ⟨S,0,none⟩)),G,(Sq bT ms),F,Vi left,Vb ar]⟩::B) (gP RA vv vars rw) S l i0) (λr s=>∃(f:cY) (i:Nat),r=.agg (encR f) /\ uA ms ps vars f /\ i <= l.length /\ s=SSt A (⟨W,56,[.val (.pointer (some ⟨S,0,none⟩)),G,(Sq bT ms),F,Vi left,Vb ar]⟩::B) (gP RA vv vars rw) S l i):=by
 refine acX 107 func42 ?_
 refine go 18 λb1 b2=>?_
 refine qR 9 1 ?_
 refine fM (λg:Nat×Value×List ByteArray=>(⟨107,aY g.2.1++[b2,b1,S],⟨⟨b2,117,[Vs ⟨#[]⟩,Nl]⟩::⟨b1,67,[Vs fn,Sq cP ps,FB]⟩::(A++⟨S,54,[.sl l.length (l.map λi=>Vi i),nC i0]⟩::⟨W,56,[.val (.pointer (some ⟨S,0,none⟩)),G,(Sq bT ms),F,Vi left,Vb ar]⟩::B),⟨g.2.1,9,1,g.2.2.length,bP g.2.2⟩::(gP RA vv vars rw)⟩,[(8,nI g.1),(7,Cv g.2.1),(0,pP W),(2,Cv vv),(4,pP b1),(6,pP b2)]⟩:AS)) (λg=>g.1 <= ms.length /\ g.2.2=iZ (ms.take g.1)) (λg=>ms.length-g.1) (0,.slice none 0 0,[]) (cQf Cc) ⟨Nat.zero_le _,Y⟩ ?_
 rintro ⟨k,v,acc⟩ ⟨hk,hacc⟩
 dsimp only at hk hacc
 show AWp prog _ (⟨107,aY v++[b2,b1,S],⟨⟨b2,117,[Vs ⟨#[]⟩,Nl]⟩::⟨b1,67,[Vs fn,Sq cP ps,FB]⟩::(A++⟨S,54,[.sl l.length (l.map λi=>Vi i),nC i0]⟩::⟨W,56,[.val (.pointer (some ⟨S,0,none⟩)),G,(Sq bT ms),F,Vi left,Vb ar]⟩::B),⟨v,9,1,acc.length,bP acc⟩::(gP RA vv vars rw)⟩,[(8,nI k),(7,Cv v),(0,pP W),(2,Cv vv),(4,pP b1),(6,pP b2)]⟩:AS) _
 have hal:acc.length=k:=by rw [hacc,iZ,List.length_map,List.length_take];omega
 refine go 10 ?_
 by_cases hlt:k<ms.length
 ·refine wcp true Y FT (go 15 ?_)
  refine wyz Y (bH bT bT ms mZ (λ_=>Y) k Y Y Y Y J V runUnderlying24 sizeOf60) (go 2 ?_)
  refine wo Y (bDk (r:=bP [ms[k].name]) cG8 ?_)
  refine wo Y (bDm [] dFs Y Y V B1 J (@length_append _ acc [ms[k].name]).symm Bo Bq (List.map_append (f:=λx=>AC.val (.string x))).symm λv1=>?_)
  refine go 6 ?_
  refine wad Y (go 2 ?_)
  refine ⟨(k+1,v1,acc++[ms[k].name]),⟨J,by rw [aDs ms k hlt,hacc]⟩,by show ms.length-(k+1)<ms.length-k;omega,cQf Dr⟩
 refine wcp false Y FS (go 11 ?_)
 refine wyz Y (kV [] Y Y Y runUnderlying61) ?_
 have hke:acc.length=ms.length:=J
 rw [hke]
 refine go 10 ?_
 skip
 refine fM (λg:Nat×Value×List ByteArray×Nat=>(⟨107,aY g.2.1++[b2,b1,S],⟨⟨b2,117,[Vs ⟨#[]⟩,Nl]⟩::⟨b1,67,[Vs fn,Sq cP ps,FB]⟩::(A++⟨S,54,[.sl l.length (l.map λi=>Vi i),nC i0]⟩::⟨W,56,[.val (.pointer (some ⟨S,0,none⟩)),G,(Sq bT ms),F,Vi left,Vb ar]⟩::B),⟨g.2.1,9,1,g.2.2.2,bP g.2.2.1⟩::(gP RA vv vars rw)⟩,[(10,nI g.1),(7,Cv g.2.1),(0,pP W),(2,Cv vv),(4,pP b1),(6,pP b2),(9,nI ms.length)]⟩:AS)) (λg=>g.1 <= ps.length /\ g.2.2.1=iZ ms++jB (ps.take g.1) /\ g.2.2.2=g.2.2.1.length) (λg=>ps.length-g.1) (0,v,acc,ms.length) (sA Y) ⟨Nat.zero_le _,by show acc=_;rw [hacc,take_of_length_le J];simp [jB],hke.symm⟩ ?_
 clear hal hacc hk hke
 rintro ⟨j,v,acc,c⟩ ⟨hj,hacc,hc⟩
 dsimp only at hj hacc hc
 show AWp prog _ (⟨107,aY v++[b2,b1,S],⟨⟨b2,117,[Vs ⟨#[]⟩,Nl]⟩::⟨b1,67,[Vs fn,Sq cP ps,FB]⟩::(A++⟨S,54,[.sl l.length (l.map λi=>Vi i),nC i0]⟩::⟨W,56,[.val (.pointer (some ⟨S,0,none⟩)),G,(Sq bT ms),F,Vi left,Vb ar]⟩::B),⟨v,9,1,c,bP acc⟩::(gP RA vv vars rw)⟩,[(10,nI j),(7,Cv v),(0,pP W),(2,Cv vv),(4,pP b1),(6,pP b2),(9,nI ms.length)]⟩:AS) _
 have hal:acc.length <= ms.length+2*ps.length:=by have h1:=xK (ps.take j);rw [hacc,length_append,iZ,List.length_map];rw [List.length_take] at h1;omega
 refine go 7 ?_
 by_cases hlj:j<ps.length
 ·refine wcp true Y FT (go 12 ?_)
  refine wyz Y (bH cP cP ps gL (λ_=>Y) j Y Y Y Y J V runUnderlying64 sizeOf69) (go 4 ?_)
  refine gY Y (λhc4=>?_) (λhc4=>?_)
  ·have hmx:=hc4
   refine dx [b2,b1,S,W] (tz [(0,true),(1,true),(2,true),(3,true)] 12 (go 5 ?_))
   refine tx 4 Y (bH cP cP ps gL (λ_=>Y) j Y Y Y Y J V runUnderlying64 sizeOf69) (tz [(5,true),(6,true),(7,true),(8,true),(9,true)] 6 (go 6 ?_))
   refine tx 10 Y (bH cP cP ps gL (λ_=>Y) j Y Y Y Y J V runUnderlying64 sizeOf69) (tz [(11,true),(12,true)] 3 (go 3 ?_))
   refine ox 13 Y Y (bDk (r:=bP [ps[j].name,ps[j].name]) (hps:=(.cons Y (.cons Y .nil))) cL1 ?_)
   refine ox 14 Y Y (bDm [] dFs Y Y V B1 J (N:=c+2) Y (λhn b hb=>qW hn hb) Bq (List.map_append (f:=λx=>AC.val (.string x))).symm λv1=>?_)
   refine tz [(15,true)] 0 (go 2 ?_)
   refine ax (go 4 ?_)
   refine wad Y (go 2 ?_)
   refine ⟨(j+1,v1,acc++[ps[j].name,ps[j].name],c+2),⟨J,by show acc++[ps[j].name,ps[j].name]=_;rw [vX ps j hlj,hacc,if_pos hmx,append_assoc],by simp [hc]⟩,by show ps.length-(j+1)<ps.length-j;omega,cQf Dr⟩
  have hmx:=hc4
  refine go 5 ?_
  refine wad Y (go 2 ?_)
  refine ⟨(j+1,v,acc,c),⟨J,by show acc=_;rw [vX ps j hlj,hacc,if_neg (by rw [hmx];decide),List.append_nil],hc⟩,by show ps.length-(j+1)<ps.length-j;omega,cQf Dr⟩
 refine wcp false Y FS (go 10 ?_)
 have hfin:acc=iZ ms++jB ps:=by rw [hacc,take_of_length_le J]
 have hlen:ms.length <= acc.length:=by rw [hfin,length_append,iZ,List.length_map];omega
 subst hc
 refine aE1 7 Y ?_
 refine go 6 ?_
 refine wo Y (bD [S] Y Y V call23 Y (eC (_::_::A) _ _ _ l i0 _ hi0 hl J J) (bDj) (bDj (h:=by simp [Sto.bl])) (λ_=>bDj) ?_)
 rintro r1 s1 ⟨z1,i1,rfl,hy1,hi1,rfl⟩
 refine go 7 ?_
 refine wyz Y (rT (λx=>Vs x) acc z1 Y Y Y Y J runUnderlying61 sizeOf9) (go 11 λb3=>?_)
 by_cases hzm:z1<ms.length
 ·refine wcp true Y FT (go 7 ?_)
  refine wyz Y (bH bT bT ms mZ (λ_=>Y) z1 Y Y Y Y J V runUnderlying24 sizeOf60) (go 2 ?_)
  by_cases hsz:0<ms[z1].size
  ·refine wcp true Y FT (go 13 ?_)
   refine wyz Y (bH bT bT ms mZ (λ_=>Y) z1 Y Y Y Y J V runUnderlying24 sizeOf60) (go 2 ?_)
   refine wo Y (bD [S] Y Y V call77 Y (aM1 (_::_::_::A) _ RA _ _ S W l i1 vars G (Sq bT ms) F left ar ms[z1].size hsz (by have:=hmz _ (getElem_mem hzm);omega) hi1 hl hvl) (bDj) (bDj (h:=by simp [Sto.bl])) (λ_=>bDj) ?_)
   rintro r2 s2 ⟨x2,i2,rfl,hm2,hi2,rfl⟩
   refine wo Y (bDk (hf:=aV fO cU x2 (fP _) Y Y) bDo ?_)
   refine go 11 ?_
   exact ⟨.inr Y,_,SSt A (⟨W,56,[.val (.pointer (some ⟨S,0,none⟩)),G,(Sq bT ms),F,Vi left,Vb ar]⟩::B) (gP RA vv vars rw) S l i2,(eK (Wk.agg (.r (.r .nil))) (aR Y (aO [_] Y Y isAgg117 sizeOf117 (bK Y Y)))),aA (.cons _ (.cons _ (.cons _ (.refl _)))) (.refl _),⟨⟨acc[z1],[x2]⟩,i2,Y,(by rw [(show acc[z1]=ms[z1].name by simp only [hfin];rw [List.getElem_append_left (by rw [iZ,List.length_map];exact hzm)];simp [iZ])];exact .arr (getElem_mem hzm) hsz hm2),hi2,Y⟩⟩
  refine wcp false Y FS (go 13 ?_)
  exact ⟨.inr Y,_,SSt A (⟨W,56,[.val (.pointer (some ⟨S,0,none⟩)),G,(Sq bT ms),F,Vi left,Vb ar]⟩::B) (gP RA vv vars rw) S l i1,(eK (Wk.agg (.r (.n .nil))) (aR Y (aO [_] Y Y isAgg117 sizeOf117 (bK Y Y)))),aA (.cons _ (.cons _ (.cons _ (.refl _)))) (.refl _),⟨⟨acc[z1],[]⟩,i1,Y,(by rw [(show acc[z1]=ms[z1].name by simp only [hfin];rw [List.getElem_append_left (by rw [iZ,List.length_map];exact hzm)];simp [iZ])];exact .scalar (getElem_mem hzm) J),hi1,Y⟩⟩
 refine wcp false Y FS (go 24 ?_)
 exact ⟨.inr Y,_,SSt A (⟨W,56,[.val (.pointer (some ⟨S,0,none⟩)),G,(Sq bT ms),F,Vi left,Vb ar]⟩::B) (gP RA vv vars rw) S l i1,(eK (Wk.agg (.r (.n .nil))) (aR Y (aO [_] Y Y isAgg117 sizeOf117 (bK Y Y)))),aA (.cons _ (.cons _ (.cons _ (.refl _)))) (.refl _),⟨⟨acc[z1],[]⟩,i1,Y,(aI7 (show acc[z1]∈jB ps by simp only [hfin];rw [List.getElem_append_right (by rw [iZ,List.length_map];omega)];exact getElem_mem _)),hi1,Y⟩⟩
theorem nB.snoc{ms:List cL}{ps:List aS}{vars:List ByteArray}{l:List aS}{al:List eN}(h:nB ms ps vars l al){x:aS}{a:eN}(ha:(x.mutex=true /\ a=⟨true,a.ref,.zero⟩ /\ uA ms ps vars a.ref)∨(x.mutex=false /\ a=⟨false,.zero,a.expr⟩ /\ eT vars 2 a.expr)):nB ms ps vars (l++[x]) (al++[a]):=by
 induction h with
 |nil=>
  rcases ha with ⟨h1,h2,h3⟩|⟨h1,h2,h3⟩
  ·rw [h2];exact .mutex h1 h3 .nil
  ·rw [h2];exact .expr h1 h3 .nil
 |mutex hx hr _ ih=>exact .mutex hx hr ih
 |expr hx he _ ih=>exact .expr hx he ih
theorem sS(A B:List Box)(RA rw:List bA)(vv:Value)(S W:Nat)(l:List Int)(i0:Nat)(ms:List cL)(ps:List aS)(vars:List ByteArray)(fn:ByteArray)(G F FB:AC)(left:Int)(ar:Bool)(gn:ByteArray)(qs:List aS)(GB:AC)(hi0:i0 <= l.length)(hl:l.length <= 1000000)(hm1:1 <= ms.length)(hm2:ms.length <= 1000)(hmz:∀m,m∈ms -> m.size <= 1000)(hp2:ps.length <= 1000)(hvl:vars.length <= 1000000)(hq2:qs.length <= 1000):aL prog 44 [pP W,.agg [Vs fn,Sq cP ps,FB],.agg [Vs gn,Sq cP qs,GB],Cv vv] [S] (SSt A (⟨W,56,[.val (.pointer (some ⟨S,0,none⟩)),G,(Sq bT ms),F,Vi left,Vb ar]⟩::B) (gP RA vv vars rw) S l i0) (λr s=>∃(al:List eN) (i:Nat),r=.c (Sq eJ al) /\ nB ms ps vars qs al /\ i <= l.length /\ s=SSt A (⟨W,56,[.val (.pointer (some ⟨S,0,none⟩)),G,(Sq bT ms),F,Vi left,Vb ar]⟩::B) (gP RA vv vars rw) S l i):=by
 refine acX 40 func44 ?_
 refine go 19 λb1 b2=>?_
 refine qR 135 7 ?_
 refine fM (λg:Nat×Value×List eN×Nat=>(⟨40,aY g.2.1++[b2,b1,S],⟨⟨b2,67,[Vs gn,Sq cP qs,GB]⟩::⟨b1,67,[Vs fn,Sq cP ps,FB]⟩::(A++⟨S,54,[.sl l.length (l.map λi=>Vi i),nC g.2.2.2]⟩::⟨W,56,[.val (.pointer (some ⟨S,0,none⟩)),G,(Sq bT ms),F,Vi left,Vb ar]⟩::B),⟨g.2.1,135,7,g.2.2.1.length,g.2.2.1.flatMap eJ⟩::(gP RA vv vars rw)⟩,[(10,nI g.1),(9,Cv g.2.1),(0,pP W),(3,Cv vv),(5,pP b1),(6,pP b2)]⟩:AS)) (λg=>g.1 <= qs.length /\ g.2.2.1.length=g.1 /\ nB ms ps vars (qs.take g.1) g.2.2.1 /\ g.2.2.2 <= l.length) (λg=>qs.length-g.1) (0,.slice none 0 0,[],i0) (cQf Cc) ⟨Nat.zero_le _,Y,.nil,hi0⟩ ?_
 rintro ⟨k,v,acc,ik⟩ ⟨hk,hal,hacc,hik⟩
 dsimp only at hk hal hacc hik
 show AWp prog _ (⟨40,aY v++[b2,b1,S],⟨⟨b2,67,[Vs gn,Sq cP qs,GB]⟩::⟨b1,67,[Vs fn,Sq cP ps,FB]⟩::(A++⟨S,54,[.sl l.length (l.map λi=>Vi i),nC ik]⟩::⟨W,56,[.val (.pointer (some ⟨S,0,none⟩)),G,(Sq bT ms),F,Vi left,Vb ar]⟩::B),⟨v,135,7,acc.length,acc.flatMap eJ⟩::(gP RA vv vars rw)⟩,[(10,nI k),(9,Cv v),(0,pP W),(3,Cv vv),(5,pP b1),(6,pP b2)]⟩:AS) _
 refine go 7 ?_
 by_cases hlt:k<qs.length
 ·refine wcp true Y FT (go 12 ?_)
  refine wyz Y (bH cP cP qs gL (λ_=>Y) k Y Y Y Y J V runUnderlying64 sizeOf69) (go 4 ?_)
  refine gY Y (λhc2=>?_) (λhc2=>?_)
  ·have hmx:=hc2
   refine go 5 ?_
   refine wo Y (bD [S] Y Y V call42 Y (rG (_::_::A) _ (_::RA) _ _ S W l ik ms ps vars fn G F FB left ar hik hl hm1 hm2 hmz hp2 hvl) (bDj) (bDj (h:=by simp [Sto.bl])) (λ_=>bDj) ?_)
   rintro r1 s1 ⟨f1,i1,rfl,hm1,hi1,rfl⟩
   refine go 1 ?_
   refine eA 29 Y (Wk.agg (.r (.r (.r (.r (.r (.r (.n .nil)))))))) ?_
   refine wo Y (bDk (hf:=aV eJ eJ ⟨true,f1,.zero⟩ Y Y Y) zb1 ?_)
   refine wo Y (bDm [] dFu Y Y V B1 J (@length_append _ acc [⟨true,f1,.zero⟩]).symm Bo Bq (List.flatMap_append (f:=eJ)).symm λv2=>?_)
   refine go 6 ?_
   refine wad Y (go 2 ?_)
   refine ⟨(k+1,v2,acc++[⟨true,f1,.zero⟩],i1),⟨J,by simp [hal],by rw [List.take_succ_eq_append_getElem hlt];exact hacc.snoc (.inl ⟨hmx,rfl,hm1⟩),hi1⟩,by show qs.length-(k+1)<qs.length-k;omega,cQf Dr⟩
  have hmx:=hc2
  refine go 4 ?_
  refine wo Y (bD [S] Y Y V call43 Y (pQ (_::_::A) _ (_::RA) _ _ S W l ik vars G (Sq bT ms) F left ar hik hl hvl) (bDj) (bDj (h:=by simp [Sto.bl])) (λ_=>bDj) ?_)
  rintro r1 s1 ⟨x1,i1,rfl,hm1,hi1,rfl⟩
  refine go 1 ?_
  refine eA 36 Y (Wk.agg (.r (.r (.n (.r (.r (.r (.r .nil)))))))) ?_
  refine wo Y (bDk (hf:=aV eJ eJ ⟨false,.zero,x1⟩ Y Y Y) zb1 ?_)
  refine wo Y (bDm [] dFu Y Y V B1 J (@length_append _ acc [⟨false,.zero,x1⟩]).symm Bo Bq (List.flatMap_append (f:=eJ)).symm λv2=>?_)
  refine go 6 ?_
  refine wad Y (go 2 ?_)
  refine ⟨(k+1,v2,acc++[⟨false,.zero,x1⟩],i1),⟨J,by simp [hal],by rw [List.take_succ_eq_append_getElem hlt];exact hacc.snoc (.inr ⟨hmx,rfl,hm1⟩),hi1⟩,by show qs.length-(k+1)<qs.length-k;omega,cQf Dr⟩
 refine wcp false Y FS (go 10 ?_)
 refine aE1 9 Y ?_
 refine go 5 ?_
 exact ⟨.inr Y,_,SSt A (⟨W,56,[.val (.pointer (some ⟨S,0,none⟩)),G,(Sq bT ms),F,Vi left,Vb ar]⟩::B) (gP RA vv vars rw) S l ik,aR Y (aF Y),aA (.cons _ (.cons _ (.refl _))) (.refl _),⟨acc,ik,Y,by rw [take_of_length_le J] at hacc;exact hacc,hik,Y⟩⟩
end
end Go.Proofs.YtjgeihmhppadaaaGreatDoor
