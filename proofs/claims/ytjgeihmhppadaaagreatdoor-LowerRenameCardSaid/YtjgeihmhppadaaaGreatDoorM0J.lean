import Derived.Handy
set_option linter.all false
namespace Go.Proofs.YtjgeihmhppadaaaGreatDoor
universe u
theorem Y{α:Sort u}{a:α}:a=a:=Eq.refl a
def Aa{p:Prop}(h:p:=by rw [show isN x=false by unfold isN;first|exact decide_eq_true (by omega)|exact decide_eq_false (by omega),show isE x=false by unfold isE;first|exact decide_eq_true (by omega)|exact decide_eq_false (by omega),show isR x=true by unfold isR;first|exact decide_eq_true (by omega)|exact decide_eq_false (by omega),show isC x=false by unfold isC;first|exact decide_eq_true (by omega)|exact decide_eq_false (by omega),show isB x=false by unfold isB;first|exact decide_eq_true (by omega)|exact decide_eq_false (by omega),show isI x=false by unfold isI;first|exact decide_eq_true (by omega)|exact decide_eq_false (by omega),show aG7 x=false by unfold aG7;first|exact decide_eq_true (by omega)|exact decide_eq_false (by omega)];rfl):=h
def Ab{p:Prop}(h:p:=by rw [show isN x=true by unfold isN;first|exact decide_eq_true (by omega)|exact decide_eq_false (by omega),show isE x=true by unfold isE;first|exact decide_eq_true (by omega)|exact decide_eq_false (by omega),show isR x=false by unfold isR;first|exact decide_eq_true (by omega)|exact decide_eq_false (by omega),show isC x=false by unfold isC;first|exact decide_eq_true (by omega)|exact decide_eq_false (by omega),show isB x=false by unfold isB;first|exact decide_eq_true (by omega)|exact decide_eq_false (by omega),show isI x=false by unfold isI;first|exact decide_eq_true (by omega)|exact decide_eq_false (by omega),show aG7 x=false by unfold aG7;first|exact decide_eq_true (by omega)|exact decide_eq_false (by omega)];rfl):=h
def Ac{p:Prop}(h:p:=by rw [show isN x=true by unfold isN;first|exact decide_eq_true (by omega)|exact decide_eq_false (by omega),show isE x=false by unfold isE;first|exact decide_eq_true (by omega)|exact decide_eq_false (by omega),show isR x=false by unfold isR;first|exact decide_eq_true (by omega)|exact decide_eq_false (by omega),show isC x=true by unfold isC;first|exact decide_eq_true (by omega)|exact decide_eq_false (by omega),show isB x=false by unfold isB;first|exact decide_eq_true (by omega)|exact decide_eq_false (by omega),show isI x=false by unfold isI;first|exact decide_eq_true (by omega)|exact decide_eq_false (by omega),show aG7 x=false by unfold aG7;first|exact decide_eq_true (by omega)|exact decide_eq_false (by omega)];rfl):=h
def Aj{p:Prop}(h:p:=by exact λh=>by unfold fB;rw [if_neg (by rw [ha1 h];decide),if_neg (by rw [ha8 h];decide),if_neg (by rw [ha14 h];decide),if_neg (by rw [ha19 h];decide),if_neg (by rw [ha24 h];decide),if_neg (by rw [ha33 h];decide),if_neg (by rw [ha38 h];decide)]):=h
def FF{p:Prop}(h:p:=by dsimp only;rw [he1,he2];exact cQf (h1:=(.cons _ (.refl _))) (h:=aG rfl (gQ (by omega)) (sA rfl)) (by intro x hx;simp only [mem_append,mem_cons,not_mem_nil,or_false] at hx⊢;grind)):=h
def B9{p:Prop}(h:p:=by exact λ_=>by unfold fB;rw [if_neg (by rw [ha1 rfl];decide),if_neg (by rw [ha8 rfl];decide),if_neg (by rw [ha14 rfl];decide),if_neg (by rw [ha19 rfl];decide),if_pos ha24]):=h
def G1{p:Prop}(h:p:=by exact λh9=>hTv b (aFb (bx:=A++⟨W,181,[.val (.pointer a),.val v,nC m]⟩::B) (bx':=A++⟨W,181,[.val (.pointer a'),.val v',Vi ((m':Nat):Int)]⟩::B) (by simp) hm.nodup hb2 h9)):=h
def Ar{p:Prop}(h:p:=by intro h b hb;simp at hb;subst hb;exact kH.2 ⟨by simp [Sto.bl],λhh=>by simp only [mem_cons,not_mem_nil,or_false] at hh;rcases hh with rfl<;>simp [Sto.bl] at h⟩):=h
def BB{p:Prop}(h:p:=by simp only [Instr.lookup,Sem.run_bind,run_underlying ht,Result.andThen_ok,MapKept.run_getObj_map hb2,bZ8 hk,bZ6 hk g2,Sem.run_pure];rfl):=h
def BC{p:Prop}(h:p:=by rw [show bC .eql ((x0.mutexes.length:Nat):Int) 12=some (decide (x0.mutexes.length=12)) from jS (n:=12),decide_eq_false hmutexes]):=h
def Ax{p:Prop}(h:p:=by exact λi hi hlt2=>(Nat.lt_or_ge i k).elim (λh9=>hvk i hi h9) (λh9=>by have h8:i=k:=(by omega);subst h8;exact h3)):=h
def G2{p:Prop}(h:p:=by (repeat rw [dAb (Nat.ne_of_lt hblt)]);rw [hcc _ _ (by simp;omega),World.cell?_alloc_lt wr _ ⟨b,o,none⟩ hblt]):=h
def G3{p:Prop}(h:p:=by intro x hx;simp only [mem_append,mem_cons,not_mem_nil,or_false,aY,Value.ownBlock,Option.toList] at hx⊢;grind):=h
def A4{p:Prop}(h:p:=by rw [show bC .eql ((l[k].kind:Nat):Int) 4=some (decide (l[k].kind=4)) from jS (n:=4),decide_eq_false h4]):=h
def AB{p:Prop}(h:p:=by have h9:=aAj hok.last (x:=x0) hk0;rw [(hel.good h).2.1] at h9;exact ⟨h9.1,(hel.good h).2.2⟩):=h
def FI{p:Prop}(h:p:=by show List.length us+m <= 1000;(try simp only [length_append,length_cons,length_nil]);omega):=h
def AF{p:Prop}(h:p:=by (try simp only [length_append,length_cons,length_nil,List.length_replicate]);omega):=h
def FK{p:Prop}(h:p:=by unfold maxLen;first|omega|(simp only [length_append,length_cons,length_nil];omega)):=h
def AG{p:Prop}(h:p:=by exact λh=>by have:=congrArg List.length h;simp only [length_nil] at this;omega):=h
def AJ{p:Prop}(h:p:=by exact λk hk=>bNb _ (hsa _ (getElem_mem _)) (by have:=aDf x.args k hk;omega) _):=h
def AK{p:Prop}(h:p:=by intro b hb;simp only [mem_append,mem_cons,not_mem_nil,or_false] at hb⊢;grind):=h
def AL{p:Prop}(h:p:=by unfold maxLen;(try simp only [length_append,length_cons,length_nil]);omega):=h
def FL{p:Prop}(h:p:=by exact λhn b hb=>by simp at hb;rcases hb with rfl|rfl<;>exact jJ hn):=h
def AP{p:Prop}(h:p:=by intro x hx;simp only [mem_cons,not_mem_nil,or_false] at hx⊢;grind):=h
def AQ{p:Prop}(h:p:=by intro b hb;simp at hb;rcases hb with rfl|rfl<;>simp [Sto.bl,bZw]):=h
def AR{p:Prop}(h:p:=by have:=mO hq;rw [List.length_take,List.length_drop] at this;omega):=h
def FQ{p:Prop}(h:p:=by intro b hb;simp at hb;rcases hb with rfl|rfl<;>simp [Sto.bl]):=h
def AU{p:Prop}(h:p:=by intro h b hb;simp at hb;subst hb;exact lU (by simp [Sto.bl])):=h
def Gb{p:Prop}(h:p:=by intro x hx;simp at hx⊢;rcases hx with h|h|h|h|h|h<;>simp [h]):=h
def AW{p:Prop}(h:p:=by exact λu hu=>by obtain ⟨c,_,rfl⟩:=List.mem_map.1 hu;rfl):=h
def AV{p:Prop}(h:p:=by exact λh9=>by have h8:i=k:=(by omega);subst h8;exact h3):=h
def FR{p:Prop}(h:p:=by exact λhn b hb=>by simp at hb;subst hb<;>exact jJ hn):=h
def AX{p:Prop}(h:p:=by intro _ b hb;simp at hb⊢;rcases hb with rfl|rfl<;>simp):=h
def Ba{p:Prop}(h:p:=by intro b hb;simp at hb⊢;rcases hb with rfl|rfl<;>simp):=h
def Fv{p:Prop}(h:p:=by rw [if_pos (by decide)];exact he.valid hv (by omega)):=h
def Bc{p:Prop}(h:p:=by exact λb hb=>by simp [aY,Value.ownBlock] at hb):=h
def BZ{p:Prop}(h:p:=by simp only [execOp,ho,hs.val hx,hs.val hy]<;>rfl):=h
def FS{p:Prop}(h:p:=by first|exact eE (by omega)|(simp [bC]<;>omega)):=h
def FT{p:Prop}(h:p:=by first|exact eU (by omega)|(simp [bC]<;>omega)):=h
def Be{p:Prop}(h:p:=by exact λ_=>⟨by simp,λb hb=>by simp [hb]⟩):=h
def Cc{p:Prop}(h:p:=by intro x hx;simpa [aY,Value.ownBlock] using hx):=h
def Ca{p:Prop}(h:p:=by intro a;unfold wid;rw [if_neg hm];exact hev a):=h
def FU{p:Prop}(h:p:=by intro b hb;simp at hb;subst hb;simp [Sto.bl]):=h
def Cd{p:Prop}(h:p:=by have h1:=uF l k hk;have h2:=gD l[k];omega):=h
def FW{p:Prop}(h:p:=by exact λ_=>by simp [aY,Value.ownBlock]):=h
def G4{p:Prop}(h:p:=by simp [results,Tryz.results211,go_sem]):=h
def Bh{p:Prop}(h:p:=by exact λ_ _ h=>absurd h (by omega)):=h
def Cf{p:Prop}(h:p:=by exact λ_ h=>(kH.1 h).2 (by simp)):=h
def Bi{p:Prop}(h:p:=by rw [lK,if_neg hk5];exact hel.bind h):=h
def Bj{p:Prop}(h:p:=by exact λ_=>⟨by simp,cFh.h,cFh.h⟩):=h
def Bm{p:Prop}(h:p:=by cases e;rw [aH.nodes] at h;omega):=h
def Fz{p:Prop}(h:p:=by rw [if_neg (by decide)];exact jN):=h
def Bn{p:Prop}(h:p:=by intro h;rw [h] at h4;simp at h4):=h
def Bo{p:Prop}(h:p:=by exact λ_ b hb=>by simp [hb]):=h
def Dc{p:Prop}(h:p:=by exact λhn=>cDv (by simp) hn):=h
def G5{p:Prop}(h:p:=by show x.code.length <= _;omega):=h
def Bq{p:Prop}(h:p:=by exact λb hb=>by simp [hb]):=h
def Br{p:Prop}(h:p:=by have:=h4;simp at this;omega):=h
def DI{p:Prop}(h:p:=by rw [List.length_drop];omega):=h
def Co{p:Prop}(h:p:=by simp [bytes,ByteArray.size]):=h
def Bs{p:Prop}(h:p:=by rw [←eP];simpa using hown2):=h
def Bt{p:Prop}(h:p:=by unfold Sto.bl;rw [hb];simp):=h
def Bu{p:Prop}(h:p:=by exact λ_ h=>by cases h):=h
def Bv{p:Prop}(h:p:=by unfold maxLen;skip;omega):=h
def FY{p:Prop}(h:p:=by rw [gO (by omega)];omega):=h
def Bw{p:Prop}(h:p:=by rw [hbl] at hx;exact hx):=h
def Bz{p:Prop}(h:p:=by simp [Value.oneCell']):=h
def B1{p:Prop}(h:p:=by unfold maxLen;omega):=h
def Dj{p:Prop}(h:p:=by rw [ha7 rfl];decide):=h
def G6{p:Prop}(h:p:=by unfold bS.wt;omega):=h
def B2{p:Prop}(h:p:=by first|omega|grind):=h
def F4{p:Prop}(h:p:=by unfold fit;omega):=h
def B4{p:Prop}(h:p:=by simpa using h2):=h
def B3{p:Prop}(h:p:=by simpa using hi):=h
def Cz{p:Prop}(h:p:=by simpa using hk):=h
def B6{p:Prop}(h:p:=by kernel_rfl):=h
def Dp{p:Prop}(h:p:=by assumption):=h
def B8{p:Prop}(h:p:=by go_grown):=h
def BE{p:Prop}(h:p:=by rw [cFz,if_neg (by omega),if_neg (by omega)];unfold cFu;rw [if_neg (by omega),if_neg (by omega),if_pos (by omega)]<;>rfl):=h
def BG{p:Prop}(h:p:=by rw [bZ9,if_pos hpa,hbg,hy1];show (if e1=0 then _ else _)=_;rw [if_pos (by omega)];rw [hy2];rw [show e2=0 by omega]):=h
def BI{p:Prop}(h:p:=by rw [hk.block _ (h.lt _ (List.mem_append_left _ (List.mem_map.2 ⟨x,hx,rfl⟩))) (by simp;exact hbox x hx)];exact e1):=h
def BJ{p:Prop}(h:p:=by exact λk hk=>bPy _ (hs.funcs _ (getElem_mem hk)) (by unfold cK.wt at hw;have:=aDi bS.wt p.funcs k hk;omega) _):=h
def BK{p:Prop}(h:p:=by intro b hb;simp only [mem_append,mem_cons,not_mem_nil,or_false,aY,Value.ownBlock,Option.toList] at hb⊢;grind):=h
def BL{p:Prop}(h:p:=by unfold maxLen;show _+(_:List UInt8).length <= _;(try simp only [length_append,length_cons,length_nil]);omega):=h
def A3{p:Prop}(h:p:=by unfold fS;rw [decide_eq_false (show ¬(0 <= p.mutexes[i].size /\ p.mutexes[i].size <= 64) by omega)];simp):=h
def BN{p:Prop}(h:p:=by rw [hk.block _ (hs.mem.lt _ (List.mem_append_left _ (List.mem_map.2 ⟨x,hx,rfl⟩))) (by simp)];exact e1):=h
def G7{p:Prop}(h:p:=by exact λhn=>kH.2 ⟨by simp [Sto.bl],by intro hb;simp [Sto.bl,cR9,List.nodup_cons] at hn hb;grind⟩):=h
def FZ{p:Prop}(h:p:=by show List.length us+l4 <= 1000;(try simp only [length_append,length_cons,length_nil]);omega):=h
def CB{p:Prop}(h:p:=by rw [hb];simp only [mem_append,mem_cons];rcases hr with h|h;exact .inl h;exact .inr (.inr h)):=h
def CC{p:Prop}(h:p:=by rw [bZ9,if_pos hpa,hbg,hy1];show (if e1=0 then _ else _)=_;rw [if_pos (by omega)];exact hy2):=h
def CE{p:Prop}(h:p:=by subst h3;exact ⟨_,_,s,h2,⟨rfl,rfl⟩,.c _ _ (.val _ h1),hm,cW.refl _ _,λb hb=>.inl hb⟩):=h
def CF{p:Prop}(h:p:=by intro hd;have:=congrArg List.length hd;rw [List.length_drop] at this;simp at this;omega):=h
def CG{p:Prop}(h:p:=by have h:=HI.out;rw [List.drop_drop,List.drop_eq_nil_of_le (by omega)] at h;simpa using h):=h
def BP{p:Prop}(h:p:=by intro x hx;simp only [mem_append,mem_cons,not_mem_nil,or_false] at hx⊢;grind):=h
def Ga{p:Prop}(h:p:=by first|omega|(simp only [length_append,length_cons,length_nil];omega)):=h
def BS{p:Prop}(h:p:=by rw [hbl] at hx;exact Nat.lt_of_lt_of_le (h.lt x hx) hk.size):=h
def FC{p:Prop}(h:p:=by exact λb hb=>hk.block b (hs.mem.lt b hb) (by simp)):=h
def BU{p:Prop}(h:p:=by exact λb hb=>by simpa [aY,Value.ownBlock] using hb):=h
def Eg{p:Prop}(h:p:=by show p.mutexes.length-(k+1)<p.mutexes.length-k;omega):=h
def Fx{p:Prop}(h:p:=by rw [if_neg (by decide)];exact decide_eq_true rfl):=h
def G8{p:Prop}(h:p:=by exact λ_=>⟨by simp,by simp,cFh.h,cFh.h⟩):=h
def G9{p:Prop}(h:p:=by simp [aY,Value.ownBlock] at hb;simp [hb]):=h
def CX{p:Prop}(h:p:=by have:=hbel.size;have:=hb.size;simp;omega):=h
def Gg{p:Prop}(h:p:=by intro b hb;simp at hb;subst hb;simp):=h
def Ce{p:Prop}(h:p:=by exact λi hi=>hvk i hi (by omega)):=h
def Gu{p:Prop}(h:p:=by exact λy hy=>h y (by simp [hy])):=h
def Cm{p:Prop}(h:p:=by simp only [bC,decide_eq_false h]):=h
def Dd{p:Prop}(h:p:=by rw [UInt8.toNat_ofNat'];omega):=h
def De{p:Prop}(h:p:=by have:=hak k (by omega);omega):=h
def F1{p:Prop}(h:p:=by exact λa ha=>by cases ha):=h
def Gl{p:Prop}(h:p:=by rw [List.length_take];omega):=h
def Cp{p:Prop}(h:p:=by simp;exact hU hs.mem.nodup):=h
def Df{p:Prop}(h:p:=by have:=hbel.size;simp;omega):=h
def GA{p:Prop}(h:p:=by rw [List.length_map];omega):=h
def Ct{p:Prop}(h:p:=by rw [HL.out];exact hlt):=h
def B0{p:Prop}(h:p:=by have:=sF e k hk;omega):=h
def DJ{p:Prop}(h:p:=by rw [ha30 rfl];decide):=h
def Di{p:Prop}(h:p:=by rw [ha8 rfl];decide):=h
def Dk{p:Prop}(h:p:=by rw [ha1 rfl];decide):=h
def Gh{p:Prop}(h:p:=by show m <= L;omega):=h
def GC{p:Prop}(h:p:=by rw [cZ6];exact hk):=h
def Cx{p:Prop}(h:p:=by rw [HZ.out];omega):=h
def F2{p:Prop}(h:p:=by unfold fit;decide):=h
def Cy{p:Prop}(h:p:=by have:=uZ l;omega):=h
def E7{p:Prop}(h:p:=by dsimp only;omega):=h
def Dl{p:Prop}(h:p:=by simp [bC];omega):=h
def C0{p:Prop}(h:p:=by simp;exact hbm):=h
def C1{p:Prop}(h:p:=by rw [hrow];simp):=h
def C2{p:Prop}(h:p:=by simpa using h1):=h
def Dm{p:Prop}(h:p:=by simpa using hl):=h
def C3{p:Prop}(h:p:=by simpa using he):=h
def B5{p:Prop}(h:p:=by rw [h];decide):=h
def Do{p:Prop}(h:p:=by simp [bC,h]):=h
def C7{p:Prop}(h:p:=by rw [h];rfl):=h
def C6{p:Prop}(h:p:=by skip;omega):=h
def C8{p:Prop}(h:p:=by go_num):=h
def C9{p:Prop}(h:p:=by show _+(_:List UInt8).length <= _;(try simp only [length_append,length_cons,length_nil]);omega):=h
def Gi{p:Prop}(h:p:=by intro x hx;simp [aY,Value.ownBlock] at hx⊢;rcases hx with h|h|h|h|h<;>simp [h]):=h
def Gj{p:Prop}(h:p:=by intro x hx;simp [aY,Value.ownBlock] at hx⊢;rcases hx with h|h|h|h<;>simp [h]):=h
def Dv{p:Prop}(h:p:=by rcases List.mem_cons.1 hb with rfl|hb;exact .inr (by omega);exact .inl hb):=h
def CQ{p:Prop}(h:p:=by rw [World.cell?_alloc_lt wr _ ⟨b,off+j,none⟩ hblt];exact HB.out j u hu):=h
def AN{p:Prop}(h:p:=by dsimp only;rw [length_append];simp only [length_cons,length_nil];omega):=h
def GD{p:Prop}(h:p:=by have h9:=hall k (by omega);unfold cJh at h9;rw [h3] at h9;exact h9):=h
def Dw{p:Prop}(h:p:=by unfold cAr;first|(rw [if_pos (by omega)])|(rw [if_neg (by omega)])):=h
def GE{p:Prop}(h:p:=by unfold cK.wt at hw;have hfn:=aDr bS.wt (λx=>G6) p.funcs;omega):=h
def Dy{p:Prop}(h:p:=by rw [kQ funcText _ f (by omega),←bPm hm];simp only [append_assoc]):=h
def D2{p:Prop}(h:p:=by obtain ⟨q1,q0,q2,q3⟩:=(bL0 hlx1).2 hh;first|omega|exact h4 q3):=h
def D3{p:Prop}(h:p:=by obtain ⟨q1,q0,q2,q3⟩:=(bL0 hlx1).2 hh;first|omega|exact h3 q3):=h
def D4{p:Prop}(h:p:=by obtain ⟨q1,q0,q2,q3⟩:=(bL0 hlx1).2 hh;first|omega|exact h2 q3):=h
def CS{p:Prop}(h:p:=by exact λb hb'=>hk.block b (hm.lt b hb') (by simp)):=h
def CU{p:Prop}(h:p:=by exact λx hx=>by simp at hx;subst hx;exact hmem):=h
def CY{p:Prop}(h:p:=by simpa [cC] using congrArg List.length h0):=h
def CZ{p:Prop}(h:p:=by unfold Sto.bl;simp [aY,Value.ownBlock]):=h
def GF{p:Prop}(h:p:=by rw [hq];exact dDa hg hfa.sane (cSf hp)):=h
def Da{p:Prop}(h:p:=by rw [←Array.getElem?_toList];exact hi):=h
def GG{p:Prop}(h:p:=by rw [hq,dAz hg hfa.sane];exact cSf hp):=h
def Db{p:Prop}(h:p:=by exact λx hx=>absurd hx (by simp)):=h
def GH{p:Prop}(h:p:=by show k+1 <= p.mutexes.length;omega):=h
def GI{p:Prop}(h:p:=by rw [List.length_set,cZ6];exact hk):=h
def D9{p:Prop}(h:p:=by unfold aM;(repeat' split)<;>omega):=h
def GJ{p:Prop}(h:p:=by rw [hk];exact List.mem_cons_self):=h
def Cl{p:Prop}(h:p:=by unfold Addr.add;split<;>simp_all):=h
def GK{p:Prop}(h:p:=by show (1+z2)-(k+1)<(1+z2)-k;omega):=h
def Dg{p:Prop}(h:p:=by unfold Sto.bl;simp [hb2]):=h
def GL{p:Prop}(h:p:=by unfold bZp;rw [h1];rfl):=h
def Cr{p:Prop}(h:p:=by show (0:Nat)<16;decide):=h
def Cu{p:Prop}(h:p:=by show (4:Int)≠3;decide):=h
def GM{p:Prop}(h:p:=by simpa using hb):=h
def DL{p:Prop}(h:p:=by simpa using h3):=h
def DN{p:Prop}(h:p:=by simp;exact hT):=h
def DO{p:Prop}(h:p:=by rw [hb];simp):=h
def Dn{p:Prop}(h:p:=by simp [bytes]):=h
def DR{p:Prop}(h:p:=by simp;omega):=h
def DT{p:Prop}(h:p:=by simp [hgf]):=h
def B7{p:Prop}(h:p:=by simp [bC]):=h
def Dr{p:Prop}(h:p:=by grind):=h
def Dt{p:Prop}(h:p:=by exact λhh=>hh.2.elim (ha16 rfl) (λh=>absurd h (by rw [ha6 rfl];decide))):=h
def Du{p:Prop}(h:p:=by exact λ_=>by unfold bL jW;rw [if_neg (ha1 rfl),if_pos ha4,if_pos ha4];rfl):=h
def Dz{p:Prop}(h:p:=by subst he;rw [List.map_cons,List.nodup_cons] at hn;exact hn.1 h.h):=h
def Gp{p:Prop}(h:p:=by show sg[ds.length].2.length-(j+1)<sg[ds.length].2.length-j;omega):=h
def D1{p:Prop}(h:p:=by rw [kQ bE _ i (by omega),bOb hm h14 (bNg hmok h14),append_assoc]):=h
def GN{p:Prop}(h:p:=by show _=[AC.val (.string (rn a b x.name)),_,_];rw [dA8 h];rfl):=h
def DW{p:Prop}(h:p:=by rw [kQ bE _ i (by omega),bOj hm h14 (by omega),append_assoc]):=h
def DX{p:Prop}(h:p:=by rw [kQ bE _ i (by omega),bOg hm h14 (by omega),append_assoc]):=h
def GO{p:Prop}(h:p:=by rw [List.flatMap_cons,List.flatMap_nil,List.append_nil,cZo]):=h
def D5{p:Prop}(h:p:=by first|(rw [kT];(try simp only [length_append]);omega)|omega):=h
def Eb{p:Prop}(h:p:=by show (cFe p t (x.branch e)).code.length+1+_ <= _;omega):=h
def Bf{p:Prop}(h:p:=by exact λ_ b hb=>lU (by simp [Sto.bl,hb])):=h
def DD{p:Prop}(h:p:=by rw [h.1,decide_eq_false he];rfl):=h
def DF{p:Prop}(h:p:=by simp [aY,Value.ownBlock] at hb):=h
def GP{p:Prop}(h:p:=by show cZ0 Q [];rw [cZ0];trivial):=h
def DG{p:Prop}(h:p:=by rw [beq_eq_false_iff_ne];omega):=h
def GQ{p:Prop}(h:p:=by show cZ [] <= _;rw [cZ];omega):=h
def GR{p:Prop}(h:p:=by rw [hq];exact dBo hg hfa.sane):=h
def Ei{p:Prop}(h:p:=by unfold Sto.bl;rw [hrow];simp):=h
def F7{p:Prop}(h:p:=by rw [if_neg (by decide)];rfl):=h
def GU{p:Prop}(h:p:=by unfold cY.wt at hwp;omega):=h
def En{p:Prop}(h:p:=by unfold xU;rw [hnum]):=h
def Ep{p:Prop}(h:p:=by rw [ha2 h];decide):=h
def Er{p:Prop}(h:p:=by simpa using h):=h
def C4{p:Prop}(h:p:=by simp [Sto.bl]):=h
def C5{p:Prop}(h:p:=by rw [h1];rfl):=h
def FE{p:Prop}(h:p:=by simp [bW]):=h
def Dq{p:Prop}(h:p:=by simp [h]):=h
def DV{p:Prop}(h:p:=by cases h):=h
def DY{p:Prop}(h:p:=by rw [kQ aU _ k (by omega),bOe hm (by omega),append_assoc]):=h
def DZ{p:Prop}(h:p:=by rw [kQ aU _ k (by omega),bOc hm (by omega),append_assoc]):=h
def AZ{p:Prop}(h:p:=by have:=hsix rfl;show (acc++[_]).length <= 6;simp;omega):=h
def GV{p:Prop}(h:p:=by have h9:w.heap.size<w.heap.size:=hs.mem.lt _ hm;omega):=h
def GW{p:Prop}(h:p:=by show p.globals.length-(k+1)<p.globals.length-k;omega):=h
def Bb{p:Prop}(h:p:=by show f.params.length-(k+1)<f.params.length-k;omega):=h
def Eh{p:Prop}(h:p:=by unfold bLk;rcases hh with hh|hh<;>rw [hh]<;>rfl):=h
def GX{p:Prop}(h:p:=by first|omega|(rw [cF1];omega)):=h
def F8{p:Prop}(h:p:=by show iI [];rw [iI];trivial):=h
def Gt{p:Prop}(h:p:=by rw [gO (by omega)];exact h):=h
def Ej{p:Prop}(h:p:=by subst h1;subst h2;exact h):=h
def Cq{p:Prop}(h:p:=by simp [aY,Value.ownBlock]):=h
def Gv{p:Prop}(h:p:=by show k+1 <= (1+z2);omega):=h
def Ek{p:Prop}(h:p:=by rw [h8.h];exact h.out k):=h
def GY{p:Prop}(h:p:=by show ¬(2:Int)=3;decide):=h
def GZ{p:Prop}(h:p:=by show ¬(1:Int)=3;decide):=h
def Eo{p:Prop}(h:p:=by rw [h.1,hs,he];rfl):=h
def Ha{p:Prop}(h:p:=by have:=dV hn9;omega):=h
def Eq{p:Prop}(h:p:=by rw [cAu];omega):=h
def Hb{p:Prop}(h:p:=by cases hx):=h
def Hc{p:Prop}(h:p:=by exact λv2 k2 q2=>ih v2 (hv.same k2 (by omega) q2) (by omega)):=h
def Et{p:Prop}(h:p:=by show p.funcs.length-(k+1)<p.funcs.length-k;omega):=h
def BW{p:Prop}(h:p:=by show (jP lv).length-(i+1)<(jP lv).length-i;omega):=h
def Eu{p:Prop}(h:p:=by rw [←getD_eq l1 l i true (he1 i him)];exact hiu):=h
def Ew{p:Prop}(h:p:=by unfold Sto.bl;rw [hb];simp [aY,Value.ownBlock]):=h
def Ex{p:Prop}(h:p:=by rw [getD_eq l1 l k true (he1 k hkm)];exact hku):=h
def Ez{p:Prop}(h:p:=by unfold maxLen;first|omega|(have:=hsz;omega)):=h
def Hd{p:Prop}(h:p:=by intro c hc;simp [dF] at hc;subst hc;decide):=h
def D8{p:Prop}(h:p:=by exact λi h=>absurd h (by simp)):=h
def E4{p:Prop}(h:p:=by rw [HS.out];exact hlt):=h
def He{p:Prop}(h:p:=by exact λ_=>by simp):=h
def E5{p:Prop}(h:p:=by rw [ha53 rfl];decide):=h
def E6{p:Prop}(h:p:=by rw [ha14 rfl];decide):=h
def E8{p:Prop}(h:p:=by simpa using h.h):=h
def EB{p:Prop}(h:p:=by exact λe a' w' q=>by cases e<;>first|exact q|exact q.elim):=h
def EC{p:Prop}(h:p:=by show n2+wtS (l.drop (k+1)) <= 900000000;omega):=h
def Gw{p:Prop}(h:p:=by unfold cY.wt;show 1+cZ [] <= 7;rw [cZ];omega):=h
def EL{p:Prop}(h:p:=by rw [bS4,if_pos hj,Array.getElem?_eq_getElem]):=h
def EM{p:Prop}(h:p:=by rw [List.length_take,List.length_drop];omega):=h
def EE{p:Prop}(h:p:=by simp;intro he;subst he;exact hrow r hr hq):=h
def EF{p:Prop}(h:p:=by show n+1+wtS l[k].thn <= 900000000;omega):=h
def EN{p:Prop}(h:p:=by first|rfl|(show _=((n+1:Nat):Int);omega)):=h
def EK{p:Prop}(h:p:=by simpa using e1):=h
def V{p:Prop}(h:p:=by decide):=h
def Hf{p:Prop}(h:p:=by exact λe=>hd.1 (by rw [e];exact List.mem_map_of_mem hx)):=h
def ET{p:Prop}(h:p:=by exact λk hk=>bOq D l[k] _ _ _ (hst (by omega) k hk)):=h
def EU{p:Prop}(h:p:=by rw [List.length_map,List.length_take];omega):=h
def Hg{p:Prop}(h:p:=by show (w.heap.push _)[w.heap.size]?=_;simp):=h
def Gx{p:Prop}(h:p:=by show j+1 <= sg[ds.length].2.length;omega):=h
def EO{p:Prop}(h:p:=by show n1+wtS l[k].els <= 900000000;omega):=h
def EX{p:Prop}(h:p:=by first|rfl|(show _=((n1:Nat):Int);omega)):=h
def Hh{p:Prop}(h:p:=by simpa using List.all_eq_true.1 hzc u hu):=h
def EY{p:Prop}(h:p:=by rw [if_pos ha2];exact .ok _ _ _ rfl):=h
def Hi{p:Prop}(h:p:=by rw [he];exact List.mem_cons_self ..):=h
def Fa{p:Prop}(h:p:=by have:=bOv m (x:=x) (by omega);omega):=h
def Fc{p:Prop}(h:p:=by exact λj v hj=>by simp at hj):=h
def EQ{p:Prop}(h:p:=by rw [beq_iff_eq];omega):=h
def Gy{p:Prop}(h:p:=by rw [List.map_map];rfl):=h
def ER{p:Prop}(h:p:=by rw [h.len];exact hi):=h
def Ff{p:Prop}(h:p:=by rw [ha4 rfl];decide):=h
def Gz{p:Prop}(h:p:=by first|decide|omega):=h
def Fj{p:Prop}(h:p:=by rw [hs1];exact hi):=h
def Fl{p:Prop}(h:p:=by rw [HS.out];omega):=h
def Fo{p:Prop}(h:p:=by rw [HL.out];omega):=h
def Fp{p:Prop}(h:p:=by simp at h2;omega):=h
def Fq{p:Prop}(h:p:=by simp at h1;omega):=h
def Hj{p:Prop}(h:p:=by show k≠1;omega):=h
def Hk{p:Prop}(h:p:=by rw [h0];rfl):=h
def DU{p:Prop}(h:p:=by simp at h):=h
def J{p:Prop}(h:p:=by omega):=h
def Fs{p:Prop}(h:p:=by rfl):=h
def G0{p:Prop}(h:p:=by simp):=h
end Go.Proofs.YtjgeihmhppadaaaGreatDoor
