import Derived.Handy
set_option linter.all false
namespace Go.Proofs.YtjgeihmhppadaaaGreatDoor
universe u
def J{α:Sort u}{a:α}:a=a:=Eq.refl a
def H9{p:Prop}(h:p:=by rw [show fJ x=false by unfold fJ;first|exact decide_eq_true (by omega)|exact decide_eq_false (by omega),show fV x=false by unfold fV;first|exact decide_eq_true (by omega)|exact decide_eq_false (by omega),show fh x=true by unfold fh;first|exact decide_eq_true (by omega)|exact decide_eq_false (by omega),show f_ x=false by unfold f_;first|exact decide_eq_true (by omega)|exact decide_eq_false (by omega),show fU x=false by unfold fU;first|exact decide_eq_true (by omega)|exact decide_eq_false (by omega),show il x=false by unfold il;first|exact decide_eq_true (by omega)|exact decide_eq_false (by omega),show f9 x=false by unfold f9;first|exact decide_eq_true (by omega)|exact decide_eq_false (by omega)];rfl):=h
def IV{p:Prop}(h:p:=by rw [show fJ x=true by unfold fJ;first|exact decide_eq_true (by omega)|exact decide_eq_false (by omega),show fV x=true by unfold fV;first|exact decide_eq_true (by omega)|exact decide_eq_false (by omega),show fh x=false by unfold fh;first|exact decide_eq_true (by omega)|exact decide_eq_false (by omega),show f_ x=false by unfold f_;first|exact decide_eq_true (by omega)|exact decide_eq_false (by omega),show fU x=false by unfold fU;first|exact decide_eq_true (by omega)|exact decide_eq_false (by omega),show il x=false by unfold il;first|exact decide_eq_true (by omega)|exact decide_eq_false (by omega),show f9 x=false by unfold f9;first|exact decide_eq_true (by omega)|exact decide_eq_false (by omega)];rfl):=h
def JF{p:Prop}(h:p:=by rw [show fJ x=true by unfold fJ;first|exact decide_eq_true (by omega)|exact decide_eq_false (by omega),show fV x=false by unfold fV;first|exact decide_eq_true (by omega)|exact decide_eq_false (by omega),show fh x=false by unfold fh;first|exact decide_eq_true (by omega)|exact decide_eq_false (by omega),show f_ x=true by unfold f_;first|exact decide_eq_true (by omega)|exact decide_eq_false (by omega),show fU x=false by unfold fU;first|exact decide_eq_true (by omega)|exact decide_eq_false (by omega),show il x=false by unfold il;first|exact decide_eq_true (by omega)|exact decide_eq_false (by omega),show f9 x=false by unfold f9;first|exact decide_eq_true (by omega)|exact decide_eq_false (by omega)];rfl):=h
def Hf{p:Prop}(h:p:=by exact λh=>⟨gK.2 ⟨by simp [aH.bl],λhh=>by simp only [mem_cons,not_mem_nil,or_false] at hh;rcases hh with rfl|rfl<;>simp [aH.bl] at h⟩,λb hb=>eY (r:=(⟨vc,92,12,y.code.length,y.code.flatMap encI⟩:aS)) h hb,λb hb=>eY (r:=(⟨vs,3,1,y.sites.length,y.sites.map λx=>.val (.int .i64 x)⟩:aS)) h hb⟩):=h
def HW{p:Prop}(h:p:=by exact λh=>by unfold mF;rw [if_neg (by rw [ha1 h];decide),if_neg (by rw [ha8 h];decide),if_neg (by rw [ha14 h];decide),if_neg (by rw [ha19 h];decide),if_neg (by rw [ha24 h];decide),if_neg (by rw [ha33 h];decide),if_neg (by rw [ha38 h];decide)]):=h
def y8{p:Prop}(h:p:=by dsimp only;rw [he1,he2];exact az (h1:=(.cons _ (.refl _))) (h:=av rfl (bv (by omega)) (ao rfl)) (by intro x hx;simp only [mem_append,mem_cons,not_mem_nil,or_false] at hx⊢;grind)):=h
def Ja{p:Prop}(h:p:=by intro h b hb;simp at hb;subst hb;exact gK.2 ⟨by simp [aH.bl],λhh=>by simp only [mem_cons,not_mem_nil,or_false] at hh;rcases hh with rfl|rfl|rfl|rfl|rfl<;>simp [aH.bl] at h⟩):=h
def Lp{p:Prop}(h:p:=by have h1:=sd p l[k].thn (y.branch l[k].expr);have h2:(y.branch l[k].expr).code.length=y.code.length+1:=lB _ _;show _ <= (cE p l[k].thn (y.branch l[k].expr)).code.length;omega):=h
def JS{p:Prop}(h:p:=by intro h b hb;simp at hb;subst hb;exact gK.2 ⟨by simp [aH.bl],λhh=>by simp only [mem_cons,not_mem_nil,or_false] at hh;rcases hh with rfl|rfl|rfl|rfl<;>simp [aH.bl] at h⟩):=h
def Lu{p:Prop}(h:p:=by exact λ_=>by unfold mF;rw [if_neg (by rw [ha1 rfl];decide),if_neg (by rw [ha8 rfl];decide),if_neg (by rw [ha14 rfl];decide),if_neg (by rw [ha19 rfl];decide),if_pos ha24]):=h
def LO{p:Prop}(h:p:=by exact λh9=>hTv b (BG (bx:=A++⟨W,181,[.val (.pointer a),.val v,am m]⟩::B) (bx':=A++⟨W,181,[.val (.pointer a'),.val v',aA ((m':Nat):Int)]⟩::B) (by simp) hm.nodup hb2 h9)):=h
def JQ{p:Prop}(h:p:=by intro h b hb;simp at hb;subst hb;exact gK.2 ⟨by simp [aH.bl],λhh=>by simp only [mem_cons,not_mem_nil,or_false] at hh;rcases hh with rfl<;>simp [aH.bl] at h⟩):=h
def Hx{p:Prop}(h:p:=by unfold jT;rw [decide_eq_true (show e.op=0 /\ e.num=0 by omega),decide_eq_true (show e.name=ax by assumption),decide_eq_true (show e.args.length=0 by omega)];rfl):=h
def Mt{p:Prop}(h:p:=by rw [oC,if_neg (by omega),if_neg (by omega)];unfold hJ;rw [if_neg (by omega),if_neg (by omega),if_neg (by omega),if_neg (by omega),if_pos (by omega)]<;>rfl):=h
def Jr{p:Prop}(h:p:=by rw [oC,if_neg (by omega),if_neg (by omega)];unfold hJ;rw [if_neg (by omega),if_neg (by omega),if_neg (by omega),if_neg (by omega),if_neg (by omega)]<;>rfl):=h
def Fj{p:Prop}(h:p:=by have h1:=qH p l[k].thn (y.branch l[k].expr);have h2:=hbr.2;show (cE p l[k].thn (y.branch l[k].expr)).code.length+2+3*bQ l[k].els <= _;omega):=h
def Du{p:Prop}(h:p:=by exact λ_ b hb=>by first|(simp [hb];done)|(simp only [aO,Value.ownBlock,Option.toList,mem_cons,not_mem_nil,or_false] at hb;simp [hb];done)):=h
def xt{p:Prop}(h:p:=by rw [pF];rw [take_of_length_le (by omega)] at hvk;rw [hvk];unfold kP arity;(repeat' split)<;>first|omega|(simp_all;done)|(simp_all;omega)):=h
def ww{p:Prop}(h:p:=by exact λi hi hlt2=>(Nat.lt_or_ge i k).elim (λh9=>hvk i hi h9) (λh9=>by have h8:i=k:=(by omega);subst h8;exact h3)):=h
def zV{p:Prop}(h:p:=by rw [oC,if_neg (by omega),if_neg (by omega)];unfold hJ;rw [if_neg (by omega),if_neg (by omega),if_pos (by omega)]<;>rfl):=h
def vY{p:Prop}(h:p:=by (repeat rw [N6 (Nat.ne_of_lt hblt)]);rw [hcc _ _ (by simp;omega),World.cell?_alloc_lt wr _ ⟨b,o,none⟩ hblt]):=h
def yo{p:Prop}(h:p:=by intro b hb;simp only [mem_append,mem_cons,not_mem_nil,or_false,aO,Value.ownBlock,Option.toList] at hb⊢;grind):=h
def AO{p:Prop}(h:p:=by unfold g_;rw [decide_eq_false (show ¬(0 <= p.mutexes[i].size /\ p.mutexes[i].size <= 64) by omega)];simp):=h
def EW{p:Prop}(h:p:=by rw [show eU .eql ((l[k].kind:Nat):Int) 4=some (decide (l[k].kind=4)) from pm (n:=4),decide_eq_false h4]):=h
def pi{p:Prop}(h:p:=by have h9:=Hk hok.last (x:=x0) hk0;rw [(hel.good h).2.1] at h9;exact ⟨h9.1,(hel.good h).2.2⟩):=h
def ui{p:Prop}(h:p:=by show List.length us+m <= 1000;(try simp only [length_append,length_cons,length_nil]);omega):=h
def ig{p:Prop}(h:p:=by (try simp only [length_append,length_cons,length_nil,List.length_replicate]);omega):=h
def Ey{p:Prop}(h:p:=by unfold maxLen;first|omega|(simp only [length_append,length_cons,length_nil];omega)):=h
def y5{p:Prop}(h:p:=by exact λh=>by have:=congrArg List.length h;simp only [length_nil] at this;omega):=h
def zj{p:Prop}(h:p:=by exact λk hk=>QC _ (hsa _ (getElem_mem _)) (by have:=rN x.args k hk;omega) _):=h
def jA{p:Prop}(h:p:=by intro b hb;simp only [mem_append,mem_cons,not_mem_nil,or_false] at hb⊢;grind):=h
def yW{p:Prop}(h:p:=by unfold maxLen;(try simp only [length_append,length_cons,length_nil]);omega):=h
def qb{p:Prop}(h:p:=by have h1:=Of e.op;simp only [length_append,length_cons,length_nil];omega):=h
def z_{p:Prop}(h:p:=by dsimp only;rw [length_append];simp only [length_cons,length_nil];omega):=h
def tY{p:Prop}(h:p:=by exact λhn b hb=>by simp at hb;rcases hb with rfl|rfl<;>exact rL hn):=h
def nI{p:Prop}(h:p:=by intro x hx;simp only [mem_cons,not_mem_nil,or_false] at hx⊢;grind):=h
def ln{p:Prop}(h:p:=by intro b hb;simp at hb;rcases hb with rfl|rfl<;>simp [aH.bl,qJ]):=h
def AR{p:Prop}(h:p:=by have:=O8 hq;rw [List.length_take,List.length_drop] at this;omega):=h
def qh{p:Prop}(h:p:=by intro b hb;simp at hb;rcases hb with rfl|rfl<;>simp [aH.bl]):=h
def tA{p:Prop}(h:p:=by intro h b hb;simp at hb;subst hb;exact KV (by simp [aH.bl])):=h
def wX{p:Prop}(h:p:=by exact λu hu=>by obtain ⟨c,_,rfl⟩:=List.mem_map.1 hu;rfl):=h
def Zo{p:Prop}(h:p:=by exact λh9=>by have h8:i=k:=(by omega);subst h8;exact h3):=h
def iD{p:Prop}(h:p:=by exact λhn b hb=>by simp at hb;subst hb<;>exact rL hn):=h
def ky{p:Prop}(h:p:=by intro _ b hb;simp at hb⊢;rcases hb with rfl|rfl<;>simp):=h
def sq{p:Prop}(h:p:=by exact λb hb=>by simpa [aO,Value.ownBlock] using hb):=h
def im{p:Prop}(h:p:=by intro b hb;simp at hb⊢;rcases hb with rfl|rfl<;>simp):=h
def AK{p:Prop}(h:p:=by rw [if_pos (by decide)];exact he.valid hv (by omega)):=h
def yn{p:Prop}(h:p:=by show f.params.length-(k+1)<f.params.length-k;omega):=h
def oU{p:Prop}(h:p:=by exact λb hb=>by simp [aO,Value.ownBlock] at hb):=h
def u_{p:Prop}(h:p:=by simp only [execOp,ho,hs.val hx,hs.val hy]<;>rfl):=h
def jH{p:Prop}(h:p:=by intro _ b hb;simp at hb;subst hb;simp [aH.bl]):=h
def eB{p:Prop}(h:p:=by first|exact Kc (by omega)|(simp [eU]<;>omega)):=h
def eg{p:Prop}(h:p:=by first|exact MJ (by omega)|(simp [eU]<;>omega)):=h
def jV{p:Prop}(h:p:=by exact λ_=>⟨by simp,λb hb=>by simp [hb]⟩):=h
def sH{p:Prop}(h:p:=by intro x hx;simpa [aO,Value.ownBlock] using hx):=h
def Ah{p:Prop}(h:p:=by intro a;unfold wid;rw [if_neg hm];exact hev a):=h
def dS{p:Prop}(h:p:=by intro b hb;simp at hb;subst hb;simp [aH.bl]):=h
def tB{p:Prop}(h:p:=by have h1:=pE l k hk;have h2:=f6 l[k];omega):=h
def li{p:Prop}(h:p:=by simp [results,Tryz.results211,go_sem]):=h
def lY{p:Prop}(h:p:=by exact λ_ _ h=>absurd h (by omega)):=h
def mB{p:Prop}(h:p:=by exact λ_ h=>(gK.1 h).2 (by simp)):=h
def pg{p:Prop}(h:p:=by rw [kc,if_neg hk5];exact hel.bind h):=h
def hP{p:Prop}(h:p:=by exact λ_=>⟨by simp,bz.h,bz.h⟩):=h
def qo{p:Prop}(h:p:=by simp only [List.length_map];omega):=h
def pd{p:Prop}(h:p:=by cases e;rw [aP.nodes] at h;omega):=h
def sN{p:Prop}(h:p:=by intro h;rw [h] at h4;simp at h4):=h
def fi{p:Prop}(h:p:=by exact λ_ b hb=>by simp [hb]):=h
def pZ{p:Prop}(h:p:=by exact λhn=>Oi (by simp) hn):=h
def o0{p:Prop}(h:p:=by show y.code.length <= _;omega):=h
def qd{p:Prop}(h:p:=by show x.code.length <= _;omega):=h
def cb{p:Prop}(h:p:=by exact λb hb=>by simp [hb]):=h
def uh{p:Prop}(h:p:=by have:=hak k (by omega);omega):=h
def sW{p:Prop}(h:p:=by have:=h4;simp at this;omega):=h
def ri{p:Prop}(h:p:=by simp [bytes,ByteArray.size]):=h
def rr{p:Prop}(h:p:=by rw [←zZ];simpa using hown2):=h
def rW{p:Prop}(h:p:=by unfold aH.bl;rw [hb];simp):=h
def gr{p:Prop}(h:p:=by exact λ_ h=>by cases h):=h
def q5{p:Prop}(h:p:=by unfold maxLen;skip;omega):=h
def qu{p:Prop}(h:p:=by rw [uf (by omega)];omega):=h
def p8{p:Prop}(h:p:=by rw [hbl] at hx;exact hx):=h
def og{p:Prop}(h:p:=by simp [Value.oneCell']):=h
def pH{p:Prop}(h:p:=by have:=BW e k hk;omega):=h
def c_{p:Prop}(h:p:=by unfold maxLen;omega):=h
def pV{p:Prop}(h:p:=by unfold bE.wt;omega):=h
def nE{p:Prop}(h:p:=by first|omega|grind):=h
def pP{p:Prop}(h:p:=by have:=nY l;omega):=h
def mR{p:Prop}(h:p:=by simpa using h2):=h
def nS{p:Prop}(h:p:=by simpa using hk):=h
def oJ{p:Prop}(h:p:=by simpa using hi):=h
def mb{p:Prop}(h:p:=by rw [h];decide):=h
def aQ{p:Prop}(h:p:=by kernel_rfl):=h
def eG{p:Prop}(h:p:=by go_grown):=h
def GM{p:Prop}(h:p:=by rw [oC,if_neg (by omega),if_neg (by omega)];unfold hJ;rw [if_neg (by omega),if_neg (by omega),if_neg (by omega),if_pos (by omega)]<;>rfl):=h
def Ma{p:Prop}(h:p:=by simp only [Instr.lookup,Sem.run_bind,run_underlying ht,Result.andThen_ok,MapKept.run_getObj_map hb2,qB hk,rC hk g2,Sem.run_pure];rfl):=h
def Fb{p:Prop}(h:p:=by rw [show eU .eql ((x0.mutexes.length:Nat):Int) 12=some (decide (x0.mutexes.length=12)) from pm (n:=12),decide_eq_false hmutexes]):=h
def Jp{p:Prop}(h:p:=by rw [rb,if_pos hpa,hbg,hy1];show (if aa=0 then _ else _)=_;rw [if_pos (by omega)];rw [hy2];rw [show e2=0 by omega]):=h
def GC{p:Prop}(h:p:=by unfold j6;rw [decide_eq_true (show r.name=ax by assumption),decide_eq_true (show r.index.length=0 by omega)];rfl):=h
def MG{p:Prop}(h:p:=by rw [hk.block _ (h.lt _ (List.mem_append_left _ (List.mem_map.2 ⟨x,hx,rfl⟩))) (by simp;exact hbox x hx)];exact aa):=h
def Gs{p:Prop}(h:p:=by exact λk hk=>OG _ (hs.funcs _ (getElem_mem hk)) (by unfold aZ.wt at hw;have:=pT bE.wt p.funcs k hk;omega) _):=h
def FW{p:Prop}(h:p:=by unfold maxLen;show _+(_:List UInt8).length <= _;(try simp only [length_append,length_cons,length_nil]);omega):=h
def Kk{p:Prop}(h:p:=by rw [wS,if_neg (by omega)];show _=AT.agg [_,_,_,.sl (e.args.map (cW l)).length _];rw [List.length_map];rfl):=h
def Jn{p:Prop}(h:p:=by rw [oC,if_neg (by omega),if_neg (by omega)];unfold hJ;rw [if_neg (by omega),if_pos (by omega)]<;>rfl):=h
def Kg{p:Prop}(h:p:=by rw [hk.block _ (hs.mem.lt _ (List.mem_append_left _ (List.mem_map.2 ⟨x,hx,rfl⟩))) (by simp)];exact aa):=h
def Ih{p:Prop}(h:p:=by exact λhn=>gK.2 ⟨by simp [aH.bl],by intro hb;simp [aH.bl,sI,List.nodup_cons] at hn hb;grind⟩):=h
def Mz{p:Prop}(h:p:=by show ((y.beg (dx p y.ents l[k])).put (fv p y.ents l[k]) y.n)=_;rw [←nR p l k hkl x,←hvk,hst]):=h
def LZ{p:Prop}(h:p:=by show List.length us+l4 <= 1000;(try simp only [length_append,length_cons,length_nil]);omega):=h
def Ms{p:Prop}(h:p:=by simp only [mem_cons,not_mem_nil,or_false] at hh;rcases hh with rfl|rfl<;>simp [aH.bl] at h):=h
def Hb{p:Prop}(h:p:=by rw [hb];simp only [mem_append,mem_cons];rcases hr with h|h;exact .inl h;exact .inr (.inr h)):=h
def Gd{p:Prop}(h:p:=by rw [rb,if_pos hpa,hbg,hy1];show (if aa=0 then _ else _)=_;rw [if_pos (by omega)];exact hy2):=h
def ME{p:Prop}(h:p:=by subst h3;exact ⟨_,_,s,h2,⟨rfl,rfl⟩,.c _ _ (.val _ h1),hm,cH.refl _ _,λb hb=>.inl hb⟩):=h
def G0{p:Prop}(h:p:=by intro hd;have:=congrArg List.length hd;rw [List.length_drop] at this;simp at this;omega):=h
def MH{p:Prop}(h:p:=by have h:=HI.out;rw [List.drop_drop,List.drop_eq_nil_of_le (by omega)] at h;simpa using h):=h
def j4{p:Prop}(h:p:=by intro x hx;simp only [mem_append,mem_cons,not_mem_nil,or_false] at hx⊢;grind):=h
def Cp{p:Prop}(h:p:=by first|omega|(simp only [length_append,length_cons,length_nil];omega)):=h
def BO{p:Prop}(h:p:=by have:=pT bE.wt p.funcs k (by omega);unfold aZ.wt at hw;omega):=h
def Bw{p:Prop}(h:p:=by intro x hx;simp at hx⊢;rcases hx with h|h|h|h|h|h<;>simp [h]):=h
def Bs{p:Prop}(h:p:=by rw [hbl] at hx;exact Nat.lt_of_lt_of_le (h.lt x hx) hk.size):=h
def Ev{p:Prop}(h:p:=by exact λb hb=>hk.block b (hs.mem.lt b hb) (by simp)):=h
def E3{p:Prop}(h:p:=by rw [if_neg (by decide)];exact decide_eq_true rfl):=h
def Bg{p:Prop}(h:p:=by show (ba p).length-(k+1)<(ba p).length-k;omega):=h
def AZ{p:Prop}(h:p:=by unfold maxLen;first|omega|(have:=hsz;omega)):=h
def zN{p:Prop}(h:p:=by exact λ_=>⟨by simp,by simp,bz.h,bz.h⟩):=h
def yq{p:Prop}(h:p:=by simp [aO,Value.ownBlock] at hb;simp [hb]):=h
def Bi{p:Prop}(h:p:=by have:=hbel.size;have:=hb.size;simp;omega):=h
def dV{p:Prop}(h:p:=by intro b hb;simp at hb;subst hb;simp):=h
def uI{p:Prop}(h:p:=by exact λi hi=>hvk i hi (by omega)):=h
def wU{p:Prop}(h:p:=by exact λy hy=>h y (by simp [hy])):=h
def vE{p:Prop}(h:p:=by rw [if_neg (by decide)];exact C1):=h
def uy{p:Prop}(h:p:=by rcases hops with h|h|h|h<;>omega):=h
def xp{p:Prop}(h:p:=by unfold Addr.add;split<;>simp_all):=h
def AW{p:Prop}(h:p:=by simp only [eU,decide_eq_false h]):=h
def yz{p:Prop}(h:p:=by rw [Ef hck (by decide),hck];rfl):=h
def Aa{p:Prop}(h:p:=by rw [UInt8.toNat_ofNat'];omega):=h
def ub{p:Prop}(h:p:=by exact λa ha=>by cases ha):=h
def zH{p:Prop}(h:p:=by rw [List.length_take];omega):=h
def vI{p:Prop}(h:p:=by simp;exact hU hs.mem.nodup):=h
def wR{p:Prop}(h:p:=by rw [fN encI 12 kN];omega):=h
def yu{p:Prop}(h:p:=by have:=hbel.size;simp;omega):=h
def vz{p:Prop}(h:p:=by unfold fv;rw [hz2];rfl):=h
def tC{p:Prop}(h:p:=by rw [HL.out];exact hlt):=h
def vH{p:Prop}(h:p:=by show (4:Int)≠3;decide):=h
def ux{p:Prop}(h:p:=by rw [ha30 rfl];decide):=h
def sV{p:Prop}(h:p:=by rw [ha7 rfl];decide):=h
def vj{p:Prop}(h:p:=by rw [ha8 rfl];decide):=h
def vd{p:Prop}(h:p:=by rw [ha1 rfl];decide):=h
def rZ{p:Prop}(h:p:=by show m <= L;omega):=h
def tP{p:Prop}(h:p:=by rw [HZ.out];omega):=h
def uQ{p:Prop}(h:p:=by unfold fit;decide):=h
def qk{p:Prop}(h:p:=by dsimp only;omega):=h
def tG{p:Prop}(h:p:=by simp [eU];omega):=h
def qU{p:Prop}(h:p:=by simp;exact hbm):=h
def p7{p:Prop}(h:p:=by rw [hrow];simp):=h
def q'{p:Prop}(h:p:=by simpa using h1):=h
def sF{p:Prop}(h:p:=by simpa using hl):=h
def so{p:Prop}(h:p:=by simpa using he):=h
def qN{p:Prop}(h:p:=by simp [bytes]):=h
def pM{p:Prop}(h:p:=by simp [eU,h]):=h
def m6{p:Prop}(h:p:=by rw [h];rfl):=h
def q7{p:Prop}(h:p:=by skip;omega):=h
def j0{p:Prop}(h:p:=by go_num):=h
def Ll{p:Prop}(h:p:=by show _+(_:List UInt8).length <= _;(try simp only [length_append,length_cons,length_nil]);omega):=h
def I6{p:Prop}(h:p:=by simp only [jT,Bool.and_eq_true,decide_eq_true_eq] at hh;first|omega|exact h4 hh.1.2):=h
def Lv{p:Prop}(h:p:=by simp only [jT,Bool.and_eq_true,decide_eq_true_eq] at hh;first|omega|exact h3 hh.1.2):=h
def Le{p:Prop}(h:p:=by simp only [jT,Bool.and_eq_true,decide_eq_true_eq] at hh;first|omega|exact h2 hh.1.2):=h
def Jo{p:Prop}(h:p:=by simp only [jT,Bool.and_eq_true,decide_eq_true_eq] at hh;first|omega|exact h1 hh.1.2):=h
def Ji{p:Prop}(h:p:=by rw [oC,if_neg (by omega),if_neg (by omega)];unfold hJ;rw [if_pos (by omega)]<;>rfl):=h
def KF{p:Prop}(h:p:=by simp only [j6,Bool.and_eq_true,decide_eq_true_eq] at hh;first|omega|exact h2 hh.1):=h
def I8{p:Prop}(h:p:=by simp only [j6,Bool.and_eq_true,decide_eq_true_eq] at hh;first|omega|exact h1 hh.1):=h
def IK{p:Prop}(h:p:=by unfold gX;first|exact decide_eq_true (by omega)|exact decide_eq_false (by omega)):=h
def LF{p:Prop}(h:p:=by intro x hx;simp [aO,Value.ownBlock] at hx⊢;rcases hx with h|h|h|h|h<;>simp [h]):=h
def Ko{p:Prop}(h:p:=by intro x hx;simp [aO,Value.ownBlock] at hx⊢;rcases hx with h|h|h|h<;>simp [h]):=h
def GA{p:Prop}(h:p:=by rcases List.mem_cons.1 hb with rfl|hb;exact .inr (by omega);exact .inl hb):=h
def J7{p:Prop}(h:p:=by rw [World.cell?_alloc_lt wr _ ⟨b,off+j,none⟩ hblt];exact HB.out j u hu):=h
def Lb{p:Prop}(h:p:=by have h9:=hall k (by omega);unfold rm at h9;rw [h3] at h9;exact h9):=h
def Lh{p:Prop}(h:p:=by unfold mY;first|(rw [if_pos (by omega)])|(rw [if_neg (by omega)])):=h
def Hu{p:Prop}(h:p:=by unfold aZ.wt at hw;have hfn:=oe bE.wt (λx=>pV) p.funcs;omega):=h
def Kz{p:Prop}(h:p:=by rw [lD funcText _ f (by omega),←Hm hm];simp only [append_assoc]):=h
def Cj{p:Prop}(h:p:=by exact λb hb'=>hk.block b (hm.lt b hb') (by simp)):=h
def B1{p:Prop}(h:p:=by exact λx hx=>by simp at hx;subst hx;exact hmem):=h
def Bl{p:Prop}(h:p:=by simpa [dI] using congrArg List.length h0):=h
def Ee{p:Prop}(h:p:=by unfold aH.bl;simp [aO,Value.ownBlock]):=h
def EQ{p:Prop}(h:p:=by rw [←Array.getElem?_toList];exact hi):=h
def y7{p:Prop}(h:p:=by exact λx hx=>absurd hx (by simp)):=h
def Bj{p:Prop}(h:p:=by unfold cw;(repeat' split)<;>omega):=h
def D3{p:Prop}(h:p:=by rw [hk];exact List.mem_cons_self):=h
def C_{p:Prop}(h:p:=by show (1+z2)-(k+1)<(1+z2)-k;omega):=h
def zE{p:Prop}(h:p:=by rw [List.length_map];omega):=h
def zK{p:Prop}(h:p:=by unfold cD.wt at hwp;omega):=h
def xr{p:Prop}(h:p:=by unfold aH.bl;simp [hb2]):=h
def zi{p:Prop}(h:p:=by exact az (λb hb=>hb)):=h
def ya{p:Prop}(h:p:=by unfold bO;rw [h1];rfl):=h
def x9{p:Prop}(h:p:=by show (0:Nat)<16;decide):=h
def xq{p:Prop}(h:p:=by have:=hth.code;omega):=h
def v_{p:Prop}(h:p:=by show k+1 <= _;omega):=h
def vw{p:Prop}(h:p:=by unfold fit;omega):=h
def tk{p:Prop}(h:p:=by simpa using hb):=h
def tu{p:Prop}(h:p:=by simpa using h3):=h
def xD{p:Prop}(h:p:=by rw [lB];omega):=h
def uT{p:Prop}(h:p:=by simp [aH.bl]):=h
def vR{p:Prop}(h:p:=by simp;exact hT):=h
def rR{p:Prop}(h:p:=by rw [hb];simp):=h
def di{p:Prop}(h:p:=by simp;omega):=h
def kY{p:Prop}(h:p:=by assumption):=h
def rS{p:Prop}(h:p:=by simp [hgf]):=h
def ge{p:Prop}(h:p:=by simp [eU]):=h
def eZ{p:Prop}(h:p:=by grind):=h
def Hc{p:Prop}(h:p:=by exact λhh=>hh.2.elim (ha16 rfl) (λh=>absurd h (by rw [ha6 rfl];decide))):=h
def M9{p:Prop}(h:p:=by exact λ_=>by unfold eO kX;rw [if_neg (ha1 rfl),if_pos ha4,if_pos ha4];rfl):=h
def JH{p:Prop}(h:p:=by subst he;rw [List.map_cons,List.nodup_cons] at hn;exact hn.1 h.h):=h
def LI{p:Prop}(h:p:=by show sg[ds.length].2.length-(j+1)<sg[ds.length].2.length-j;omega):=h
def Ku{p:Prop}(h:p:=by rw [lD cX _ i (by omega),Gt hm h14 (L3 hmok h14),append_assoc]):=h
def LW{p:Prop}(h:p:=by obtain ⟨q1,q0,q2,q3⟩:=(xC hlx1).2 hh;first|omega|exact h4 q3):=h
def Jt{p:Prop}(h:p:=by obtain ⟨q1,q0,q2,q3⟩:=(xC hlx1).2 hh;first|omega|exact h3 q3):=h
def IJ{p:Prop}(h:p:=by obtain ⟨q1,q0,q2,q3⟩:=(xC hlx1).2 hh;first|omega|exact h2 q3):=h
def KX{p:Prop}(h:p:=by rw [lD cX _ i (by omega),Kf hm h14 (by omega),append_assoc]):=h
def Ix{p:Prop}(h:p:=by rw [lD cX _ i (by omega),Hp hm h14 (by omega),append_assoc]):=h
def Gv{p:Prop}(h:p:=by rw [List.flatMap_cons,List.flatMap_nil,List.append_nil,nj]):=h
def JZ{p:Prop}(h:p:=by first|(rw [wh];(try simp only [length_append]);omega)|omega):=h
def Im{p:Prop}(h:p:=by rw [List.drop_eq_nil_of_le (by omega)] at hvk;rw [←hvk];rfl):=h
def Kq{p:Prop}(h:p:=by rw [lD cJ _ k (by omega),M3 hm (by omega),append_assoc]):=h
def GZ{p:Prop}(h:p:=by show (cE p t (x.branch e)).code.length+1+_ <= _;omega):=h
def Eh{p:Prop}(h:p:=by exact λ_ b hb=>KV (by simp [aH.bl,hb])):=h
def ES{p:Prop}(h:p:=by rw [h.1,decide_eq_false he];rfl):=h
def B'{p:Prop}(h:p:=by simp [aO,Value.ownBlock] at hb):=h
def Cs{p:Prop}(h:p:=by rw [beq_eq_false_iff_ne];omega):=h
def D1{p:Prop}(h:p:=by show dD [] <= _;rw [dD];omega):=h
def DC{p:Prop}(h:p:=by unfold aH.bl;rw [hrow];simp):=h
def Aw{p:Prop}(h:p:=by first|omega|(rw [lB];omega)):=h
def EO{p:Prop}(h:p:=by rw [if_neg (by decide)];rfl):=h
def A_{p:Prop}(h:p:=by rw [List.length_drop];omega):=h
def AX{p:Prop}(h:p:=by unfold o7;rw [hnum]):=h
def yM{p:Prop}(h:p:=by show 0+_ <= _;omega):=h
def zI{p:Prop}(h:p:=by rw [ha2 h];decide):=h
def iW{p:Prop}(h:p:=by simpa using h):=h
def uM{p:Prop}(h:p:=by rw [h1];rfl):=h
def pk{p:Prop}(h:p:=by simp at h):=h
def sf{p:Prop}(h:p:=by simp [ct]):=h
def qz{p:Prop}(h:p:=by simp [h]):=h
def gM{p:Prop}(h:p:=by cases h):=h
def He{p:Prop}(h:p:=by rw [lD cJ _ k (by omega),Jy hm (by omega),append_assoc]):=h
def FC{p:Prop}(h:p:=by have h1:=rN y.args k h;unfold cK.wt cD.wt at h1;omega):=h
def Iw{p:Prop}(h:p:=by have:=hsix rfl;show (acc++[_]).length <= 6;simp;omega):=h
def Lr{p:Prop}(h:p:=by have h9:w.heap.size<w.heap.size:=hs.mem.lt _ hm;omega):=h
def Je{p:Prop}(h:p:=by show p.mutexes.length-(k+1)<p.mutexes.length-k;omega):=h
def G3{p:Prop}(h:p:=by rw [oC,if_pos (by omega),if_pos (by omega)]<;>rfl):=h
def Jq{p:Prop}(h:p:=by rw [oC,if_pos (by omega),if_neg (by omega)]<;>rfl):=h
def Mi{p:Prop}(h:p:=by rw [oC,if_neg (by omega),if_pos (by omega)]<;>rfl):=h
def Mb{p:Prop}(h:p:=by have h9:=hci;rw [tU hmx,length_append] at h9;omega):=h
def Kp{p:Prop}(h:p:=by unfold fQ;rcases hh with hh|hh<;>rw [hh]<;>rfl):=h
def Lz{p:Prop}(h:p:=by rw [←getD_eq l1 l i true (he1 i him)];exact hiu):=h
def EC{p:Prop}(h:p:=by show iX [];rw [iX];trivial):=h
def Em{p:Prop}(h:p:=by rw [uf (by omega)];exact h):=h
def Cw{p:Prop}(h:p:=by subst h1;subst h2;exact h):=h
def kq{p:Prop}(h:p:=by simp [aO,Value.ownBlock]):=h
def C6{p:Prop}(h:p:=by show k+1 <= (1+z2);omega):=h
def E5{p:Prop}(h:p:=by rw [h8.h];exact h.out k):=h
def D4{p:Prop}(h:p:=by show ¬(2:Int)=3;decide):=h
def C8{p:Prop}(h:p:=by show ¬(1:Int)=3;decide):=h
def Co{p:Prop}(h:p:=by show (5:Int)≠3;decide):=h
def Ed{p:Prop}(h:p:=by show (4:Int)≠2;decide):=h
def Bq{p:Prop}(h:p:=by rw [HS.out];exact hlt):=h
def xS{p:Prop}(h:p:=by rw [h.1,hs,he];rfl):=h
def Eq{p:Prop}(h:p:=by rw [Q7];omega):=h
def K5{p:Prop}(h:p:=by exact λv2 k2 q2=>ih v2 (hv.same k2 (by omega) q2) (by omega)):=h
def JI{p:Prop}(h:p:=by exact λe a' w' q=>by cases e<;>first|exact q|exact q.elim):=h
def Ii{p:Prop}(h:p:=by show p.funcs.length-(k+1)<p.funcs.length-k;omega):=h
def MF{p:Prop}(h:p:=by show (eE lv).length-(i+1)<(eE lv).length-i;omega):=h
def GE{p:Prop}(h:p:=by unfold aH.bl;rw [hb];simp [aO,Value.ownBlock]):=h
def FE{p:Prop}(h:p:=by rw [getD_eq l1 l k true (he1 k hkm)];exact hku):=h
def KT{p:Prop}(h:p:=by intro c hc;simp [f8] at hc;subst hc;decide):=h
def GF{p:Prop}(h:p:=by simp;intro he;subst he;exact hrow r hr hq):=h
def Cu{p:Prop}(h:p:=by exact λi h=>absurd h (by simp)):=h
def xb{p:Prop}(h:p:=by exact λk hk=>by omega):=h
def Ej{p:Prop}(h:p:=by unfold aH.bl;simp [hb]):=h
def wn{p:Prop}(h:p:=by exact λ_=>by simp):=h
def E4{p:Prop}(h:p:=by rw [ha53 rfl];decide):=h
def CM{p:Prop}(h:p:=by rw [ha14 rfl];decide):=h
def AF{p:Prop}(h:p:=by simpa using h.h):=h
def vx{p:Prop}(h:p:=by simp [hx]):=h
def F1{p:Prop}(h:p:=by exact λe=>hd.1 (by rw [e];exact List.mem_map_of_mem hx)):=h
def Fw{p:Prop}(h:p:=by show n2+bQ (l.drop (k+1)) <= 900000000;omega):=h
def MU{p:Prop}(h:p:=by unfold cD.wt;show 1+dD [] <= 7;rw [dD];omega):=h
def G2{p:Prop}(h:p:=by rw [rq,if_pos hj,Array.getElem?_eq_getElem]):=h
def I3{p:Prop}(h:p:=by rw [List.length_take,List.length_drop];omega):=h
def LA{p:Prop}(h:p:=by show n+1+bQ l[k].thn <= 900000000;omega):=h
def KE{p:Prop}(h:p:=by rw [xl,if_pos (by omega)];first|rfl|simp):=h
def Jg{p:Prop}(h:p:=by rw [xl,if_neg (by omega)];first|rfl|simp):=h
def Kh{p:Prop}(h:p:=by first|rfl|(show _=((n+1:Nat):Int);omega)):=h
def A'{p:Prop}(h:p:=by rw [hpa];exact hlen):=h
def zU{p:Prop}(h:p:=by simpa using aa):=h
def V{p:Prop}(h:p:=by decide):=h
def M'{p:Prop}(h:p:=by rw [List.length_map,List.length_take];omega):=h
def Km{p:Prop}(h:p:=by show n1+bQ l[k].els <= 900000000;omega):=h
def Gj{p:Prop}(h:p:=by rw [Md (by omega)];exact (back _).symm):=h
def A9{p:Prop}(h:p:=by rw [beq_iff_eq];omega):=h
def E6{p:Prop}(h:p:=by rw [List.map_map];rfl):=h
def BH{p:Prop}(h:p:=by rw [h.len];exact hi):=h
def yQ{p:Prop}(h:p:=by rw [h0];rfl):=h
def aK{p:Prop}(h:p:=by simp):=h
def Mo{p:Prop}(h:p:=by exact λk hk=>Nz D l[k] _ _ _ (hst (by omega) k hk)):=h
def Fg{p:Prop}(h:p:=by show (w.heap.push _)[w.heap.size]?=_;simp):=h
def IW{p:Prop}(h:p:=by rw [List.length_take,List.length_take,hl]):=h
def Kl{p:Prop}(h:p:=by show j+1 <= sg[ds.length].2.length;omega):=h
def Jl{p:Prop}(h:p:=by rw [hvk,sJ,hy2];unfold rm;rw [h14];rfl):=h
def Ge{p:Prop}(h:p:=by first|rfl|(show _=((n1:Nat):Int);omega)):=h
def F2{p:Prop}(h:p:=by simpa using List.all_eq_true.1 hzc u hu):=h
def Gu{p:Prop}(h:p:=by rw [if_pos ha2];exact .ok _ _ _ rfl):=h
def Gq{p:Prop}(h:p:=by rw [he];exact List.mem_cons_self ..):=h
def M8{p:Prop}(h:p:=by have:=oG r.index 0 (by omega);omega):=h
def JX{p:Prop}(h:p:=by have:=Tb m (x:=x) (by omega);omega):=h
def Dh{p:Prop}(h:p:=by exact λj v hj=>by simp at hj):=h
def EZ{p:Prop}(h:p:=by rw [ha4 rfl];decide):=h
def DN{p:Prop}(h:p:=by unfold dx;rw [hz1]):=h
def Bc{p:Prop}(h:p:=by first|decide|omega):=h
def Eg{p:Prop}(h:p:=by rw [hs1];exact hi):=h
def C'{p:Prop}(h:p:=by rw [HS.out];omega):=h
def Bo{p:Prop}(h:p:=by rw [HL.out];omega):=h
def EL{p:Prop}(h:p:=by simp at h2;omega):=h
def D9{p:Prop}(h:p:=by simp at h1;omega):=h
def DG{p:Prop}(h:p:=by show k≠1;omega):=h
def vu{p:Prop}(h:p:=by cases hx):=h
def Y{p:Prop}(h:p:=by omega):=h
def jp{p:Prop}(h:p:=by rfl):=h
def bW:=@Nat.le_refl
def bq:=@Bool.eq_false_or_eq_true
def cd:=@List.map_cons
def cz:=@Bool.and_eq_true
def dT:=@List.mem_cons_of_mem
def du:=@List.nodup_append
def dw:=@List.nil_append
def d2:=@Nat.zero_le
def d4:=@List.flatMap_append
def d3:=@List.all_eq_true
def eD:=@List.cons_append
def eC:=@List.append_nil
def ed:=@List.map_append
def e0:=@Nat.zero_add
def ez:=@Nat.le_of_ble_eq_true
def fD:=@List.flatMap_cons
def fW:=@List.length_map
def fj:=@List.mem_append_left
def fg:=@List.map_nil
def f7:=@List.mem_append_right
def gH:=@List.mem_map
def ga:=@List.take_succ_eq_append_getElem
def gb:=@Nat.le_trans
def gq:=@List.take_length
def h_:=@List.length_eq_zero_iff
def iK:=@List.drop_eq_getElem_cons
def iL:=@List.flatten_cons
def iQ:=@Nat.lt_or_ge
def iN:=@Prod.mk.injEq
def jB:=@Array.getD_eq_getD_getElem?
def jI:=@List.take_succ_cons
def jQ:=@List.getElem_of_mem
def jm:=@List.mem_cons_self
def jk:=@List.length_drop
def jg:=@Bool.eq_false_iff
def jz:=@List.getElem?_eq_getElem
def j8:=@List.length_take
def jv:=@List.mem_flatMap
def jw:=@List.mem_singleton
def kE:=@List.nodup_cons
def ka:=@List.drop_eq_nil_of_le
def kO:=@List.flatten_nil
def kz:=@Option.some.inj
def km:=@List.map_toArray
def k_:=@Nat.lt_of_lt_of_le
def lE:=@List.map_map
def lT:=@Bool.or_eq_true
def lK:=@Bool.false_eq_true
def lM:=@List.take_zero
def ly:=@Array.getElem?_toList
def lw:=@List.ext_getElem
def mA:=@List.mem_append
def mD:=@List.getElem?_map
def mM:=@List.getElem?_eq_some_iff
def mc:=@Array.getElem?_eq_getElem
def m0:=@List.getElem?_take
def mu:=@Array.toList_inj
def nK:=@List.getElem_map
def mr:=@List.mem_range
def nO:=@List.mem_cons
def nz:=@Nat.mul_one
def nt:=@Option.map_some
def nZ:=@Array.getElem?_setIfInBounds
def oi:=@List.getElem?_drop
def or:=@Array.getElem?_eq_none
def oP:=@List.mem_mapIdx
def pQ:=@Bool.and_false
def pU:=@Array.length_toList
def pc:=@List.getElem?_append_right
def pq:=@List.take_append_drop
def o':=@List.foldl_cons
def pj:=@List.getElem_append_left
def pC:=@List.getElem_append_right
def q8:=@List.takeWhile_cons_of_pos
def qY:=@List.cons.injEq
def qw:=@Nat.add_assoc
def qA:=@Nat.zero_mul
def sS:=@List.drop_zero
def rT:=@Nat.min_eq_left
def rQ:=@List.getElem?_append_left
def sY:=@Nat.add_zero
def rf:=@List.sum_cons
def r_:=@List.take_left'
def rp:=@Nat.one_le_two_pow
def uF:=@List.size_toArray
def uJ:=@List.exists_cons_of_ne_nil
def tr:=@Bool.not_eq_true'
def tS:=@List.Sublist.refl
def ud:=@Nat.eq_zero_or_pos
def tc:=@Option.getD_some
def tQ:=@Array.getElem?_eq_some_iff
def uV:=@List.takeWhile_sublist
def uv:=@List.eq_nil_of_length_eq_zero
def wT:=@List.getElem?_eq_none
def wm:=@Option.map_eq_some_iff
def xN:=@Nat.le_add_right
def vQ:=@Option.some.injEq
def vU:=@List.sublist_cons_self
def vW:=@Array.toList_map
def xP:=@Nat.sub_zero
def xR:=@Nat.pow_succ
def xH:=@Bool.true_and
def wE:=@List.length_cons
def wQ:=@List.flatten_append
def uz:=@List.all_cons
def wO:=@Nat.succ_mul
def wc:=@Nat.mul_add
def vT:=@Array.toArray_toList
def zB:=@List.ext_getElem?
def yh:=@Array.ext_getElem?
def yE:=@Array.getElem?_modify
def AN:=@Bool.false_and
def AP:=@List.filter_cons
def y_:=@List.foldl_append
def xu:=@List.drop_drop
def zD:=@List.drop_of_length_le
def Ao:=@List.drop_left'
def xe:=@Nat.lt_succ_of_lt
def AV:=@List.mem_filterMap
def AC:=@Array.getElem?_replicate
def zr:=@List.headD_cons
def As:=@List.flatMap_nil
def yI:=@Nat.add_mul
def zq:=@Array.getElem?_ofFn
def zn:=@List.Sublist.append
def zg:=@List.nil_sublist
def BZ:=@List.takeWhile_prefix
def Dy:=@List.prefix_iff_eq_take
def Ck:=@List.all_takeWhile
def DL:=@Array.getElem?_append_left
def FA:=@Bool.and_eq_false_iff
def B4:=@List.getElem?_toArray
def CY:=@List.filter_append
def EX:=@List.length_filter_le
def Cc:=@List.getD_eq_getElem?_getD
def CZ:=@Int.tmod_lt_of_pos
def EB:=@List.getElem_cons_zero
def Cf:=@List.length_append
def CW:=@Nat.add_sub_cancel_left
def Ea:=@Nat.lt_succ_self
def CS:=@List.getElem_set
def B8:=@List.toList_toArray
def BM:=@List.getElem?_mapIdx
def C3:=@List.length_mapIdx
def Dg:=@List.mem_filter
def KP:=@Array.getElem?_setIfInBounds_ne
def Lk:=@List.takeWhile_eq_take_findIdx_not
abbrev aG:=ByteArray
abbrev aV:=Go.World
abbrev aM:=Go.Value
abbrev bA:=Go.TypeId
abbrev bc:=Go.Operand
end Go.Proofs.YtjgeihmhppadaaaGreatDoor
