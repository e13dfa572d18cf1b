import Derived.Handy
set_option linter.all false
namespace Go.Proofs.YtjgeihmhppadaaaGreatDoor
universe u
def J{α:Sort u}{a:α}:a=a:=Eq.refl a
variable {p:Prop}
def Pg(h:p:=by rw [show fk x=false by unfold fk;first|exact decide_eq_true (by omega)|exact decide_eq_false (by omega),show fq x=false by unfold fq;first|exact decide_eq_true (by omega)|exact decide_eq_false (by omega),show gA x=true by unfold gA;first|exact decide_eq_true (by omega)|exact decide_eq_false (by omega),show gT x=false by unfold gT;first|exact decide_eq_true (by omega)|exact decide_eq_false (by omega),show fp x=false by unfold fp;first|exact decide_eq_true (by omega)|exact decide_eq_false (by omega),show jR x=false by unfold jR;first|exact decide_eq_true (by omega)|exact decide_eq_false (by omega),show gO x=false by unfold gO;first|exact decide_eq_true (by omega)|exact decide_eq_false (by omega)];rfl):=h
def NK(h:p:=by rw [show fk x=true by unfold fk;first|exact decide_eq_true (by omega)|exact decide_eq_false (by omega),show fq x=true by unfold fq;first|exact decide_eq_true (by omega)|exact decide_eq_false (by omega),show gA x=false by unfold gA;first|exact decide_eq_true (by omega)|exact decide_eq_false (by omega),show gT x=false by unfold gT;first|exact decide_eq_true (by omega)|exact decide_eq_false (by omega),show fp x=false by unfold fp;first|exact decide_eq_true (by omega)|exact decide_eq_false (by omega),show jR x=false by unfold jR;first|exact decide_eq_true (by omega)|exact decide_eq_false (by omega),show gO x=false by unfold gO;first|exact decide_eq_true (by omega)|exact decide_eq_false (by omega)];rfl):=h
def Ot(h:p:=by rw [show fk x=true by unfold fk;first|exact decide_eq_true (by omega)|exact decide_eq_false (by omega),show fq x=false by unfold fq;first|exact decide_eq_true (by omega)|exact decide_eq_false (by omega),show gA x=false by unfold gA;first|exact decide_eq_true (by omega)|exact decide_eq_false (by omega),show gT x=true by unfold gT;first|exact decide_eq_true (by omega)|exact decide_eq_false (by omega),show fp x=false by unfold fp;first|exact decide_eq_true (by omega)|exact decide_eq_false (by omega),show jR x=false by unfold jR;first|exact decide_eq_true (by omega)|exact decide_eq_false (by omega),show gO x=false by unfold gO;first|exact decide_eq_true (by omega)|exact decide_eq_false (by omega)];rfl):=h
def LK(h:p:=by exact λh=>⟨gh.2 ⟨by simp [aJ.bl],λhh=>by simp only [mem_cons,not_mem_nil,or_false] at hh;rcases hh with rfl|rfl<;>simp [aJ.bl] at h⟩,λb hb=>cx (r:=(⟨vc,92,12,y.code.length,y.code.flatMap encI⟩:aP)) h hb,λb hb=>cx (r:=(⟨vs,3,1,y.sites.length,y.sites.map λx=>.val (.int .i64 x)⟩:aP)) h hb⟩):=h
def LR(h:p:=by exact λh9=>by unfold aJ.bl at hn h9;simp only [List.flatMap_cons,mem_append] at hn h9;rcases h9 with h9|h9;exact (List.nodup_append.1 hn).2.2 b h9 b (List.mem_append_left _ hb) rfl;exact (List.nodup_append.1 (List.nodup_append.1 hn).2.1).2.2 b hb b h9 rfl):=h
def Pd(h:p:=by exact λh=>by unfold ny;rw [if_neg (by rw [ha1 h];decide),if_neg (by rw [JT h];decide),if_neg (by rw [MT h];decide),if_neg (by rw [Rg h];decide),if_neg (by rw [aH6 h];decide),if_neg (by rw [aI7 h];decide),if_neg (by rw [SM h];decide)]):=h
def Bn(h:p:=by dsimp only;rw [he1,he2];exact bD (h1:=(.cons _ (.refl _))) (h:=ay rfl (cD (by omega)) (ax rfl)) (by intro x hx;simp only [mem_append,mem_cons,not_mem_nil,or_false] at hx⊢;grind)):=h
def P7(h:p:=by intro h b hb;simp at hb;subst hb;exact gh.2 ⟨by simp [aJ.bl],λhh=>by simp only [mem_cons,not_mem_nil,or_false] at hh;rcases hh with rfl|rfl|rfl|rfl|rfl<;>simp [aJ.bl] at h⟩):=h
def L_(h:p:=by have h1:=vN p l[k].thn (y.branch l[k].expr);have h2:(y.branch l[k].expr).code.length=y.code.length+1:=mE _ _;show _ <= (cR p l[k].thn (y.branch l[k].expr)).code.length;omega):=h
def PO(h:p:=by intro h b hb;simp at hb;subst hb;exact gh.2 ⟨by simp [aJ.bl],λhh=>by simp only [mem_cons,not_mem_nil,or_false] at hh;rcases hh with rfl|rfl|rfl|rfl<;>simp [aJ.bl] at h⟩):=h
def Mt(h:p:=by exact λ_=>by unfold ny;rw [if_neg (by rw [ha1 rfl];decide),if_neg (by rw [JT rfl];decide),if_neg (by rw [MT rfl];decide),if_neg (by rw [Rg rfl];decide),if_pos aH6]):=h
def Kf(h:p:=by exact λh9=>hTv b (Hx (bx:=A++⟨W,181,[.val (.pointer a),.val v,ap m]⟩::B) (bx':=A++⟨W,181,[.val (.pointer a'),.val v',aA ((m':Nat):Int)]⟩::B) (by simp) hm.nodup hb2 h9)):=h
def LS(h:p:=by intro h b hb;simp at hb;subst hb;exact gh.2 ⟨by simp [aJ.bl],λhh=>by simp only [mem_cons,not_mem_nil,or_false] at hh;rcases hh with rfl<;>simp [aJ.bl] at h⟩):=h
def Mq(h:p:=by unfold kz;rw [decide_eq_true (show e.op=0 /\ e.num=0 by omega),decide_eq_true (show e.name=a_ by assumption),decide_eq_true (show e.args.length=0 by omega)];rfl):=h
def AV(h:p:=by exact λhn=>cx (r:=(⟨(.slice (some ⟨gF,0,none⟩) p.funcs.length cF),67,3,p.funcs.length,p.funcs.flatMap aZ⟩:aP)) hn (by simp [aR,Value.ownBlock])):=h
def Ew(h:p:=by exact λ_ b hb=>by first|(simp [hb];done)|(simp only [aR,Value.ownBlock,Option.toList,mem_cons,not_mem_nil,or_false] at hb;simp [hb];done)):=h
def fM(h:p:=by exact λb hb=>by first|(simp [hb];done)|(simp only [aR,Value.ownBlock,Option.toList,mem_cons,not_mem_nil,or_false] at hb;simp [hb];done)):=h
def Au(h:p:=by rw [rL];rw [take_of_length_le (by omega)] at hvk;rw [hvk];unfold lh arity;(repeat' split)<;>first|omega|(simp_all;done)|(simp_all;omega)):=h
def yz(h:p:=by exact λi hi hlt2=>(Nat.lt_or_ge i k).elim (λh9=>hvk i hi h9) (λh9=>by have h8:i=k:=(by omega);subst h8;exact h3)):=h
def Da(h:p:=by rw [pK,if_neg (by omega),if_neg (by omega)];unfold ii;rw [if_neg (by omega),if_neg (by omega),if_pos (by omega)]<;>rfl):=h
def zm(h:p:=by (repeat rw [Sp (Nat.ne_of_lt hblt)]);rw [hcc _ _ (by simp;omega),World.cell?_alloc_lt wr _ ⟨b,o,none⟩ hblt]):=h
def DR(h:p:=by intro b hb;simp only [mem_append,mem_cons,not_mem_nil,or_false,aR,Value.ownBlock,Option.toList] at hb⊢;grind):=h
def Cd(h:p:=by unfold iv;rw [decide_eq_false (show ¬(0 <= p.mutexes[i].size /\ p.mutexes[i].size <= 64) by omega)];simp):=h
def Gb(h:p:=by rw [show ed .eql ((l[k].kind:Nat):Int) 4=some (decide (l[k].kind=4)) from ry (n:=4),decide_eq_false h4]):=h
def D5(h:p:=by exact λhg=>by rw [jL] at hg⊢;obtain ⟨g1,g2,g3,g4,g5,g6⟩:=hg;exact ⟨g1,g2,⟨g3.1,g3.2⟩,g4,g5,g6⟩):=h
def rk(h:p:=by have h9:=NY hok.last (x:=x0) hk0;rw [(hel.good h).2.1] at h9;exact ⟨h9.1,(hel.good h).2.2⟩):=h
def wb(h:p:=by show List.length us+m <= 1000;(try simp only [length_append,length_cons,length_nil]);omega):=h
def Gz(h:p:=by unfold aY.wt;dsimp only;rw [length_append];simp only [length_cons,length_nil];omega):=h
def jc(h:p:=by (try simp only [length_append,length_cons,length_nil,List.length_replicate]);omega):=h
def ET(h:p:=by unfold maxLen;first|omega|(simp only [length_append,length_cons,length_nil];omega)):=h
def Aj(h:p:=by exact λh=>by have:=congrArg List.length h;simp only [length_nil] at this;omega):=h
def Bv(h:p:=by exact λk hk=>Ve _ (hsa _ (getElem_mem _)) (by have:=uC x.args k hk;omega) _):=h
def jU(h:p:=by intro b hb;simp only [mem_append,mem_cons,not_mem_nil,or_false] at hb⊢;grind):=h
def BS(h:p:=by unfold maxLen;(try simp only [length_append,length_cons,length_nil]);omega):=h
def r_(h:p:=by have h1:=S6 e.op;simp only [length_append,length_cons,length_nil];omega):=h
def wn(h:p:=by exact λhn b hb=>by simp at hb;rcases hb with rfl|rfl<;>exact t_ hn):=h
def tq(h:p:=by first|exact Nat.le_refl _|(rw [List.length_set];exact Nat.le_refl _)):=h
def oW(h:p:=by intro x hx;simp only [mem_cons,not_mem_nil,or_false] at hx⊢;grind):=h
def nV(h:p:=by intro b hb;simp at hb;rcases hb with rfl|rfl<;>simp [aJ.bl,sB]):=h
def DT(h:p:=by have:=Tz hq;rw [List.length_take,List.length_drop] at this;omega):=h
def oI(h:p:=by simp only [aE.expr,aE.ref,aE.args,cL.wt,aS.nodes,d2,nW];omega):=h
def tf(h:p:=by intro b hb;simp at hb;rcases hb with rfl|rfl<;>simp [aJ.bl]):=h
def wW(h:p:=by intro h b hb;simp at hb;subst hb;exact JO (by simp [aJ.bl])):=h
def zp(h:p:=by exact λu hu=>by obtain ⟨c,_,rfl⟩:=List.mem_map.1 hu;rfl):=h
def aFM(h:p:=by exact λh9=>by have h8:i=k:=(by omega);subst h8;exact h3):=h
def ij(h:p:=by exact λhn b hb=>by simp at hb;subst hb<;>exact t_ hn):=h
def mO(h:p:=by intro _ b hb;simp at hb⊢;rcases hb with rfl|rfl<;>simp):=h
def uE(h:p:=by exact λb hb=>by simpa [aR,Value.ownBlock] using hb):=h
def jT(h:p:=by intro b hb;simp at hb⊢;rcases hb with rfl|rfl<;>simp):=h
def CG(h:p:=by rw [if_pos (by decide)];exact he.valid hv (by omega)):=h
def qe(h:p:=by exact λb hb=>by simp [aR,Value.ownBlock] at hb):=h
def yK(h:p:=by simp only [execOp,ho,hs.val hx,hs.val hy]<;>rfl):=h
def jp(h:p:=by intro _ b hb;simp at hb;subst hb;simp [aJ.bl]):=h
def eR(h:p:=by first|exact P2 (by omega)|(simp [ed]<;>omega)):=h
def fN(h:p:=by first|exact Lk (by omega)|(simp [ed]<;>omega)):=h
def kG(h:p:=by exact λ_=>⟨by simp,λb hb=>by simp [hb]⟩):=h
def ue(h:p:=by intro x hx;simpa [aR,Value.ownBlock] using hx):=h
def db(h:p:=by intro b hb;simp at hb;subst hb;simp [aJ.bl]):=h
def wY(h:p:=by have h1:=qH l k hk;have h2:=gM l[k];omega):=h
def tI(h:p:=by first|omega|(rw [List.length_set];omega)):=h
def tS(h:p:=by simp [aR,Value.ownBlock] at hb;simp [hb]):=h
def vE(h:p:=by exact λ_=>by simp [aR,Value.ownBlock]):=h
def na(h:p:=by simp [results,Tryz.results211,go_sem]):=h
def nF(h:p:=by exact λ_ _ h=>absurd h (by omega)):=h
def nC(h:p:=by exact λ_ h=>(gh.1 h).2 (by simp)):=h
def qy(h:p:=by rw [lj,if_neg hk5];exact hel.bind h):=h
def iY(h:p:=by exact λ_=>⟨by simp,cE.h,cE.h⟩):=h
def wa(h:p:=by exact λx=>by unfold bB.wt;omega):=h
def sT(h:p:=by simp only [List.length_map];omega):=h
def rq(h:p:=by cases e;rw [aS.nodes] at h;omega):=h
def uf(h:p:=by intro h;rw [h] at h4;simp at h4):=h
def xa(h:p:=by have:=hQ.thn;have:=hQ.els;omega):=h
def fu(h:p:=by exact λ_ b hb=>by simp [hb]):=h
def rV(h:p:=by exact λhn=>V3 (by simp) hn):=h
def rM(h:p:=by show y.code.length <= _;omega):=h
def tY(h:p:=by show x.code.length <= _;omega):=h
def cm(h:p:=by exact λb hb=>by simp [hb]):=h
def uu(h:p:=by have:=h4;simp at this;omega):=h
def vD(h:p:=by rw [←Cb];simpa using hown2):=h
def vV(h:p:=by unfold aJ.bl;rw [hb];simp):=h
def jM(h:p:=by exact λ_ h=>by cases h):=h
def sW(h:p:=by unfold maxLen;skip;omega):=h
def sw(h:p:=by rw [xD (by omega)];omega):=h
def sE(h:p:=by rw [hbl] at hx;exact hx):=h
def qb(h:p:=by simp [Value.oneCell']):=h
def q6(h:p:=by have:=F4 e k hk;omega):=h
def cN(h:p:=by unfold maxLen;omega):=h
def h_(h:p:=by first|omega|grind):=h
def pI(h:p:=by have:=o5 l;omega):=h
def pQ(h:p:=by dsimp only;omega):=h
def pW(h:p:=by simpa using hi):=h
def pf(h:p:=by simpa using h2):=h
def oD(h:p:=by rw [h];decide):=h
def aQ(h:p:=by kernel_rfl):=h
def eS(h:p:=by go_grown):=h
def MK(h:p:=by rw [pK,if_neg (by omega),if_neg (by omega)];unfold ii;rw [if_neg (by omega),if_neg (by omega),if_neg (by omega),if_neg (by omega),if_pos (by omega)]<;>rfl):=h
def OS(h:p:=by rw [pK,if_neg (by omega),if_neg (by omega)];unfold ii;rw [if_neg (by omega),if_neg (by omega),if_neg (by omega),if_neg (by omega),if_neg (by omega)]<;>rfl):=h
def Kg(h:p:=by have h1:=tn p l[k].thn (y.branch l[k].expr);have h2:=hbr.2;show (cR p l[k].thn (y.branch l[k].expr)).code.length+2+3*au l[k].els <= _;omega):=h
def ND(h:p:=by rw [pK,if_neg (by omega),if_neg (by omega)];unfold ii;rw [if_neg (by omega),if_neg (by omega),if_neg (by omega),if_pos (by omega)]<;>rfl):=h
def Nv(h:p:=by simp only [Instr.lookup,Sem.run_bind,run_underlying ht,Result.andThen_ok,MapKept.run_getObj_map hb2,si hk,sU hk g2,Sem.run_pure];rfl):=h
def PT(h:p:=by rw [show ed .eql ((x0.mutexes.length:Nat):Int) 12=some (decide (x0.mutexes.length=12)) from ry (n:=12),decide_eq_false BY]):=h
def Ko(h:p:=by exact λhg=>by rw [jL] at hg⊢;obtain ⟨g1,g2,g3,g4,g5,g6⟩:=hg;exact ⟨g1,g2,⟨g3.1,g3.2⟩,(GE g4 (Pa aHx)),g5,g6⟩):=h
def QH(h:p:=by rw [C4,if_pos hpa,hbg,hy1];show (if aj=0 then _ else _)=_;rw [if_pos (by omega)];rw [hy2];rw [show e2=0 by omega]):=h
def LI(h:p:=by unfold lu;rw [decide_eq_true (show r.name=a_ by assumption),decide_eq_true (show r.index.length=0 by omega)];rfl):=h
def Mk(h:p:=by rw [hk.block _ (h.lt _ (List.mem_append_left _ (List.mem_map.2 ⟨x,hx,rfl⟩))) (by simp;exact aM0 x hx)];exact aj):=h
def OP(h:p:=by exact λk hk=>WH _ (hs.funcs _ (getElem_mem hk)) (by unfold aY.wt at hw;have:=qU bB.wt p.funcs k hk;omega) _):=h
def MS(h:p:=by unfold maxLen;show _+(_:List UInt8).length <= _;(try simp only [length_append,length_cons,length_nil]);omega):=h
def LZ(h:p:=by rw [yA,if_neg (by omega)];show _=AT.agg [_,_,_,.sl (e.args.map (ck l)).length _];rw [List.length_map];rfl):=h
def NX(h:p:=by exact λhg=>by rw [jL] at hg⊢;obtain ⟨g1,g2,g3,g4,g5,g6⟩:=hg;exact ⟨(by decide),g2,⟨aIx,g3.2⟩,g4,g5,g6⟩):=h
def MR(h:p:=by rw [pK,if_neg (by omega),if_neg (by omega)];unfold ii;rw [if_neg (by omega),if_pos (by omega)]<;>rfl):=h
def Ki(h:p:=by rw [hk.block _ (hs.mem.lt _ (List.mem_append_left _ (List.mem_map.2 ⟨x,hx,rfl⟩))) (by simp)];exact aj):=h
def NJ(h:p:=by rw [aE.bt];exact ⟨(by decide),hse,⟨(by have:=aIw;show CT.size <= _;omega),AI.2⟩,hsa,hst,DQ⟩):=h
def N6(h:p:=by show ((y.dg (eB p y.aq l[k])).put (gJ p y.aq l[k]) y.n)=_;rw [←p6 p l k hkl x,←hvk,hst]):=h
def L9(h:p:=by show List.length us+l4 <= 1000;(try simp only [length_append,length_cons,length_nil]);omega):=h
def K4(h:p:=by simp only [mem_cons,not_mem_nil,or_false] at hh;rcases hh with rfl|rfl<;>simp [aJ.bl] at h):=h
def PP(h:p:=by rw [hb];simp only [mem_append,mem_cons];rcases hr with h|h;exact .inl h;exact .inr (.inr h)):=h
def L6(h:p:=by subst h3;exact ⟨_,_,s,h2,⟨rfl,rfl⟩,.c _ _ (.val _ h1),hm,cQ.refl _ _,λb hb=>.inl hb⟩):=h
def lB(h:p:=by intro x hx;simp only [mem_append,mem_cons,not_mem_nil,or_false] at hx⊢;grind):=h
def BM(h:p:=by dsimp only;rw [length_append];simp only [length_cons,length_nil];omega):=h
def Hg(h:p:=by first|omega|(simp only [length_append,length_cons,length_nil];omega)):=h
def Eo(h:p:=by have:=qU bB.wt p.funcs k (by omega);unfold aY.wt at hw;omega):=h
def H9(h:p:=by intro x hx;simp at hx⊢;rcases hx with h|h|h|h|h|h<;>simp [h]):=h
def ED(h:p:=by rw [hbl] at hx;exact Nat.lt_of_lt_of_le (h.lt x hx) hk.size):=h
def Fx(h:p:=by rw [aE.bt];exact ⟨hsn,hse,⟨AI.1,AI.2⟩,hsa,hst,DQ⟩):=h
def C'(h:p:=by show f.params.length-(k+1)<f.params.length-k;omega):=h
def IP(h:p:=by rw [if_neg (by decide)];exact decide_eq_true rfl):=h
def Fj(h:p:=by show (bd p).length-(k+1)<(bd p).length-k;omega):=h
def H_(h:p:=by simp only [List.length_set];exact λ_ _ h=>h):=h
def AU(h:p:=by intro a;unfold wid;rw [if_neg hm];exact hev a):=h
def AJ(h:p:=by unfold maxLen;first|omega|(have:=hsz;omega)):=h
def Ah(h:p:=by exact λ_=>⟨by simp,by simp,cE.h,cE.h⟩):=h
def CY(h:p:=by show l.length-(k+1)<l.length-k;omega):=h
def dd(h:p:=by intro b hb;simp at hb;subst hb;simp):=h
def v_(h:p:=by exact λi hi=>hvk i hi (by omega)):=h
def wL(h:p:=by exact λf=>by unfold bB.wt;omega):=h
def zj(h:p:=by rw [if_neg (by decide)];exact Fg):=h
def zW(h:p:=by rcases hops with h|h|h|h<;>omega):=h
def Af(h:p:=by unfold Addr.add;split<;>simp_all):=h
def B9(h:p:=by simp only [ed,decide_eq_false h]):=h
def BL(h:p:=by rw [D2 hck (by decide),hck];rfl):=h
def xX(h:p:=by have:=hak k (by omega);omega):=h
def xi(h:p:=by simp [bytes,ByteArray.size]):=h
def vz(h:p:=by exact λa ha=>by cases ha):=h
def yd(h:p:=by simp;exact hU hs.mem.nodup):=h
def yF(h:p:=by rw [dD encI 12 mc];omega):=h
def iB(h:p:=by simp [aR,Value.ownBlock]):=h
def zn(h:p:=by unfold gJ;rw [hz2];rfl):=h
def wT(h:p:=by rw [HL.out];exact hlt):=h
def ze(h:p:=by show (4:Int)≠3;decide):=h
def AC(h:p:=by rw [ST rfl];decide):=h
def tj(h:p:=by rw [ha7 rfl];decide):=h
def sa(h:p:=by unfold fit;decide):=h
def uc(h:p:=by show m <= L;omega):=h
def xg(h:p:=by rw [HZ.out];omega):=h
def wB(h:p:=by simp [ed];omega):=h
def qm(h:p:=by simpa using hk):=h
def so(h:p:=by simp;exact hbm):=h
def tF(h:p:=by rw [hrow];simp):=h
def sn(h:p:=by simpa using h1):=h
def tr(h:p:=by simpa using hl):=h
def vH(h:p:=by simpa using he):=h
def rB(h:p:=by simp [ed,h]):=h
def dh(h:p:=by simp;omega):=h
def pE(h:p:=by rw [h];rfl):=h
def sI(h:p:=by skip;omega):=h
def kw(h:p:=by go_num):=h
def Ks(h:p:=by exact λhn=>gh.2 ⟨by simp [aJ.bl],by intro hb;simp [aJ.bl,tu,List.nodup_cons] at hn hb;grind⟩):=h
def Le(h:p:=by show _+(_:List UInt8).length <= _;(try simp only [length_append,length_cons,length_nil]);omega):=h
def Jl(h:p:=by rw [C4,if_pos hpa,hbg,hy1];show (if aj=0 then _ else _)=_;rw [if_pos (by omega)];exact hy2):=h
def Oc(h:p:=by intro hd;have:=congrArg List.length hd;rw [List.length_drop] at this;simp at this;omega):=h
def Ja(h:p:=by have h:=HI.out;rw [List.drop_drop,List.drop_eq_nil_of_le (by omega)] at h;simpa using h):=h
def NB(h:p:=by simp only [kz,Bool.and_eq_true,decide_eq_true_eq] at hh;first|omega|exact h4 hh.1.2):=h
def Oo(h:p:=by simp only [kz,Bool.and_eq_true,decide_eq_true_eq] at hh;first|omega|exact h3 hh.1.2):=h
def JY(h:p:=by simp only [kz,Bool.and_eq_true,decide_eq_true_eq] at hh;first|omega|exact h2 hh.1.2):=h
def Pe(h:p:=by simp only [kz,Bool.and_eq_true,decide_eq_true_eq] at hh;first|omega|exact h1 hh.1.2):=h
def Mh(h:p:=by rw [pK,if_neg (by omega),if_neg (by omega)];unfold ii;rw [if_pos (by omega)]<;>rfl):=h
def O0(h:p:=by simp only [lu,Bool.and_eq_true,decide_eq_true_eq] at hh;first|omega|exact h2 hh.1):=h
def KF(h:p:=by simp only [lu,Bool.and_eq_true,decide_eq_true_eq] at hh;first|omega|exact h1 hh.1):=h
def M5(h:p:=by unfold kA;first|exact decide_eq_true (by omega)|exact decide_eq_false (by omega)):=h
def O6(h:p:=by intro x hx;simp [aR,Value.ownBlock] at hx⊢;rcases hx with h|h|h|h|h<;>simp [h]):=h
def JA(h:p:=by intro x hx;simp [aR,Value.ownBlock] at hx⊢;rcases hx with h|h|h|h<;>simp [h]):=h
def JR(h:p:=by rcases List.mem_cons.1 hb with rfl|hb;exact .inr (by omega);exact .inl hb):=h
def N0(h:p:=by rw [aE.bt];exact ⟨hsn,hse,⟨AI.1,AI.2⟩,(Hw hsa (J1 aHw)),hst,DQ⟩):=h
def J4(h:p:=by unfold bB.wt nh;simp only [length_append,length_cons,length_nil];omega):=h
def Jw(h:p:=by rw [World.cell?_alloc_lt wr _ ⟨b,off+j,none⟩ hblt];exact HB.out j u hu):=h
def Ms(h:p:=by have h9:=hall k (by omega);unfold vU at h9;rw [h3] at h9;exact h9):=h
def EM(h:p:=by exact λb hb=>hk.block b (hs.mem.lt b hb) (by simp)):=h
def Ij(h:p:=by exact λb hb'=>hk.block b (hm.lt b hb') (by simp)):=h
def Hd(h:p:=by exact λx hx=>by simp at hx;subst hx;exact hmem):=h
def IL(h:p:=by have:=hbel.size;have:=hb.size;simp;omega):=h
def Ev(h:p:=by simpa [dS] using congrArg List.length h0):=h
def Hr(h:p:=by unfold aJ.bl;simp [aR,Value.ownBlock]):=h
def HQ(h:p:=by rw [←Array.getElem?_toList];exact hi):=h
def Bl(h:p:=by exact λx hx=>absurd hx (by simp)):=h
def C6(h:p:=by rw [UInt8.toNat_ofNat'];omega):=h
def Am(h:p:=by rw [List.length_take];omega):=h
def Dm(h:p:=by have:=hbel.size;simp;omega):=h
def DK(h:p:=by unfold cL.wt at hwp;omega):=h
def B0(h:p:=by unfold aJ.bl;simp [hb2]):=h
def Ar(h:p:=by exact bD (λb hb=>hb)):=h
def Cf(h:p:=by unfold aJ.bl;simp [hb]):=h
def BX(h:p:=by unfold bz;rw [h1];rfl):=h
def Br(h:p:=by show (0:Nat)<16;decide):=h
def x_(h:p:=by rw [JT rfl];decide):=h
def zi(h:p:=by rw [ha1 rfl];decide):=h
def AB(h:p:=by show k+1 <= _;omega):=h
def y4(h:p:=by unfold fit;omega):=h
def xh(h:p:=by simpa using hb):=h
def wg(h:p:=by simpa using h3):=h
def uX(h:p:=by rw [hb];simp):=h
def uU(h:p:=by simp [bytes]):=h
def mB(h:p:=by assumption):=h
def u'(h:p:=by simp [hgf]):=h
def jz(h:p:=by simp [ed]):=h
def OB(h:p:=by exact λhh=>hh.2.elim (ha16 rfl) (λh=>absurd h (by rw [ha6 rfl];decide))):=h
def KW(h:p:=by exact λ_=>by unfold e_ mA;rw [if_neg (ha1 rfl),if_pos DH,if_pos DH];rfl):=h
def O_(h:p:=by unfold qQ;first|(rw [if_pos (by omega)])|(rw [if_neg (by omega)])):=h
def I0(h:p:=by rw [my funcText _ f (by omega),←I7 hm];simp only [append_assoc]):=h
def Kd(h:p:=by subst he;rw [List.map_cons,List.nodup_cons] at hn;exact hn.1 h.h):=h
def J2(h:p:=by show sg[ds.length].2.length-(j+1)<sg[ds.length].2.length-j;omega):=h
def OR(h:p:=by rw [my cf _ i (by omega),Kc hm n6 (M' hmok n6),append_assoc]):=h
def O9(h:p:=by obtain ⟨q1,q0,q2,q3⟩:=(zM IS).2 hh;first|omega|exact h4 q3):=h
def P_(h:p:=by obtain ⟨q1,q0,q2,q3⟩:=(zM IS).2 hh;first|omega|exact h3 q3):=h
def Kw(h:p:=by obtain ⟨q1,q0,q2,q3⟩:=(zM IS).2 hh;first|omega|exact h2 q3):=h
def d6(h:p:=by (try simp only [length_append,length_cons,length_nil]);omega):=h
def Nl(h:p:=by rw [my cf _ i (by omega),JQ hm n6 (by omega),append_assoc]):=h
def NL(h:p:=by rw [my cf _ i (by omega),OQ hm n6 (by omega),append_assoc]):=h
def PF(h:p:=by rw [List.flatMap_cons,List.flatMap_nil,List.append_nil,l8]):=h
def Mr(h:p:=by first|(rw [zq];(try simp only [length_append]);omega)|omega):=h
def Kz(h:p:=by rw [List.drop_eq_nil_of_le (by omega)] at hvk;rw [←hvk];rfl):=h
def Lg(h:p:=by have:=hQ.thn;have:=hQ.els;have:=hE1.lo;have:=hE1.hi;omega):=h
def OA(h:p:=by unfold aY.wt at hw;have hfn:=oE bB.wt wa p.funcs;omega):=h
def Em(h:p:=by exact λ_ b hb=>JO (by simp [aJ.bl,hb])):=h
def IE(h:p:=by unfold dN;(repeat' split)<;>omega):=h
def Hu(h:p:=by show (1+z2)-(k+1)<(1+z2)-k;omega):=h
def F2(h:p:=by rw [h.1,decide_eq_false he];rfl):=h
def D6(h:p:=by simp [aR,Value.ownBlock] at hb):=h
def GM(h:p:=by rw [beq_eq_false_iff_ne];omega):=h
def Gn(h:p:=by rw [if_neg (by decide)];rfl):=h
def F3(h:p:=by rw [List.length_drop];omega):=h
def CR(h:p:=by have:=hth.code;omega):=h
def C1(h:p:=by unfold rP;rw [ro]):=h
def Bu(h:p:=by show 0+_ <= _;omega):=h
def yU(h:p:=by rw [mE];omega):=h
def i_(h:p:=by simpa using h):=h
def wE(h:p:=by simp [aJ.bl]):=h
def AE(h:p:=by simp;exact hT):=h
def xR(h:p:=by rw [h1];rfl):=h
def rh(h:p:=by simp at h):=h
def sf(h:p:=by simp [h]):=h
def iH(h:p:=by cases h):=h
def fD(h:p:=by grind):=h
def Jn(h:p:=by rw [my cS _ k (by omega),MO hm (by omega),append_assoc]):=h
def QB(h:p:=by rw [my cS _ k (by omega),Pq hm (by omega),append_assoc]):=h
def Mg(h:p:=by rw [Nat.zero_add];exact Om cd 7 (λ_=>rfl) ar Bx tI):=h
def QF(h:p:=by have:=qU bB.wt p.funcs kk hkk;unfold aY.wt at hw;omega):=h
def OC(h:p:=by show (cR p t (x.branch e)).code.length+1+_ <= _;omega):=h
def KJ(h:p:=by have h1:=uC y.args k h;unfold cI.wt cL.wt at h1;omega):=h
def Oe(h:p:=by have:=aH7 rfl;show (acc++[_]).length <= 6;simp;omega):=h
def Ne(h:p:=by have h9:w.heap.size<w.heap.size:=hs.mem.lt _ hm;omega):=h
def NE(h:p:=by show p.mutexes.length-(k+1)<p.mutexes.length-k;omega):=h
def KR(h:p:=by rw [pK,if_pos (by omega),if_pos (by omega)]<;>rfl):=h
def I8(h:p:=by unfold fo;rcases hh with hh|hh<;>rw [hh]<;>rfl):=h
def FA(h:p:=by unfold aJ.bl;rw [hrow];simp):=h
def Ia(h:p:=by first|omega|(rw [mE];omega)):=h
def Fe(h:p:=by show jD [];rw [jD];trivial):=h
def GY(h:p:=by rw [xD (by omega)];exact h):=h
def D_(h:p:=by subst h1;subst h2;exact h):=h
def FT(h:p:=by rw [h8.h];exact h.out k):=h
def Gy(h:p:=by show ¬(2:Int)=3;decide):=h
def GN(h:p:=by show ¬(1:Int)=3;decide):=h
def Gu(h:p:=by show (5:Int)≠3;decide):=h
def GW(h:p:=by show (4:Int)≠2;decide):=h
def Dr(h:p:=by rw [h.1,hs,he];rfl):=h
def C9(h:p:=by rw [ha2 h];decide):=h
def Eq(h:p:=by rw [TR];omega):=h
def xk(h:p:=by simp [dL]):=h
def PE(h:p:=by rw [pK,if_pos (by omega),if_neg (by omega)]<;>rfl):=h
def LA(h:p:=by rw [pK,if_neg (by omega),if_pos (by omega)]<;>rfl):=h
def MA(h:p:=by have h9:=hci;rw [xW hmx,length_append] at h9;omega):=h
def Pj(h:p:=by show p.funcs.length-(k+1)<p.funcs.length-k;omega):=h
def JD(h:p:=by show (eQ lv).length-(i+1)<(eQ lv).length-i;omega):=h
def P9(h:p:=by rw [←getD_eq l1 l i true (he1 i him)];exact hiu):=h
def O1(h:p:=by unfold aJ.bl;rw [hb];simp [aR,Value.ownBlock]):=h
def MM(h:p:=by rw [getD_eq l1 l k true (he1 k hkm)];exact hku):=h
def E_(h:p:=by exact λy hy=>h y (by simp [hy])):=h
def FU(h:p:=by show k+1 <= (1+z2);omega):=h
def Gg(h:p:=by rw [HS.out];exact hlt):=h
def yn(h:p:=by exact λ_=>by simp):=h
def En(h:p:=by rw [Nd rfl];decide):=h
def EF(h:p:=by rw [MT rfl];decide):=h
def Bh(h:p:=by simpa using h.h):=h
def zu(h:p:=by simp [hx]):=h
def La(h:p:=by exact λe a' w' q=>by cases e<;>first|exact q|exact q.elim):=h
def K6(h:p:=by show n2+au (l.drop (k+1)) <= 900000000;omega):=h
def N_(h:p:=by unfold cL.wt;show 1+d2 [] <= 7;rw [d2];omega):=h
def Ly(h:p:=by simp;intro he;subst he;exact hrow r hr hq):=h
def Np(h:p:=by show n+1+au l[k].thn <= 900000000;omega):=h
def Jp(h:p:=by rw [AM,if_pos (by omega)];first|rfl|simp):=h
def PQ(h:p:=by rw [AM,if_neg (by omega)];first|rfl|simp):=h
def GD(h:p:=by exact λi h=>absurd h (by simp)):=h
def DW(h:p:=by exact λk hk=>by omega):=h
def Fu(h:p:=by rw [hpa];exact hlen):=h
def Dn(h:p:=by simpa using aj):=h
def V(h:p:=by decide):=h
def KZ(h:p:=by rw [uS,if_pos hj,Array.getElem?_eq_getElem]):=h
def PR(h:p:=by rw [List.length_take,List.length_drop];omega):=h
def Kr(h:p:=by first|rfl|(show _=((n+1:Nat):Int);omega)):=h
def Ni(h:p:=by show x.n<(cR p t (x.branch e)).n;omega):=h
def Mz(h:p:=by show n1+au l[k].els <= 900000000;omega):=h
def EY(h:p:=by rw [beq_iff_eq];omega):=h
def GA(h:p:=by rw [h.len];exact hi):=h
def Bz(h:p:=by rw [h0];rfl):=h
def aL(h:p:=by simp):=h
def Pw(h:p:=by exact λk hk=>S5 D l[k] _ _ _ (hst (by omega) k hk)):=h
def Kj(h:p:=by rw [List.length_map,List.length_take];omega):=h
def Lr(h:p:=by show (w.heap.push _)[w.heap.size]?=_;simp):=h
def KD(h:p:=by rw [List.length_take,List.length_take,hl]):=h
def Jy(h:p:=by show j+1 <= sg[ds.length].2.length;omega):=h
def Pt(h:p:=by rw [hvk,uJ,hy2];unfold vU;rw [n6];rfl):=h
def Od(h:p:=by rw [NR (by omega)];exact (back _).symm):=h
def LN(h:p:=by first|rfl|(show _=((n1:Nat):Int);omega)):=h
def OT(h:p:=by simpa using List.all_eq_true.1 hzc u hu):=h
def Kv(h:p:=by rw [if_pos ha2];exact .ok _ _ _ rfl):=h
def NS(h:p:=by have:=qV r.index 0 (by omega);omega):=h
def JS(h:p:=by have:=QZ m (x:=x) (by omega);omega):=h
def QA(h:p:=by show ¬((1:Int)=6∨(1:Int)=7);decide):=h
def Gd(h:p:=by exact λj v hj=>by simp at hj):=h
def F_(h:p:=by rw [List.map_map];rfl):=h
def EC(h:p:=by rw [DH rfl];decide):=h
def Ir(h:p:=by unfold eB;rw [hz1]):=h
def Im(h:p:=by first|decide|omega):=h
def D8(h:p:=by rw [hs1];exact hi):=h
def Gq(h:p:=by rw [HS.out];omega):=h
def Ic(h:p:=by rw [HL.out];omega):=h
def EI(h:p:=by simp at h2;omega):=h
def GI(h:p:=by simp at h1;omega):=h
def Y(h:p:=by omega):=h
def jo(h:p:=by rfl):=h
def bX:=@Nat.le_refl
def bw:=@Bool.eq_false_or_eq_true
def cg:=@List.nil_append
def cp:=@Nat.zero_add
def dE:=@List.map_cons
def dI:=@Sem.run_bind
def di:=@Bool.and_eq_true
def dj:=@List.flatMap_append
def eA:=@List.cons_append
def eG:=@List.mem_cons_of_mem
def eN:=@List.nodup_append
def eV:=@List.append_nil
def eT:=@Nat.zero_le
def ec:=@List.flatMap_cons
def ei:=@Result.andThen_ok
def e0:=@List.all_eq_true
def fL:=@List.map_append
def fS:=@Nat.le_of_ble_eq_true
def fj:=@Sem.run_pure
def gI:=@List.length_map
def gH:=@List.map_nil
def gR:=@List.mem_append_left
def gz:=@List.take_succ_eq_append_getElem
def gx:=@List.mem_append_right
def hG:=@List.take_length
def iS:=@Nat.le_trans
def ic:=@List.drop_eq_getElem_cons
def jC:=@Prod.mk.injEq
def jW:=@List.take_succ_cons
def jK:=@List.mem_singleton
def jZ:=@List.flatten_cons
def jQ:=@Array.getD_eq_getD_getElem?
def jv:=@Nat.lt_or_ge
def kL:=@List.length_drop
def kJ:=@List.length_eq_zero_iff
def ke:=@List.length_take
def kX:=@Bool.eq_false_iff
def k_:=@List.getElem?_eq_getElem
def ky:=@List.mem_flatMap
def lP:=@List.mem_map
def lc:=@List.flatten_nil
def mT:=@Option.some.inj
def mJ:=@List.take_zero
def mK:=@Nat.lt_of_lt_of_le
def mI:=@List.map_toArray
def mp:=@List.getElem_of_mem
def mz:=@Bool.false_eq_true
def me:=@List.mem_cons_self
def m5:=@List.nodup_cons
def m6:=@List.getElem?_eq_some_iff
def mi:=@List.drop_eq_nil_of_le
def nT:=@Array.getElem?_toList
def nN:=@Bool.or_eq_true
def nO:=@List.mem_append
def oH:=@Array.getElem?_eq_getElem
def oR:=@List.ext_getElem
def nb:=@List.getElem?_map
def oy:=@List.getElem?_take
def oh:=@List.map_map
def oS:=@List.mem_range
def oi:=@Option.map_some
def oj:=@Array.toList_inj
def oo:=@List.mem_cons
def o4:=@World.cell?_alloc_lt
def pZ:=@List.getElem?_append_right
def pT:=@List.take_append_drop
def pS:=@Array.getElem?_setIfInBounds
def qX:=@List.getElem?_drop
def p_:=@List.sum_cons
def qC:=@Array.getElem?_eq_none
def qI:=@List.mem_mapIdx
def rO:=@Nat.zero_mul
def rY:=@List.take_left'
def rD:=@List.getElem_append_left
def qz:=@List.getElem_append_right
def rZ:=@Nat.mul_one
def ra:=@Nat.add_assoc
def rG:=@Array.length_toList
def rE:=@List.getElem_map
def rR:=@Bool.and_false
def rJ:=@List.getElem?_append_left
def tc:=@List.drop_zero
def tX:=@List.drop_left'
def sR:=@Nat.add_mul
def ss:=@Nat.min_eq_left
def su:=@List.takeWhile_cons_of_pos
def sV:=@List.cons.injEq
def uF:=@List.drop_of_length_le
def uv:=@Nat.one_le_two_pow
def vX:=@Nat.add_zero
def t2:=@List.foldl_cons
def vI:=@Nat.add_sub_cancel_left
def xL:=@Nat.eq_zero_or_pos
def vn:=@Array.getElem?_eq_some_iff
def we:=@Option.getD_some
def wH:=@List.size_toArray
def xI:=@List.Sublist.refl
def xT:=@List.takeWhile_sublist
def yu:=@Nat.succ_mul
def yG:=@Nat.pow_succ
def yw:=@Bool.true_and
def zB:=@List.all_cons
def yH:=@List.set_cons_succ
def yB:=@List.drop_append
def yo:=@Bool.not_eq_true'
def xt:=@List.getElem?_eq_none
def zE:=@List.length_cons
def zR:=@List.sublist_cons_self
def yV:=@Option.some.injEq
def yS:=@Array.toList_map
def yr:=@Nat.sub_zero
def ym:=@List.eq_nil_of_length_eq_zero
def zb:=@Option.map_eq_some_iff
def zT:=@Array.toArray_toList
def y8:=@Nat.le_add_right
def Cj:=@Nat.add_comm
def Di:=@List.set_cons_zero
def BW:=@List.take_append
def Cl:=@Nat.mul_le_mul_right
def BF:=@Bool.false_and
def Dk:=@Array.ext_getElem?
def Ax:=@List.mem_filterMap
def Be:=@List.flatMap_nil
def CC:=@List.ext_getElem?
def AQ:=@Int.emod_nonneg
def B1:=@List.foldl_append
def C2:=@List.exists_cons_of_ne_nil
def Dy:=@Array.getElem?_modify
def DF:=@Nat.lt_succ_of_lt
def Ds:=@Array.getElem?_replicate
def Cr:=@World.cell?_of_block
def Cg:=@List.headD_cons
def CE:=@List.nil_sublist
def Dw:=@List.Sublist.append
def Db:=@Array.getElem?_ofFn
def EJ:=@Nat.lt_succ_self
def Fo:=@Nat.not_lt_zero
def FH:=@List.filter_append
def Fv:=@List.length_filter_le
def Is:=@List.mem_or_eq_of_mem_set
def Il:=@List.Perm.append
def Fl:=@Int.tmod_lt_of_pos
def FV:=@Int.emod_lt_of_pos
def FW:=@List.getElem_cons_zero
def EK:=@List.getD_eq_getElem?_getD
def Ft:=@List.length_append
def Gj:=@List.flatten_append
def Gs:=@List.getElem?_toArray
def Ex:=@List.takeWhile_prefix
def IV:=@List.prefix_iff_eq_take
def FN:=@List.all_takeWhile
def He:=@Array.getElem?_append_left
def EA:=@Option.map_none
def G7:=@List.getElem_set
def IX:=@List.toList_toArray
def Ek:=@List.take_append_of_le_length
def EX:=@List.drop_append_of_le_length
def G6:=@List.set_eq_take_append_cons_drop
def Ih:=@List.getElem?_mapIdx
def Hq:=@List.length_mapIdx
def KS:=@Array.getElem?_setIfInBounds_ne
def JE:=@List.takeWhile_eq_take_findIdx_not
abbrev aH:=ByteArray
abbrev ab:=Go.World
abbrev aN:=Go.Value
abbrev bA:=Go.TypeId
abbrev bb:=Go.Operand
theorem zF{α:Type u}{a0 a1 a2 a3 a4:α}{l:List α}:List.Sublist l (a0::a1::a2::a3::a4::l):=.cons _ (.cons _ (.cons _ (.cons _ (.cons _ (.refl _)))))
theorem tH{α:Type u}{a0 a1 a2 a3:α}{l:List α}:List.Sublist l (a0::a1::a2::a3::l):=.cons _ (.cons _ (.cons _ (.cons _ (.refl _))))
theorem eZ{α:Type u}{a0 a1 a2:α}{l:List α}:List.Sublist l (a0::a1::a2::l):=.cons _ (.cons _ (.cons _ (.refl _)))
theorem cq{α:Type u}{a0 a1:α}{l:List α}:List.Sublist l (a0::a1::l):=.cons _ (.cons _ (.refl _))
theorem bI{α:Type u}{a0:α}{l:List α}:List.Sublist l (a0::l):=.cons _ (.refl _)
end Go.Proofs.YtjgeihmhppadaaaGreatDoor
