import Derived.Handy
set_option linter.all false
namespace Go.Proofs.YtckelpefchdenaaGreatDoor
universe u
def J{α:Sort u}{a:α}:a=a:=Eq.refl a
variable {p:Prop}
def KG(h:p:=by rw [show fl x=false by unfold fl;first|exact decide_eq_true (by omega)|exact decide_eq_false (by omega),show f5 x=false by unfold f5;first|exact decide_eq_true (by omega)|exact decide_eq_false (by omega),show gB x=true by unfold gB;first|exact decide_eq_true (by omega)|exact decide_eq_false (by omega),show gP x=false by unfold gP;first|exact decide_eq_true (by omega)|exact decide_eq_false (by omega),show f_ x=false by unfold f_;first|exact decide_eq_true (by omega)|exact decide_eq_false (by omega),show jZ x=false by unfold jZ;first|exact decide_eq_true (by omega)|exact decide_eq_false (by omega),show gT x=false by unfold gT;first|exact decide_eq_true (by omega)|exact decide_eq_false (by omega)];rfl):=h
def MC(h:p:=by rw [show fl x=true by unfold fl;first|exact decide_eq_true (by omega)|exact decide_eq_false (by omega),show f5 x=true by unfold f5;first|exact decide_eq_true (by omega)|exact decide_eq_false (by omega),show gB x=false by unfold gB;first|exact decide_eq_true (by omega)|exact decide_eq_false (by omega),show gP x=false by unfold gP;first|exact decide_eq_true (by omega)|exact decide_eq_false (by omega),show f_ x=false by unfold f_;first|exact decide_eq_true (by omega)|exact decide_eq_false (by omega),show jZ x=false by unfold jZ;first|exact decide_eq_true (by omega)|exact decide_eq_false (by omega),show gT x=false by unfold gT;first|exact decide_eq_true (by omega)|exact decide_eq_false (by omega)];rfl):=h
def NC(h:p:=by rw [show fl x=true by unfold fl;first|exact decide_eq_true (by omega)|exact decide_eq_false (by omega),show f5 x=false by unfold f5;first|exact decide_eq_true (by omega)|exact decide_eq_false (by omega),show gB x=false by unfold gB;first|exact decide_eq_true (by omega)|exact decide_eq_false (by omega),show gP x=true by unfold gP;first|exact decide_eq_true (by omega)|exact decide_eq_false (by omega),show f_ x=false by unfold f_;first|exact decide_eq_true (by omega)|exact decide_eq_false (by omega),show jZ x=false by unfold jZ;first|exact decide_eq_true (by omega)|exact decide_eq_false (by omega),show gT x=false by unfold gT;first|exact decide_eq_true (by omega)|exact decide_eq_false (by omega)];rfl):=h
def Kr(h:p:=by exact λh=>⟨gZ.2 ⟨by simp [aH.bl],λhh=>by simp only [mem_cons,not_mem_nil,or_false] at hh;rcases hh with rfl|rfl<;>simp [aH.bl] at h⟩,λb hb=>cz (r:=(⟨vc,99,12,y.code.length,y.code.flatMap encI⟩:aQ)) h hb,λb hb=>cz (r:=(⟨vs,3,1,y.sites.length,y.sites.map λx=>.val (.int .i64 x)⟩:aQ)) h hb⟩):=h
def MQ(h:p:=by exact λh=>by unfold oI;rw [if_neg (by rw [ha1 h];decide),if_neg (by rw [L7 h];decide),if_neg (by rw [OF h];decide),if_neg (by rw [Rd h];decide),if_neg (by rw [aIz h];decide),if_neg (by rw [aJy h];decide),if_neg (by rw [Rg h];decide)]):=h
def Bi(h:p:=by dsimp only;rw [he1,he2];exact az (h1:=(.cons _ (.refl _))) (h:=av rfl (b_ (by omega)) (ao rfl)) (by intro x hx;simp only [mem_append,mem_cons,not_mem_nil,or_false] at hx⊢;grind)):=h
def Ox(h:p:=by intro h b hb;simp at hb;subst hb;exact gZ.2 ⟨by simp [aH.bl],λhh=>by simp only [mem_cons,not_mem_nil,or_false] at hh;rcases hh with rfl|rfl|rfl|rfl|rfl<;>simp [aH.bl] at h⟩):=h
def OZ(h:p:=by have h1:=uN p l[k].thn (y.branch l[k].expr);have h2:(y.branch l[k].expr).code.length=y.code.length+1:=mJ _ _;show _ <= (cM p l[k].thn (y.branch l[k].expr)).code.length;omega):=h
def Nu(h:p:=by intro h b hb;simp at hb;subst hb;exact gZ.2 ⟨by simp [aH.bl],λhh=>by simp only [mem_cons,not_mem_nil,or_false] at hh;rcases hh with rfl|rfl|rfl|rfl<;>simp [aH.bl] at h⟩):=h
def K6(h:p:=by exact λ_=>by unfold oI;rw [if_neg (by rw [ha1 rfl];decide),if_neg (by rw [L7 rfl];decide),if_neg (by rw [OF rfl];decide),if_neg (by rw [Rd rfl];decide),if_pos aIz]):=h
def LZ(h:p:=by exact λh9=>hTv b (IP (bx:=A++⟨W,180,[.val (.pointer a),.val v,am m]⟩::B) (bx':=A++⟨W,180,[.val (.pointer a'),.val v',aA ((m':Nat):Int)]⟩::B) (by simp) hm.nodup hb2 h9)):=h
def Oz(h:p:=by intro h b hb;simp at hb;subst hb;exact gZ.2 ⟨by simp [aH.bl],λhh=>by simp only [mem_cons,not_mem_nil,or_false] at hh;rcases hh with rfl<;>simp [aH.bl] at h⟩):=h
def N6(h:p:=by unfold kp;rw [decide_eq_true (show e.op=0 /\ e.num=0 by omega),decide_eq_true (show e.name=ay by assumption),decide_eq_true (show e.args.length=0 by omega)];rfl):=h
def Jv(h:p:=by rw [pW,if_neg (by omega),if_neg (by omega)];unfold im;rw [if_neg (by omega),if_neg (by omega),if_neg (by omega),if_neg (by omega),if_pos (by omega)]<;>rfl):=h
def OY(h:p:=by rw [pW,if_neg (by omega),if_neg (by omega)];unfold im;rw [if_neg (by omega),if_neg (by omega),if_neg (by omega),if_neg (by omega),if_neg (by omega)]<;>rfl):=h
def CH(h:p:=by exact λhn=>cz (r:=(⟨(.slice (some ⟨gF,0,none⟩) p.funcs.length cF),49,3,p.funcs.length,p.funcs.flatMap bT⟩:aQ)) hn (by simp [aR,Value.ownBlock])):=h
def Ij(h:p:=by exact λ_ b hb=>by first|(simp [hb];done)|(simp only [aR,Value.ownBlock,Option.toList,mem_cons,not_mem_nil,or_false] at hb;simp [hb];done)):=h
def fQ(h:p:=by exact λb hb=>by first|(simp [hb];done)|(simp only [aR,Value.ownBlock,Option.toList,mem_cons,not_mem_nil,or_false] at hb;simp [hb];done)):=h
def BE(h:p:=by rw [rU];rw [take_of_length_le (by omega)] at hvk;rw [hvk];unfold ll arity;(repeat' split)<;>first|omega|(simp_all;done)|(simp_all;omega)):=h
def zK(h:p:=by exact λi hi hlt2=>(Nat.lt_or_ge i k).elim (λh9=>hvk i hi h9) (λh9=>by have h8:i=k:=(by omega);subst h8;exact h3)):=h
def B'(h:p:=by rw [pW,if_neg (by omega),if_neg (by omega)];unfold im;rw [if_neg (by omega),if_neg (by omega),if_pos (by omega)]<;>rfl):=h
def zr(h:p:=by (repeat rw [UC (Nat.ne_of_lt hblt)]);rw [hcc _ _ (by simp;omega),World.cell?_alloc_lt wr _ ⟨b,o,none⟩ hblt]):=h
def Aw(h:p:=by intro b hb;simp only [mem_append,mem_cons,not_mem_nil,or_false,aR,Value.ownBlock,Option.toList] at hb⊢;grind):=h
def EV(h:p:=by unfold iu;rw [decide_eq_false (show ¬(0 <= p.mutexes[i].size /\ p.mutexes[i].size <= 64) by omega)];simp):=h
def GQ(h:p:=by rw [show ef .eql ((l[k].kind:Nat):Int) 4=some (decide (l[k].kind=4)) from r_ (n:=4),decide_eq_false h4]):=h
def IH(h:p:=by exact λhg=>by rw [je] at hg⊢;obtain ⟨g1,g2,g3,g4,g5,g6⟩:=hg;exact ⟨g1,g2,⟨g3.1,g3.2⟩,g4,g5,g6⟩):=h
def rb(h:p:=by have h9:=ME hok.last (x:=x0) hk0;rw [(hel.good h).2.1] at h9;exact ⟨h9.1,(hel.good h).2.2⟩):=h
def xM(h:p:=by show List.length us+m <= 1000;(try simp only [length_append,length_cons,length_nil]);omega):=h
def Hf(h:p:=by unfold aX.wt;dsimp only;rw [length_append];simp only [length_cons,length_nil];omega):=h
def jl(h:p:=by (try simp only [length_append,length_cons,length_nil,List.length_replicate]);omega):=h
def IW(h:p:=by unfold maxLen;first|omega|(simp only [length_append,length_cons,length_nil];omega)):=h
def Bq(h:p:=by exact λh=>by have:=congrArg List.length h;simp only [length_nil] at this;omega):=h
def BR(h:p:=by exact λk hk=>VS _ (hsa _ (getElem_mem _)) (by have:=vT x.args k hk;omega) _):=h
def ja(h:p:=by intro b hb;simp only [mem_append,mem_cons,not_mem_nil,or_false] at hb⊢;grind):=h
def BM(h:p:=by unfold maxLen;(try simp only [length_append,length_cons,length_nil]);omega):=h
def tM(h:p:=by have h1:=S6 e.op;simp only [length_append,length_cons,length_nil];omega):=h
def xC(h:p:=by exact λhn b hb=>by simp at hb;rcases hb with rfl|rfl<;>exact vq hn):=h
def wG(h:p:=by first|exact Nat.le_refl _|(rw [List.length_set];exact Nat.le_refl _)):=h
def oy(h:p:=by intro x hx;simp only [mem_cons,not_mem_nil,or_false] at hx⊢;grind):=h
def nZ(h:p:=by intro b hb;simp at hb;rcases hb with rfl|rfl<;>simp [aH.bl,tf]):=h
def BX(h:p:=by have:=YM hq;rw [List.length_take,List.length_drop] at this;omega):=h
def ny(h:p:=by simp only [aD.expr,aD.ref,aD.args,cD.wt,aS.nodes,cv,nG];omega):=h
def Dv(h:p:=by exact λ_ b hb=>by simp [aR,Value.ownBlock] at hb;simp [hb]):=h
def so(h:p:=by intro b hb;simp at hb;rcases hb with rfl|rfl<;>simp [aH.bl]):=h
def wM(h:p:=by intro h b hb;simp at hb;subst hb;exact Pn (by simp [aH.bl])):=h
def zu(h:p:=by exact λu hu=>by obtain ⟨c,_,rfl⟩:=List.mem_map.1 hu;rfl):=h
def aAi(h:p:=by exact λh9=>by have h8:i=k:=(by omega);subst h8;exact h3):=h
def i_(h:p:=by exact λhn b hb=>by simp at hb;subst hb<;>exact vq hn):=h
def mI(h:p:=by intro _ b hb;simp at hb⊢;rcases hb with rfl|rfl<;>simp):=h
def vQ(h:p:=by exact λb hb=>by simpa [aR,Value.ownBlock] using hb):=h
def jR(h:p:=by intro b hb;simp at hb⊢;rcases hb with rfl|rfl<;>simp):=h
def BH(h:p:=by rw [if_pos (by decide)];exact he.valid hv (by omega)):=h
def qd(h:p:=by exact λb hb=>by simp [aR,Value.ownBlock] at hb):=h
def yX(h:p:=by simp only [execOp,ho,hs.val hx,hs.val hy]<;>rfl):=h
def j8(h:p:=by intro _ b hb;simp at hb;subst hb;simp [aH.bl]):=h
def eU(h:p:=by first|exact Pq (by omega)|(simp [ef]<;>omega)):=h
def fP(h:p:=by first|exact J' (by omega)|(simp [ef]<;>omega)):=h
def kG(h:p:=by exact λ_=>⟨by simp,λb hb=>by simp [hb]⟩):=h
def vJ(h:p:=by intro x hx;simpa [aR,Value.ownBlock] using hx):=h
def dc(h:p:=by intro b hb;simp at hb;subst hb;simp [aH.bl]):=h
def xA(h:p:=by have h1:=rH l k hk;have h2:=f9 l[k];omega):=h
def tK(h:p:=by first|omega|(rw [List.length_set];omega)):=h
def vk(h:p:=by exact λ_=>by simp [aR,Value.ownBlock]):=h
def nK(h:p:=by simp [results,Tryz.results199,go_sem]):=h
def nR(h:p:=by exact λ_ _ h=>absurd h (by omega)):=h
def na(h:p:=by exact λ_ h=>(gZ.1 h).2 (by simp)):=h
def sU(h:p:=by rw [mD,if_neg hk5];exact hel.bind h):=h
def il(h:p:=by exact λ_=>⟨by simp,cI.h,cI.h⟩):=h
def tr(h:p:=by simp only [List.length_map];omega):=h
def rW(h:p:=by cases e;rw [aS.nodes] at h;omega):=h
def vS(h:p:=by intro h;rw [h] at h4;simp at h4):=h
def yL(h:p:=by have:=hQ.thn;have:=hQ.els;omega):=h
def fy(h:p:=by exact λ_ b hb=>by simp [hb]):=h
def sT(h:p:=by exact λhn=>SN (by simp) hn):=h
def sL(h:p:=by show y.code.length <= _;omega):=h
def tq(h:p:=by show x.code.length <= _;omega):=h
def co(h:p:=by exact λb hb=>by simp [hb]):=h
def uV(h:p:=by have:=h4;simp at this;omega):=h
def u_(h:p:=by rw [←EU];simpa using hown2):=h
def vE(h:p:=by unfold aH.bl;rw [hb];simp):=h
def jf(h:p:=by exact λ_ h=>by cases h):=h
def uG(h:p:=by unfold maxLen;skip;omega):=h
def uL(h:p:=by rw [yH (by omega)];omega):=h
def tO(h:p:=by rw [hbl] at hx;exact hx):=h
def qM(h:p:=by simp [Value.oneCell']):=h
def rP(h:p:=by have:=FY e k hk;omega):=h
def cO(h:p:=by unfold maxLen;omega):=h
def q_(h:p:=by unfold a_.wt;omega):=h
def hG(h:p:=by first|omega|grind):=h
def nY(h:p:=by dsimp only;omega):=h
def pP(h:p:=by have:=ol l;omega):=h
def pz(h:p:=by simpa using hi):=h
def qD(h:p:=by simpa using h2):=h
def nx(h:p:=by rw [h];decide):=h
def aL(h:p:=by kernel_rfl):=h
def eX(h:p:=by go_grown):=h
def Lq(h:p:=by have h1:=tR p l[k].thn (y.branch l[k].expr);have h2:=hbr.2;show (cM p l[k].thn (y.branch l[k].expr)).code.length+2+3*an l[k].els <= _;omega):=h
def Qe(h:p:=by rw [pW,if_neg (by omega),if_neg (by omega)];unfold im;rw [if_neg (by omega),if_neg (by omega),if_neg (by omega),if_pos (by omega)]<;>rfl):=h
def M9(h:p:=by simp only [Instr.lookup,Sem.run_bind,run_underlying ht,Result.andThen_ok,MapKept.run_getObj_map hb2,sy hk,tC hk g2,Sem.run_pure];rfl):=h
def PQ(h:p:=by rw [show ef .eql ((x0.mutexes.length:Nat):Int) 12=some (decide (x0.mutexes.length=12)) from r_ (n:=12),decide_eq_false Bx]):=h
def Nc(h:p:=by exact λhg=>by rw [je] at hg⊢;obtain ⟨g1,g2,g3,g4,g5,g6⟩:=hg;exact ⟨g1,g2,⟨g3.1,g3.2⟩,(HJ g4 (Li aI0)),g5,g6⟩):=h
def L5(h:p:=by rw [Bs,if_pos hpa,hbg,hy1];show (if ae=0 then _ else _)=_;rw [if_pos (by omega)];rw [hy2];rw [show e2=0 by omega]):=h
def LB(h:p:=by unfold mE;rw [decide_eq_true (show r.name=ay by assumption),decide_eq_true (show r.index.length=0 by omega)];rfl):=h
def Pj(h:p:=by rw [hk.block _ (h.lt _ (List.mem_append_left _ (List.mem_map.2 ⟨x,hx,rfl⟩))) (by simp;exact aNn x hx)];exact ae):=h
def Ko(h:p:=by exact λk hk=>S7 _ (hs.funcs _ (getElem_mem hk)) (by unfold aX.wt at hw;have:=qX a_.wt p.funcs k hk;omega) _):=h
def Ql(h:p:=by unfold maxLen;show _+(_:List UInt8).length <= _;(try simp only [length_append,length_cons,length_nil]);omega):=h
def Ll(h:p:=by rw [yW,if_neg (by omega)];show _=AT.agg [_,_,_,.sl (e.args.map (cd l)).length _];rw [List.length_map];rfl):=h
def Lr(h:p:=by exact λhg=>by rw [je] at hg⊢;obtain ⟨g1,g2,g3,g4,g5,g6⟩:=hg;exact ⟨(by decide),g2,⟨aJz,g3.2⟩,g4,g5,g6⟩):=h
def Lk(h:p:=by rw [pW,if_neg (by omega),if_neg (by omega)];unfold im;rw [if_neg (by omega),if_pos (by omega)]<;>rfl):=h
def Qs(h:p:=by rw [hk.block _ (hs.mem.lt _ (List.mem_append_left _ (List.mem_map.2 ⟨x,hx,rfl⟩))) (by simp)];exact ae):=h
def Lx(h:p:=by rw [aD.bt];exact ⟨(by decide),hse,⟨(by have:=aJ0;show DB.size <= _;omega),Bk.2⟩,hsa,hst,Fd⟩):=h
def KM(h:p:=by show ((y.dg (eH p y.aq l[k])).put (gL p y.aq l[k]) y.n)=_;rw [←p' p l k hkl x,←hvk,hst]):=h
def L2(h:p:=by show List.length us+l4 <= 1000;(try simp only [length_append,length_cons,length_nil]);omega):=h
def KB(h:p:=by simp only [mem_cons,not_mem_nil,or_false] at hh;rcases hh with rfl|rfl<;>simp [aH.bl] at h):=h
def Jw(h:p:=by rw [hb];simp only [mem_append,mem_cons];rcases hr with h|h;exact .inl h;exact .inr (.inr h)):=h
def Ls(h:p:=by rw [Bs,if_pos hpa,hbg,hy1];show (if ae=0 then _ else _)=_;rw [if_pos (by omega)];exact hy2):=h
def ND(h:p:=by subst h3;exact ⟨_,_,s,h2,⟨rfl,rfl⟩,.c _ _ (.val _ h1),hm,cQ.refl _ _,λb hb=>.inl hb⟩):=h
def lD(h:p:=by intro x hx;simp only [mem_append,mem_cons,not_mem_nil,or_false] at hx⊢;grind):=h
def Bv(h:p:=by dsimp only;rw [length_append];simp only [length_cons,length_nil];omega):=h
def Hs(h:p:=by first|omega|(simp only [length_append,length_cons,length_nil];omega)):=h
def IX(h:p:=by have:=qX a_.wt p.funcs k (by omega);unfold aX.wt at hw;omega):=h
def GA(h:p:=by intro x hx;simp at hx⊢;rcases hx with h|h|h|h|h|h<;>simp [h]):=h
def BD(h:p:=by exact λb hb=>by simp [aR,Value.ownBlock] at hb;simp [hb]):=h
def Gr(h:p:=by rw [hbl] at hx;exact Nat.lt_of_lt_of_le (h.lt x hx) hk.size):=h
def Fj(h:p:=by rw [aD.bt];exact ⟨hsn,hse,⟨Bk.1,Bk.2⟩,hsa,hst,Fd⟩):=h
def BP(h:p:=by show f.params.length-(k+1)<f.params.length-k;omega):=h
def Fz(h:p:=by rw [if_neg (by decide)];exact decide_eq_true rfl):=h
def JI(h:p:=by show (bd p).length-(k+1)<(bd p).length-k;omega):=h
def JV(h:p:=by simp only [List.length_set];exact λ_ _ h=>h):=h
def C4(h:p:=by intro a;unfold wid;rw [if_neg hm];exact hev a):=h
def Bn(h:p:=by unfold maxLen;first|omega|(have:=hsz;omega)):=h
def B9(h:p:=by exact λ_=>⟨by simp,by simp,cI.h,cI.h⟩):=h
def Da(h:p:=by show l.length-(k+1)<l.length-k;omega):=h
def de(h:p:=by intro b hb;simp at hb;subst hb;simp):=h
def wa(h:p:=by exact λi hi=>hvk i hi (by omega)):=h
def Aj(h:p:=by rw [if_neg (by decide)];exact JB):=h
def Ae(h:p:=by rcases hops with h|h|h|h<;>omega):=h
def Aq(h:p:=by unfold Addr.add;split<;>simp_all):=h
def ET(h:p:=by simp only [ef,decide_eq_false h]):=h
def Ch(h:p:=by rw [Ig hck (by decide),hck];rfl):=h
def yB(h:p:=by have:=hak k (by omega);omega):=h
def wm(h:p:=by simp [bytes,ByteArray.size]):=h
def xi(h:p:=by exact λa ha=>by cases ha):=h
def zN(h:p:=by simp;exact hU hs.mem.nodup):=h
def Al(h:p:=by rw [dF encI 12 lh];omega):=h
def AM(h:p:=by unfold gL;rw [hz2];rfl):=h
def wV(h:p:=by rw [HL.out];exact hlt):=h
def yd(h:p:=by show (4:Int)≠3;decide):=h
def ze(h:p:=by rw [SM rfl];decide):=h
def uO(h:p:=by rw [ha7 rfl];decide):=h
def uI(h:p:=by unfold fit;decide):=h
def vH(h:p:=by show m <= L;omega):=h
def x_(h:p:=by rw [HZ.out];omega):=h
def yC(h:p:=by simp [ef];omega):=h
def ql(h:p:=by simpa using hk):=h
def t_(h:p:=by simp;exact hbm):=h
def ti(h:p:=by rw [hrow];simp):=h
def ta(h:p:=by simpa using h1):=h
def uk(h:p:=by simpa using hl):=h
def uv(h:p:=by simpa using he):=h
def sA(h:p:=by simp [ef,h]):=h
def dr(h:p:=by simp;omega):=h
def o7(h:p:=by rw [h];rfl):=h
def tY(h:p:=by skip;omega):=h
def kw(h:p:=by go_num):=h
def Ju(h:p:=by exact λhn=>gZ.2 ⟨by simp [aH.bl],by intro hb;simp [aH.bl,vZ,List.nodup_cons] at hn hb;grind⟩):=h
def Py(h:p:=by show _+(_:List UInt8).length <= _;(try simp only [length_append,length_cons,length_nil]);omega):=h
def Qv(h:p:=by intro hd;have:=congrArg List.length hd;rw [List.length_drop] at this;simp at this;omega):=h
def NL(h:p:=by have h:=HI.out;rw [List.drop_drop,List.drop_eq_nil_of_le (by omega)] at h;simpa using h):=h
def MG(h:p:=by simp only [kp,Bool.and_eq_true,decide_eq_true_eq] at hh;first|omega|exact h4 hh.1.2):=h
def LU(h:p:=by simp only [kp,Bool.and_eq_true,decide_eq_true_eq] at hh;first|omega|exact h3 hh.1.2):=h
def P1(h:p:=by simp only [kp,Bool.and_eq_true,decide_eq_true_eq] at hh;first|omega|exact h2 hh.1.2):=h
def Pu(h:p:=by simp only [kp,Bool.and_eq_true,decide_eq_true_eq] at hh;first|omega|exact h1 hh.1.2):=h
def Oq(h:p:=by rw [pW,if_neg (by omega),if_neg (by omega)];unfold im;rw [if_pos (by omega)]<;>rfl):=h
def Mb(h:p:=by simp only [mE,Bool.and_eq_true,decide_eq_true_eq] at hh;first|omega|exact h2 hh.1):=h
def Pi(h:p:=by simp only [mE,Bool.and_eq_true,decide_eq_true_eq] at hh;first|omega|exact h1 hh.1):=h
def P7(h:p:=by unfold kE;first|exact decide_eq_true (by omega)|exact decide_eq_false (by omega)):=h
def LO(h:p:=by intro x hx;simp [aR,Value.ownBlock] at hx⊢;rcases hx with h|h|h|h|h<;>simp [h]):=h
def Q7(h:p:=by intro x hx;simp [aR,Value.ownBlock] at hx⊢;rcases hx with h|h|h|h<;>simp [h]):=h
def P3(h:p:=by rcases List.mem_cons.1 hb with rfl|hb;exact .inr (by omega);exact .inl hb):=h
def Kd(h:p:=by rw [aD.bt];exact ⟨hsn,hse,⟨Bk.1,Bk.2⟩,(I1 hsa (NH aI1)),hst,Fd⟩):=h
def LX(h:p:=by unfold a_.wt oC;simp only [length_append,length_cons,length_nil];omega):=h
def Jt(h:p:=by rw [World.cell?_alloc_lt wr _ ⟨b,off+j,none⟩ hblt];exact HB.out j u hu):=h
def Ov(h:p:=by have h9:=hall k (by omega);unfold ul at h9;rw [h3] at h9;exact h9):=h
def Pe(h:p:=by unfold aX.wt at hw;have hfn:=po a_.wt (λx=>q_) p.funcs;omega):=h
def GO(h:p:=by exact λb hb=>hk.block b (hs.mem.lt b hb) (by simp)):=h
def Is(h:p:=by exact λb hb'=>hk.block b (hm.lt b hb') (by simp)):=h
def IF(h:p:=by exact λx hx=>by simp at hx;subst hx;exact hmem):=h
def FQ(h:p:=by have:=hbel.size;have:=hb.size;simp;omega):=h
def Ht(h:p:=by simpa [dU] using congrArg List.length h0):=h
def Im(h:p:=by unfold aH.bl;simp [aR,Value.ownBlock]):=h
def Fu(h:p:=by rw [←Array.getElem?_toList];exact hi):=h
def Dx(h:p:=by exact λx hx=>absurd hx (by simp)):=h
def B3(h:p:=by exact λi h=>absurd h (by simp)):=h
def CY(h:p:=by rw [UInt8.toNat_ofNat'];omega):=h
def ES(h:p:=by rw [List.length_take];omega):=h
def Dk(h:p:=by have:=hbel.size;simp;omega):=h
def D4(h:p:=by rw [List.length_map];omega):=h
def C8(h:p:=by unfold cD.wt at hwp;omega):=h
def CE(h:p:=by unfold aH.bl;simp [hb2]):=h
def BQ(h:p:=by exact az (λb hb=>hb)):=h
def DW(h:p:=by unfold cB;rw [h1];rfl):=h
def yh(h:p:=by rw [L7 rfl];decide):=h
def yq(h:p:=by rw [ha1 rfl];decide):=h
def y0(h:p:=by show k+1 <= _;omega):=h
def xU(h:p:=by simpa using hb):=h
def wX(h:p:=by simpa using h3):=h
def ub(h:p:=by rw [hb];simp):=h
def wL(h:p:=by simp [bytes]):=h
def l7(h:p:=by assumption):=h
def vx(h:p:=by simp [hgf]):=h
def jL(h:p:=by simp [ef]):=h
def vd(h:p:=by simp [hy]):=h
def OE(h:p:=by exact λhh=>hh.2.elim (ha16 rfl) (λh=>absurd h (by rw [ha6 rfl];decide))):=h
def LM(h:p:=by exact λ_=>by unfold fA lq;rw [if_neg (ha1 rfl),if_pos DE,if_pos DE];rfl):=h
def Mx(h:p:=by unfold qu;first|(rw [if_pos (by omega)])|(rw [if_neg (by omega)])):=h
def O3(h:p:=by rw [m3 funcText _ f (by omega),←OS hm];simp only [append_assoc]):=h
def N9(h:p:=by subst he;rw [List.map_cons,List.nodup_cons] at hn;exact hn.1 h.h):=h
def Mi(h:p:=by show sg[ds.length].2.length-(j+1)<sg[ds.length].2.length-j;omega):=h
def Lo(h:p:=by rw [m3 ci _ i (by omega),Jq hm n9 (Mj hmok n9),append_assoc]):=h
def Qi(h:p:=by obtain ⟨q1,q0,q2,q3⟩:=(zL JT).2 hh;first|omega|exact h4 q3):=h
def KS(h:p:=by obtain ⟨q1,q0,q2,q3⟩:=(zL JT).2 hh;first|omega|exact h3 q3):=h
def Km(h:p:=by obtain ⟨q1,q0,q2,q3⟩:=(zL JT).2 hh;first|omega|exact h2 q3):=h
def eA(h:p:=by (try simp only [length_append,length_cons,length_nil]);omega):=h
def NQ(h:p:=by rw [m3 ci _ i (by omega),MZ hm n9 (by omega),append_assoc]):=h
def MM(h:p:=by rw [m3 ci _ i (by omega),L9 hm n9 (by omega),append_assoc]):=h
def Lz(h:p:=by rw [List.flatMap_cons,List.flatMap_nil,List.append_nil,kS]):=h
def QU(h:p:=by first|(rw [AY];(try simp only [length_append]);omega)|omega):=h
def Mw(h:p:=by rw [List.drop_eq_nil_of_le (by omega)] at hvk;rw [←hvk];rfl):=h
def OH(h:p:=by have:=hQ.thn;have:=hQ.els;have:=hE1.lo;have:=hE1.hi;omega):=h
def GV(h:p:=by exact λ_ b hb=>Pn (by simp [aH.bl,hb])):=h
def GW(h:p:=by unfold dN;(repeat' split)<;>omega):=h
def JG(h:p:=by show (1+z2)-(k+1)<(1+z2)-k;omega):=h
def IG(h:p:=by rw [h.1,decide_eq_false he];rfl):=h
def I8(h:p:=by simp [aR,Value.ownBlock] at hb):=h
def Gw(h:p:=by rw [beq_eq_false_iff_ne];omega):=h
def Hv(h:p:=by rw [if_neg (by decide)];rfl):=h
def IR(h:p:=by rw [List.length_drop];omega):=h
def Bp(h:p:=by show (0:Nat)<16;decide):=h
def A7(h:p:=by have:=hth.code;omega):=h
def Br(h:p:=by unfold sV;rw [rx]):=h
def yr(h:p:=by unfold fit;omega):=h
def yl(h:p:=by rw [mJ];omega):=h
def iX(h:p:=by simpa using h):=h
def xx(h:p:=by simp [aH.bl]):=h
def AA(h:p:=by simp;exact hT):=h
def xn(h:p:=by rw [h1];rfl):=h
def qj(h:p:=by simp at h):=h
def sq(h:p:=by simp [h]):=h
def gQ(h:p:=by cases h):=h
def fG(h:p:=by grind):=h
def Jz(h:p:=by rw [m3 cT _ k (by omega),Mf hm (by omega),append_assoc]):=h
def O8(h:p:=by rw [m3 cT _ k (by omega),QF hm (by omega),append_assoc]):=h
def Nh(h:p:=by rw [Nat.zero_add];exact P' cg 7 (λ_=>rfl) ar CA tK):=h
def Jm(h:p:=by show (cM p t (x.branch e)).code.length+1+_ <= _;omega):=h
def Of(h:p:=by have h1:=vT y.args k h;unfold bq.wt cD.wt at h1;omega):=h
def MO(h:p:=by have:=aI2 rfl;show (acc++[_]).length <= 6;simp;omega):=h
def Oe(h:p:=by have h9:w.heap.size<w.heap.size:=hs.mem.lt _ hm;omega):=h
def J7(h:p:=by show p.mutexes.length-(k+1)<p.mutexes.length-k;omega):=h
def QJ(h:p:=by unfold f8;rcases hh with hh|hh<;>rw [hh]<;>rfl):=h
def GF(h:p:=by show cv [] <= _;rw [cv];omega):=h
def GN(h:p:=by unfold aH.bl;rw [hrow];simp):=h
def Ew(h:p:=by first|omega|(rw [mJ];omega)):=h
def Et(h:p:=by show jM [];rw [jM];trivial):=h
def ID(h:p:=by rw [yH (by omega)];exact h):=h
def Hi(h:p:=by subst h1;subst h2;exact h):=h
def gy(h:p:=by simp [aR,Value.ownBlock]):=h
def JS(h:p:=by rw [h8.h];exact h.out k):=h
def Fi(h:p:=by show ¬(2:Int)=3;decide):=h
def E6(h:p:=by show ¬(1:Int)=3;decide):=h
def IM(h:p:=by show (5:Int)≠3;decide):=h
def Ep(h:p:=by show (4:Int)≠2;decide):=h
def CN(h:p:=by show 0+_ <= _;omega):=h
def DG(h:p:=by rw [h.1,hs,he];rfl):=h
def Cu(h:p:=by rw [ha2 h];decide):=h
def Eq(h:p:=by rw [X_];omega):=h
def wu(h:p:=by simp [dM]):=h
def MR(h:p:=by rw [pW,if_pos (by omega),if_pos (by omega)]<;>rfl):=h
def Oj(h:p:=by rw [pW,if_pos (by omega),if_neg (by omega)]<;>rfl):=h
def Kl(h:p:=by rw [pW,if_neg (by omega),if_pos (by omega)]<;>rfl):=h
def J6(h:p:=by have h9:=hci;rw [xw hmx,length_append] at h9;omega):=h
def M3(h:p:=by show p.funcs.length-(k+1)<p.funcs.length-k;omega):=h
def J5(h:p:=by show (eT lv).length-(i+1)<(eT lv).length-i;omega):=h
def MY(h:p:=by rw [←getD_eq l1 l i true (he1 i him)];exact hiu):=h
def Kt(h:p:=by unfold aH.bl;rw [hb];simp [aR,Value.ownBlock]):=h
def Fy(h:p:=by show k+1 <= (1+z2);omega):=h
def G4(h:p:=by unfold aH.bl;simp [hb]):=h
def G1(h:p:=by rw [HS.out];exact hlt):=h
def zR(h:p:=by exact λ_=>by simp):=h
def F5(h:p:=by rw [Ok rfl];decide):=h
def HG(h:p:=by rw [OF rfl];decide):=h
def CZ(h:p:=by simpa using h.h):=h
def CI(h:p:=by rw [jM];trivial):=h
def z_(h:p:=by simp [hx]):=h
def Ji(h:p:=by exact λe a' w' q=>by cases e<;>first|exact q|exact q.elim):=h
def Mp(h:p:=by rw [getD_eq l1 l k true (he1 k hkm)];exact hku):=h
def L_(h:p:=by show n2+an (l.drop (k+1)) <= 900000000;omega):=h
def QW(h:p:=by unfold cD.wt;show 1+cv [] <= 7;rw [cv];omega):=h
def Ow(h:p:=by rw [vL,if_pos hj,Array.getElem?_eq_getElem]):=h
def M8(h:p:=by simp;intro he;subst he;exact hrow r hr hq):=h
def N'(h:p:=by show n+1+an l[k].thn <= 900000000;omega):=h
def Mv(h:p:=by rw [B6,if_pos (by omega)];first|rfl|simp):=h
def K3(h:p:=by rw [B6,if_neg (by omega)];first|rfl|simp):=h
def C'(h:p:=by exact λk hk=>by omega):=h
def Hx(h:p:=by rw [hpa];exact hlen):=h
def Au(h:p:=by simpa using ae):=h
def V(h:p:=by decide):=h
def Lg(h:p:=by rw [List.length_take,List.length_drop];omega):=h
def MP(h:p:=by first|rfl|(show _=((n+1:Nat):Int);omega)):=h
def Kv(h:p:=by show n1+an l[k].els <= 900000000;omega):=h
def Nf(h:p:=by rw [N0 (by omega)];exact (back _).symm):=h
def FL(h:p:=by rw [beq_iff_eq];omega):=h
def Ef(h:p:=by rw [List.map_map];rfl):=h
def Ek(h:p:=by rw [h.len];exact hi):=h
def Cz(h:p:=by rw [h0];rfl):=h
def aM(h:p:=by simp):=h
def Ki(h:p:=by exact λk hk=>VP D l[k] _ _ _ (hst (by omega) k hk)):=h
def K5(h:p:=by rw [List.length_map,List.length_take];omega):=h
def Kj(h:p:=by show (w.heap.push _)[w.heap.size]?=_;simp):=h
def Kg(h:p:=by rw [List.length_take,List.length_take,hl]):=h
def Lw(h:p:=by show j+1 <= sg[ds.length].2.length;omega):=h
def Ny(h:p:=by rw [hvk,uW,hy2];unfold ul;rw [n9];rfl):=h
def Qb(h:p:=by first|rfl|(show _=((n1:Nat):Int);omega)):=h
def Qq(h:p:=by simpa using List.all_eq_true.1 hzc u hu):=h
def On(h:p:=by rw [if_pos ha2];exact .ok _ _ _ rfl):=h
def OC(h:p:=by have:=pc r.index 0 (by omega);omega):=h
def Lt(h:p:=by have:=Vv m (x:=x) (by omega);omega):=h
def Ex(h:p:=by exact λm hm=>ih m (by omega)):=h
def Iv(h:p:=by exact λj v hj=>by simp at hj):=h
def F9(h:p:=by simp [Rows.uptoBulk]):=h
def Hh(h:p:=by rw [DE rfl];decide):=h
def JJ(h:p:=by unfold eH;rw [hz1]):=h
def Gx(h:p:=by first|decide|omega):=h
def He(h:p:=by rw [hs1];exact hi):=h
def I6(h:p:=by rw [HS.out];omega):=h
def Ih(h:p:=by rw [HL.out];omega):=h
def E_(h:p:=by simp at h2;omega):=h
def Hy(h:p:=by simp at h1;omega):=h
def AZ(h:p:=by cases hx):=h
def Y(h:p:=by omega):=h
def j9(h:p:=by rfl):=h
def bY:=@Nat.le_refl
def bz:=@Bool.eq_false_or_eq_true
def ca:=@List.map_cons
def ck:=@List.nil_append
def cq:=@Nat.zero_add
def dK:=@Sem.run_bind
def dh:=@List.flatMap_append
def dm:=@Bool.and_eq_true
def d_:=@List.mem_cons_of_mem
def d7:=@List.map_nil
def eE:=@List.cons_append
def eF:=@List.nodup_append
def eL:=@Nat.zero_le
def eY:=@List.append_nil
def eZ:=@List.flatMap_cons
def eu:=@Result.andThen_ok
def e1:=@List.map_append
def fC:=@List.all_eq_true
def fV:=@Nat.le_of_ble_eq_true
def fo:=@Sem.run_pure
def gS:=@List.length_map
def gW:=@List.mem_append_left
def gX:=@List.take_succ_eq_append_getElem
def hP:=@List.take_length
def gz:=@List.mem_append_right
def iN:=@Nat.le_trans
def ii:=@List.drop_eq_getElem_cons
def jB:=@Prod.mk.injEq
def jW:=@Array.getD_eq_getD_getElem?
def jn:=@Nat.lt_or_ge
def jb:=@List.take_succ_cons
def jd:=@List.flatten_cons
def jq:=@List.mem_singleton
def kA:=@List.length_drop
def kU:=@List.length_take
def ke:=@List.length_eq_zero_iff
def kl:=@List.getElem?_eq_getElem
def kf:=@Bool.eq_false_iff
def k_:=@List.mem_map
def kr:=@List.mem_flatMap
def ly:=@List.flatten_nil
def mZ:=@List.take_zero
def mU:=@Option.some.inj
def mM:=@Nat.lt_of_lt_of_le
def mT:=@List.getElem_of_mem
def mN:=@List.getElem?_eq_some_iff
def mH:=@List.map_toArray
def m4:=@Bool.false_eq_true
def mq:=@List.mem_cons_self
def mh:=@List.sum_cons
def m6:=@List.drop_eq_nil_of_le
def mu:=@List.nodup_cons
def nd:=@Array.getElem?_toList
def nP:=@Bool.or_eq_true
def nH:=@List.mem_append
def oD:=@Array.getElem?_eq_getElem
def np:=@List.ext_getElem
def nz:=@List.getElem?_map
def ov:=@List.take_append_drop
def pI:=@List.mem_range
def pD:=@List.getElem?_take
def o8:=@List.map_map
def oV:=@List.getElem?_append_right
def oX:=@List.mem_cons
def o4:=@Option.map_some
def og:=@World.cell?_alloc_lt
def oZ:=@Array.toList_inj
def pe:=@Array.getElem?_setIfInBounds
def qO:=@Array.getElem?_eq_none
def rK:=@List.getElem?_drop
def qe:=@List.getElem_map
def qS:=@List.getElem?_append_left
def qm:=@List.mem_mapIdx
def qQ:=@Nat.add_assoc
def qx:=@Prod.mk.inj
def sN:=@List.take_left'
def sP:=@Array.length_toList
def ra:=@Bool.and_false
def sM:=@Nat.mul_one
def rO:=@Nat.zero_mul
def sG:=@List.getElem_append_left
def rX:=@List.getElem_append_right
def tJ:=@Nat.min_eq_left
def uJ:=@List.takeWhile_cons_of_pos
def tj:=@List.drop_left'
def tF:=@Nat.add_mul
def tN:=@List.cons.injEq
def tH:=@List.drop_zero
def sY:=@List.drop_of_length_le
def ui:=@Nat.add_zero
def wH:=@List.foldl_cons
def uQ:=@Nat.add_sub_cancel_left
def vj:=@Nat.one_le_two_pow
def yK:=@Array.getElem?_eq_some_iff
def xy:=@Option.getD_some
def yD:=@Nat.eq_zero_or_pos
def xm:=@List.size_toArray
def xF:=@List.takeWhile_sublist
def wx:=@Nat.succ_mul
def wR:=@List.Sublist.refl
def zq:=@Bool.not_eq_true'
def AB:=@List.getElem?_eq_none
def zi:=@Nat.pow_succ
def zl:=@Bool.true_and
def y8:=@List.length_cons
def AJ:=@List.sublist_cons_self
def yz:=@List.eq_nil_of_length_eq_zero
def Ah:=@List.all_cons
def zn:=@Option.map_eq_some_iff
def yj:=@Nat.le_add_right
def ym:=@List.set_cons_succ
def yg:=@List.drop_append
def yi:=@Nat.sub_zero
def zJ:=@Option.some.injEq
def zx:=@Array.toList_map
def zb:=@Array.toArray_toList
def Av:=@Bool.false_and
def CQ:=@List.filter_cons
def EE:=@Array.ext_getElem?
def CL:=@List.mem_filterMap
def EK:=@List.flatMap_nil
def D1:=@List.nil_sublist
def C0:=@List.Perm.refl
def D3:=@Nat.mul_le_mul_right
def Bw:=@List.ext_getElem?
def As:=@Int.emod_nonneg
def DF:=@List.foldl_append
def EO:=@List.exists_cons_of_ne_nil
def C3:=@List.drop_drop
def A5:=@World.cell?_of_block
def BV:=@List.headD_cons
def D6:=@Nat.add_comm
def BB:=@List.set_cons_zero
def DJ:=@List.take_append
def EC:=@Nat.lt_succ_of_lt
def DR:=@Array.getElem?_ofFn
def CU:=@List.Sublist.append
def Dd:=@Array.getElem?_modify
def DD:=@Array.getElem?_replicate
def Eb:=@List.filter_append
def FJ:=@List.length_filter_le
def F7:=@List.Perm.append
def JA:=@Int.tmod_lt_of_pos
def FG:=@Int.emod_lt_of_pos
def Hk:=@List.getElem_cons_zero
def Gq:=@List.getD_eq_getElem?_getD
def FI:=@List.length_append
def G6:=@List.getElem?_mapIdx
def FX:=@List.length_mapIdx
def H8:=@Nat.lt_succ_self
def HU:=@Nat.not_lt_zero
def Iy:=@List.mem_or_eq_of_mem_set
def IQ:=@List.take_append_of_le_length
def E4:=@List.drop_append_of_le_length
def Ha:=@List.set_eq_take_append_cons_drop
def JF:=@List.getElem_cons_succ
def FH:=@List.getElem_set
def Gn:=@List.toList_toArray
def Fs:=@List.getElem?_toArray
def FZ:=@List.all_takeWhile
def Il:=@List.prefix_iff_eq_take
def IB:=@List.takeWhile_prefix
def E3:=@Array.getElem?_append_left
def E8:=@Option.map_none
def GU:=@List.flatten_append
def Kn:=@List.takeWhile_eq_take_findIdx_not
def Lp:=@Array.getElem?_setIfInBounds_ne
abbrev aI:=ByteArray
abbrev aa:=Go.World
abbrev aN:=Go.Value
abbrev ax:=Go.TypeId
abbrev bb:=Go.Operand
def yu{α:Type u}{a0 a1 a2 a3 a4:α}{l:List α}:List.Sublist l (a0::a1::a2::a3::a4::l):=.cons _ (.cons _ (.cons _ (.cons _ (.cons _ (.refl _)))))
def tu{α:Type u}{a0 a1 a2 a3:α}{l:List α}:List.Sublist l (a0::a1::a2::a3::l):=.cons _ (.cons _ (.cons _ (.cons _ (.refl _))))
def ek{α:Type u}{a0 a1 a2:α}{l:List α}:List.Sublist l (a0::a1::a2::l):=.cons _ (.cons _ (.cons _ (.refl _)))
def c_{α:Type u}{a0 a1:α}{l:List α}:List.Sublist l (a0::a1::l):=.cons _ (.cons _ (.refl _))
def bG{α:Type u}{a0:α}{l:List α}:List.Sublist l (a0::l):=.cons _ (.refl _)
end Go.Proofs.YtckelpefchdenaaGreatDoor
