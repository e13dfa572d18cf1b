import Derived.Test.YtojinfngbbajgaaGreatDoorF2J
set_option linter.all false
namespace Go.Proofs.YtojinfngbbajgaaGreatDoor
section
open Go.RowKit
section
variable {P:Program}{ops:Array Oper}{U Z:List Nat}{o:Oper}{l:List Oper}{n d:Nat}{T:List Nat}{s:Sto}{bx:List Box}{rw:List bA}{ts:List (Nat×AT)}{t:AT}{Q:Exit -> AS -> Prop}{KK:AS -> Prop}{K:AS -> Prop}
theorem wy(hw:fC ops o ⟨n,T,s,ts⟩=some true)(hd:o.dst=some d)(hn:d<n)(hy:AY P [] o ⟨n,T,s,ts⟩ t)(h:eQ P ops l ⟨n,T,s,(d,t)::ts⟩ Q):eQ P ops (o::l) ⟨n,T,s,ts⟩ Q:=aQp hw hd hn hy h
theorem aSb(hw:fC ops o ⟨n,T,s,ts⟩=some false)(hd:o.dst=some d)(hn:d<n)(h:eQ P ops l ⟨n,T,s,(d,.raw undef)::ts⟩ Q):eQ P ops (o::l) ⟨n,T,s,ts⟩ Q:=aJm hw hd hn h
theorem wo(hw:fC ops o ⟨n,T,s,ts⟩=some true)(h:AO P T o ⟨n,T,s,ts⟩ fun s=>eQ P ops l s Q):eQ P ops (o::l) ⟨n,T,s,ts⟩ Q:=aQ2 hw h
theorem tk(i:Nat){fuel:Nat}{listed:Array Bool}(hr:(Region.ready .any ops listed).contains i=true)(hi:ops.toList[i]?=some o)(hf:Region.free .any ops listed i=true)(hsel:Region.noSelect ops=true)(hw:fC ops o ⟨n,T,s,ts⟩=some true)(hd:o.dst=some d)(hn:d<n)(hy:AY P (lM s Z) o ⟨n,T,s,ts⟩ t)
  (h:lD P ops Z fuel (listed.setIfInBounds i true) ⟨n,T,s,(d,t)::ts⟩ K):lD P ops Z (fuel+1) listed ⟨n,T,s,ts⟩ K:=aD2 i hr hi hf hsel hw hd hn hy h
theorem one(i:Nat){fuel:Nat}{listed:Array Bool}(hr:Region.ready .any ops listed=[i])(hi:ops.toList[i]?=some o)(hw:fC ops o ⟨n,T,s,ts⟩=some true)
  (h:AO P (lM s Z) o ⟨n,T,s,ts⟩ fun s=>lD P ops Z fuel (listed.setIfInBounds i true) s K):lD P ops Z (fuel+1) listed ⟨n,T,s,ts⟩ K:=uU hr rfl (nJ hi hw h pO)
theorem two(i j:Nat){o2:Oper}{fuel:Nat}{listed:Array Bool}(hr:Region.ready .any ops listed=[i,j])(hi:ops.toList[i]?=some o)(hw:fC ops o ⟨n,T,s,ts⟩=some true)(hi2:ops.toList[j]?=some o2)(hw2:fC ops o2 ⟨n,T,s,ts⟩=some true)
  (h:AO P (lM s Z) o ⟨n,T,s,ts⟩ fun s=>lD P ops Z fuel (listed.setIfInBounds i true) s K) (h2:AO P (lM s Z) o2 ⟨n,T,s,ts⟩ fun s=>lD P ops Z fuel (listed.setIfInBounds j true) s K):lD P ops Z (fuel+1) listed ⟨n,T,s,ts⟩ K:=
 uU hr rfl (nJ hi hw h (nJ hi2 hw2 h2 pO))
theorem aXv{st:AS}(hd:o.dst=some d)(hn:d<st.n)(hy:AY P [] o st t)(h:K {st with ts:=(d,t)::st.ts}):AO P U o st K:=by
 intro a w hs KK QQ hK
 obtain ⟨v,hr,hx⟩:=hy a w hs (fun _ h=>by cases h)
 unfold Oper.wp
 rw [hx w (cW.refl _ _),Oper.upon_value,hd]
 exact hK _ _ _ h (hs.put hn hr) ⟨cW.refl _ _,cW.refl _ _,fun b hb=>.inl hb,fun b hb=>.inl hb⟩ (cW.refl _ _)
theorem aSn{E:TypeId}{x:Operand}{cs:List AC}(ho:o.op=.box E x)(hd:o.dst=some d)(hn:d<n)(hx:evA ⟨n,T,⟨bx,rw⟩,ts⟩ x=some t)(hc:jL t=some cs)
  (h:∀b,K ⟨n,b::T,⟨⟨b,E,cs⟩::bx,rw⟩,(d,.c (.val (.pointer (some ⟨b,0,none⟩))))::ts⟩):AO P U o ⟨n,T,⟨bx,rw⟩,ts⟩ K:=aQf ho hd hn hx hc h
theorem jK{E:TypeId}{z:Value}{cs:List AC}(ho:o.op=.alloc E)(hd:o.dst=some d)(hn:d<n)(hz:∀w,(zeroValue E).run P w=.ok z w)(hc:jL (cst z)=some cs)
  (h:∀b,K ⟨n,b::T,⟨⟨b,E,cs⟩::bx,rw⟩,(d,.c (.val (.pointer (some ⟨b,0,none⟩))))::ts⟩):AO P U o ⟨n,T,⟨bx,rw⟩,ts⟩ K:=aMb ho hd hn hz hc h
section
variable {ty E:TypeId}{x y:Operand}{b off z:Nat}{cs ds r:List AC}{A B:List Box}{x1 x2 x3 x4:Box}
end
theorem wbs{E:TypeId}{e:TypeId}(i:TypeInfo){z:Value}{len:Nat}{parts:Array (Nat×Operand)}{ps:List (Nat×AT)}(zc:List AC){r:List AC}(ho:o.op=.buildSlice E len parts)(hd:o.dst=some d)(hn:d<n)(hps:EvP ⟨n,T,s,ts⟩ parts.toList ps)
  (hu:P.underlying E=some (.slice e)) (hi:P.info? e=some i) (hz:i.zero=some z) (hsmall:¬len*i.size>2 ^ 24) (hpos:¬len*i.size=0) (hzc:(((Array.range (len*i.size)).map (z.cells[·% z.cells.size]!)).toList.all (·.oneCell'))=true) (hzr:((Array.range (len*i.size)).map (z.cells[·% z.cells.size]!)).toList.map .val=zc)
  (hf:qO (fun k=>some (k*i.size,i.size)) zc ps=some r) (h:K ⟨n,T,s,(d,.c (.sl len r))::ts⟩):AO P U o ⟨n,T,s,ts⟩ K:=aAw i ho hd hn hps hu hi hz hsmall hpos hzc hzr hf h
theorem bFe{E e:TypeId}{x y:Operand}{k m z:Nat}{v zv:Value}{cs ds r:List AC}(i:TypeInfo)(bytes:Nat){B:List bA}(ho:o.op=.call {callee:=.builtin .append,args:=#[x,y],argTypes:=#[E,E]})(hd:o.dst=some d)(hn:d<n)
  (hx:evA ⟨n,T,⟨bx,⟨v,e,z,k,cs⟩::B⟩,ts⟩ x=some (.c (.val v))) (hy:evA ⟨n,T,⟨bx,⟨v,e,z,k,cs⟩::B⟩,ts⟩ y=some (.c (.sl m ds))) (hu:P.underlying E=some (.slice e)) (hi:P.info? e=some i) (hz:i.zero=some zv) (hsz:i.size=z) (hby:i.bytes=bytes) (hzs:zv.cells.size=z) (h0:0<z)
  (hm:ds.length=m*z) (hm0:0<m) (hlen:k+m <= maxLen) (hbytes:(k+m)*bytes <= 140737488355328) {N:Nat} (hN:k+m=N) (hU:(⟨bx,⟨v,e,z,k,cs⟩::B⟩:Sto).bl.Nodup -> ∀b,b∈aY v -> b∈U) (hT:∀b,b∈aY v -> b∈T) (hr:cs++ds=r)
  (h:∀v',K ⟨n,aY v'++T,⟨bx,⟨v',e,z,N,r⟩::B⟩,(d,.c (.val v'))::ts⟩):AO P U o ⟨n,T,⟨bx,⟨v,e,z,k,cs⟩::B⟩,ts⟩ K:=by
 subst hr;subst hN
 exact aBj [] ho hd hn hx rfl hy hu hi hz hsz hby hzs h0 hm hm0 hlen hbytes hU hT h
theorem bD{F:FuncId}{ars:Array Operand}{tys:Array TypeId}{us:List AT}(T':List Nat){QQ:AT -> Sto -> Prop}(ho:o.op=.call {callee:=.value (.func F),args:=ars,argTypes:=tys})(hd:o.dst=some d)(hn:d<n)
  (hcf:∀args w,(callFunc F args).run P w=.ok (.enter F args) w) (has:ars.toList.map (evA ⟨n,T,s,ts⟩)=us.map some) (hc:aL P F us T' s QQ) (hT:∀b,b∈T' -> b∈T) (hTb:∀b,b∈T' -> b∈s.bl) (hU:s.bl.Nodup -> ∀b,b∈T' -> b∈U)
  (h:∀r s',QQ r s' -> K ⟨n,T,s',(d,r)::ts⟩):AO P U o ⟨n,T,s,ts⟩ K:=aOs T' ho hd hn hcf has hc hT hTb hU h
theorem cA{bx':List Box}{rw':List bA}{T':List Nat}{ts':List (Nat×AT)}(h1:bx'.Sublist bx)(h2:rw'.Sublist rw)(h3:∀b,b∈T' -> b∈T)(h:Sub ⟨n,T',⟨bx',rw'⟩,ts⟩ ⟨n,T',⟨bx',rw'⟩,ts'⟩):Sub ⟨n,T,⟨bx,rw⟩,ts⟩ ⟨n,T',⟨bx',rw'⟩,ts'⟩:=
 Sub.trans (vU (st:=⟨n,T,⟨bx,rw⟩,ts⟩) (s':=⟨bx',rw'⟩) (aA h1 h2)) (Sub.trans (aPw (st:=⟨n,T,⟨bx',rw'⟩,ts⟩) T' h3) h)
theorem lU{b:Nat}(h:b∈s.bl):b∈lM s []:=kH.2 ⟨h,by simp⟩
theorem aN9{st:AS}(i:Nat){u t:AT}(hl:look st.ts i=some u)(hw:Wk u t):Sub st {st with ts:=(i,t)::st.ts}:=fun a w hs=>by
 refine ⟨⟨hs.df,hs.sz,fun j x hx=>?_,hs.mem⟩,fun _ h=>h,fun _ h=>h⟩
 simp only [look] at hx
 split at hx
 ·rename_i he;subst he;cases hx
  obtain ⟨v,e1,e2⟩:=hs.tm i u hl
  exact ⟨v,e1,hw _ _ e2⟩
 exact hs.tm j x hx
theorem eA(i:Nat){u t:AT}(hl:look ts i=some u)(hw:Wk u t)(h:eQ P ops l ⟨n,T,s,(i,t)::ts⟩ Q):eQ P ops l ⟨n,T,s,ts⟩ Q:=uQ (aN9 (st:=⟨n,T,s,ts⟩) i hl hw) h
theorem qR(E:TypeId)(z:Nat){c:Code}(h:AWp P c ⟨n,T,⟨bx,⟨.slice none 0 0,E,z,0,[]⟩::rw⟩,ts⟩ Q):AWp P c ⟨n,T,⟨bx,rw⟩,ts⟩ Q:=zU (aOb (st:=⟨n,T,⟨bx,rw⟩,ts⟩) E z) h
theorem aH0(i:Nat){c:Code}{v:Value}{E:TypeId}{z k:Nat}{cs:List AC}(hi:look ts i=some (.c (.val v)))(h:AWp P c ⟨n,T,⟨bx,rw⟩,(i,.c (.sl k cs))::ts⟩ Q)(hz:0<z:=by decide):AWp P c ⟨n,T,⟨bx,⟨v,E,z,k,cs⟩::rw⟩,ts⟩ Q:=
 zU (yS (st:=⟨n,T,⟨bx,⟨v,E,z,k,cs⟩::rw⟩,ts⟩) (A:=[]) i hi rfl hz) h
theorem rX{y:Code}{st:AS}(h:AWp P y st Q):sU (fun s=>AWp P y s Q) Q .normal st:=h
theorem aLr{st:AS}{id:Nat}(h:Q .normal st):InB id Q (.exit id) st:=by show (if id=id then _ else _);rw [if_pos rfl];exact h
theorem aK1{st:AS}{id id':Nat}(hne:id'≠id)(h:Q (.exit id') st):InB id Q (.exit id') st:=by show (if id'=id then _ else _);rw [if_neg hne];exact h
theorem aM9{c:Operand}{x y:Code}{st:AS}{b:Bool}(hc:evA st c=some (.c (.val (.bool b))))(hb:b=true)(h:AWp P x st Q):AWp P (.cond c x y) st Q:=gY hc (fun _=>h) (fun h=>by rw [hb] at h;cases h)
theorem aMs{c:Operand}{x y:Code}{st:AS}{b:Bool}(hc:evA st c=some (.c (.val (.bool b))))(hb:b=false)(h:AWp P y st Q):AWp P (.cond c x y) st Q:=gY hc (fun h=>by rw [hb] at h;cases h) (fun _=>h)
theorem wrap64{m:Int}(h1:-9223372036854775808 <= m)(h2:m <= 9223372036854775807):IntKind.i64.wrap m=m:=IntWalk.i64_in _ ⟨h1,h2⟩
theorem bB{st:AS}{E yt:TypeId}{x y:Operand}{m k:Int}(ho:o.op=.binOp .add E x y yt)(hx:evA st x=some (.c (.val (.int .i64 m))))(hy:evA st y=some (.c (.val (.int .i64 k))))(h1:-9223372036854775808 <= m+k)(h2:m+k <= 9223372036854775807):AY P U o st (.c (.val (.int .i64 (m+k)))):=
 vK ho hx hy (by simp only [aC9,wrap64 h1 h2])
theorem qC{st:AS}{E yt:TypeId}{x y:Operand}{m k:Int}(ho:o.op=.binOp .sub E x y yt)(hx:evA st x=some (.c (.val (.int .i64 m))))(hy:evA st y=some (.c (.val (.int .i64 k))))(h1:-9223372036854775808 <= m-k)(h2:m-k <= 9223372036854775807):AY P U o st (.c (.val (.int .i64 (m-k)))):=
 vK ho hx hy (by simp only [aC9,wrap64 h1 h2])
theorem aB5{α:Type}(enc:α -> List AC)(z:Nat)(hz:∀x,(enc x).length=z):∀(l:List α)(k:Nat)(hk:k<l.length),(l.flatMap enc).drop (k*z)=enc l[k]++(l.drop (k+1)).flatMap enc
 |[],k,hk=>absurd hk (by simp)
 |x::l,0,_=>by simp
 |x::l,k+1,hk=>by
  have ih:=aB5 enc z hz l k (by simpa using hk)
  rw [List.flatMap_cons,List.drop_append,List.drop_of_length_le (by rw [hz,Nat.succ_mul];omega),hz,List.nil_append]
  have e:(k+1)*z-z=k*z:=by rw [Nat.succ_mul];omega
  rw [e,ih];simp
theorem aFz{α:Type}(enc:α -> List AC)(z:Nat)(hz:∀x,(enc x).length=z):∀l:List α,(l.flatMap enc).length=l.length*z
 |[]=>by simp
 |x::l=>by rw [List.flatMap_cons,List.length_append,hz,aFz enc z hz l,List.length_cons,Nat.succ_mul];omega
theorem bH{st:AS}{E e:TypeId}{x y:Operand}{z:Nat}{α:Type}(enc enc':α -> List AC)(lst:List α)(hz:∀x,(enc x).length=z)(he:∀x,enc x=enc' x){k:IntKind}{i:Int}(j:Nat)(ho:o.op=.indexAddr E x y)(hx:evA st x=some (.c (.sl lst.length (lst.flatMap enc))))(hy:evA st y=some (.c (.val (.int k i))))(hi:i=j)(hj:j<lst.length)(h0:0<z)
  (hu:∀w,(underlying E).run P w=.ok (.slice e) w) (hS:∀w,(sizeOf e).run P w=.ok z w):AY P U o st (.el (enc' lst[j]++(lst.drop (j+1)).flatMap enc)):=by
 have h:=wX (P:=P) (U:=U) j ho hx hy hi hj (by rw [aFz enc z hz];exact Nat.mul_lt_mul_of_pos_right hj h0) hu hS
 rw [aB5 enc z hz lst j hj,he] at h
 exact h
theorem zC{cs ds:List AC}(h:ds.length=cs.length):splice cs 0 ds=ds:=by unfold splice;simp [h]
theorem aOq{ag:Bool}{z:Nat}{cs R:List AC}(h:cs.length=z)(ha:ag=true):pk ag z (cs++R) 0=some (.agg cs):=by
 subst ha;subst h
 simp [pk]
theorem bK{ag:Bool}{z:Nat}{cs:List AC}(h:cs.length=z)(ha:ag=true):pk ag z cs 0=some (.agg cs):=by
 subst ha;subst h
 simp [pk]
end
theorem WkL.r{x:AC}{xs ys:List AC}(h:WkL xs ys):WkL (x::xs) (x::ys):=.cons (WkC.refl _) h
theorem WkL.n{xs ys:List AC}(h:WkL xs ys):WkL (.val (.slice none 0 0)::xs) (.sl 0 []::ys):=.cons aQl h
section
variable {P:Program}{ops:Array Oper}{U Z:List Nat}{o:Oper}{n d:Nat}{T:List Nat}{s:Sto}{ts:List (Nat×AT)}{Q:Exit -> AS -> Prop}{l:List Oper}{t:AT}{st:AS}
theorem wmv{x:Operand}(hw:fC ops o ⟨n,T,s,ts⟩=some true)(ho:o.op=.move x)(hd:o.dst=some d)(hn:Nat.blt d n=true)(hx:evA ⟨n,T,s,ts⟩ x=some t)(h:eQ P ops l ⟨n,T,s,(d,t)::ts⟩ Q):eQ P ops (o::l) ⟨n,T,s,ts⟩ Q:=wy hw hd (Nat.le_of_ble_eq_true hn) (lW ho hx) h
theorem wag{x:Operand}(hw:fC ops o ⟨n,T,s,ts⟩=some true)(ho:o.op=.assign x)(hd:o.dst=some d)(hn:Nat.blt d n=true)(hx:evA ⟨n,T,s,ts⟩ x=some t)(h:eQ P ops l ⟨n,T,s,(d,t)::ts⟩ Q):eQ P ops (o::l) ⟨n,T,s,ts⟩ Q:=wy hw hd (Nat.le_of_ble_eq_true hn) (aCd ho hx) h
theorem wyy(hw:fC ops o ⟨n,T,s,ts⟩=some true)(hd:o.dst=some d)(hn:Nat.blt d n=true)(hy:AY P [] o ⟨n,T,s,ts⟩ t)(h:eQ P ops l ⟨n,T,s,(d,t)::ts⟩ Q):eQ P ops (o::l) ⟨n,T,s,ts⟩ Q:=wy hw hd (Nat.le_of_ble_eq_true hn) hy h
theorem aY9{y:Code}(h:AWp P y st Q):eQ P ops [] st (sU (fun s=>AWp P y s Q) Q):=aD1 (rX h)
theorem aX3{id:Nat}{l:List Oper}{y:Code}(h:eQ P l.toArray l st (sU (fun s=>AWp P y s Q) Q)):AWp P (.seq (.region id l.toArray false) y) st Q:=aHp (aCg h)
theorem nx{id:Nat}{l:List Oper}{y:Code}(h:eQ P l.toArray l st (sU (fun s=>AWp P y s Q) Q)):eQ P ops [] st (sU (fun s=>AWp P (.seq (.region id l.toArray false) y) s Q) Q):=aY9 (aX3 h)
theorem bDj{p:Nat}{L:List Nat}(h:p∈L):∀b,b∈[p] -> b∈L:=by intro b hb;simp at hb;subst hb;exact h
theorem wcP{p:Nat}{F:FuncId}{ars:Array Operand}{tys:Array TypeId}{us:List AT}{QQ:AT -> Sto -> Prop}(hw:fC ops o ⟨n,T,s,ts⟩=some true)(ho:o.op=.call {callee:=.value (.func F),args:=ars,argTypes:=tys})(hd:o.dst=some d)(hn:Nat.blt d n=true)
  (hcf:∀args w,(callFunc F args).run P w=.ok (.enter F args) w) (has:ars.toList.map (evA ⟨n,T,s,ts⟩)=us.map some) (hc:aL P F us [p] s QQ) (hT:p∈T) (hTb:p∈s.bl)
  (h:∀r s',QQ r s' -> eQ P ops l ⟨n,T,s',(d,r)::ts⟩ Q):eQ P ops (o::l) ⟨n,T,s,ts⟩ Q:=wo hw (bD [p] ho hd (Nat.le_of_ble_eq_true hn) hcf has hc (bDj hT) (bDj hTb) (fun _=>bDj hT) h)
theorem wcQ{p:Nat}{F:FuncId}{ars:Array Operand}{tys:Array TypeId}{us:List AT}{QQ:AT -> Sto -> Prop}(h0:(fC ops o ⟨n,T,s,ts⟩,o.op,o.dst,Nat.blt d n)=(some true,.call {callee:=.value (.func F),args:=ars,argTypes:=tys},some d,true))
  (hcf:∀args w,(callFunc F args).run P w=.ok (.enter F args) w) (has:ars.toList.map (evA ⟨n,T,s,ts⟩)=us.map some) (hc:aL P F us [p] s QQ)
  (h:∀r s',QQ r s' -> eQ P ops l ⟨n,T,s',(d,r)::ts⟩ Q) (hT:p∈T:=by simp) (hTb:p∈s.bl:=by simp [Sto.bl]):eQ P ops (o::l) ⟨n,T,s,ts⟩ Q:=by
 simp only [Prod.mk.injEq] at h0
 exact wcP h0.1 h0.2.1 h0.2.2.1 h0.2.2.2 hcf has hc hT hTb h
theorem wyz(h0:(fC ops o ⟨n,T,s,ts⟩,o.dst,Nat.blt d n)=(some true,some d,true))(hy:AY P [] o ⟨n,T,s,ts⟩ t)(h:eQ P ops l ⟨n,T,s,(d,t)::ts⟩ Q):eQ P ops (o::l) ⟨n,T,s,ts⟩ Q:=by
 simp only [Prod.mk.injEq] at h0
 exact wyy h0.1 h0.2.1 h0.2.2 hy h
theorem tq(i:Nat){fuel:Nat}{listed:Array Bool}{Q:AS -> Prop}(hr:((Region.ready .any ops listed).contains i && Region.free .any ops listed i && Region.noSelect ops)=true)(hi:ops.toList[i]?=some o)
  (hw:fC ops o ⟨n,T,s,ts⟩=some true) (hd:o.dst=some d) (hn:Nat.blt d n=true) (hy:AY P (lM s Z) o ⟨n,T,s,ts⟩ t) (h:lD P ops Z fuel (listed.setIfInBounds i true) ⟨n,T,s,(d,t)::ts⟩ Q):lD P ops Z (fuel+1) listed ⟨n,T,s,ts⟩ Q:=by
 simp only [Bool.and_eq_true] at hr
 exact tk i hr.1.1 hi hr.1.2 hr.2 hw hd (Nat.le_of_ble_eq_true hn) hy h
theorem tr(i:Nat){fuel:Nat}{listed:Array Bool}{Q:AS -> Prop}(hr:((Region.ready .any ops listed).contains i && Region.free .any ops listed i && Region.noSelect ops)=true)
  (h0:(ops.toList[i]?,fC ops o ⟨n,T,s,ts⟩,o.dst,Nat.blt d n)=(some o,some true,some d,true)) (hy:AY P (lM s Z) o ⟨n,T,s,ts⟩ t) (h:lD P ops Z fuel (listed.setIfInBounds i true) ⟨n,T,s,(d,t)::ts⟩ Q):lD P ops Z (fuel+1) listed ⟨n,T,s,ts⟩ Q:=by
 simp only [Prod.mk.injEq] at h0
 exact tq i hr h0.1 h0.2.1 h0.2.2.1 h0.2.2.2 hy h
theorem wad{E yt:TypeId}{x y:Operand}{m k:Int}(h0:(fC ops o ⟨n,T,s,ts⟩,o.dst,Nat.blt d n,o.op,evA ⟨n,T,s,ts⟩ x,evA ⟨n,T,s,ts⟩ y)=(some true,some d,true,.binOp .add E x y yt,some (.c (.val (.int .i64 m))),some (.c (.val (.int .i64 k)))))
  (h:eQ P ops l ⟨n,T,s,(d,.c (.val (.int .i64 (m+k))))::ts⟩ Q) (h1:-9223372036854775808 <= m+k:=by omega) (h2:m+k <= 9223372036854775807:=by omega):eQ P ops (o::l) ⟨n,T,s,ts⟩ Q:=by
 simp only [Prod.mk.injEq] at h0
 exact wyy h0.1 h0.2.1 h0.2.2.1 (bB h0.2.2.2.1 h0.2.2.2.2.1 h0.2.2.2.2.2 h1 h2) h
theorem wc0{F:FuncId}{ars:Array Operand}{tys:Array TypeId}{us:List AT}{QQ:AT -> Sto -> Prop}(h0:(fC ops o ⟨n,T,s,ts⟩,o.op,o.dst,Nat.blt d n)=(some true,.call {callee:=.value (.func F),args:=ars,argTypes:=tys},some d,true))
  (hcf:∀args w,(callFunc F args).run P w=.ok (.enter F args) w) (has:ars.toList.map (evA ⟨n,T,s,ts⟩)=us.map some) (hc:aL P F us [] s QQ) (h:∀r s',QQ r s' -> eQ P ops l ⟨n,T,s',(d,r)::ts⟩ Q):eQ P ops (o::l) ⟨n,T,s,ts⟩ Q:=by
 simp only [Prod.mk.injEq] at h0
 exact wo h0.1 (bD [] h0.2.1 h0.2.2.1 (Nat.le_of_ble_eq_true h0.2.2.2) hcf has hc (fun _ h=>by cases h) (fun _ h=>by cases h) (fun _ _ h=>by cases h) h)
theorem acB{F:FuncId}{fn:Func}{c:Code}{args:List AT}{Q:AT -> Sto -> Prop}(hf:P.funcs[F]?=some fn)(hb:(fn.body,Nat.ble args.length fn.ntmps)=(some c,true))
  (h:AWp P c ⟨fn.ntmps,T,s,aCr 0 args⟩ fun e st=>(e=.normal∨e=.ret) /\ ∃r s',aEt P fn st r /\ aAz st.s s' /\ Q r s'):aL P F args T s Q:=by
 simp only [Prod.mk.injEq] at hb
 exact aD hf hb.1 (Nat.le_of_ble_eq_true hb.2) h
theorem sb0{s:Sto}:aAz s s:=aAz.refl s
theorem sb1{x:Box}{B:List Box}{r:List bA}:aAz ⟨x::B,r⟩ ⟨B,r⟩:=aA (.cons _ (.refl _)) (.refl _)
theorem sb2{x y:Box}{B:List Box}{r:List bA}:aAz ⟨x::y::B,r⟩ ⟨B,r⟩:=aA (.cons _ (.cons _ (.refl _))) (.refl _)
theorem sA{ts':List (Nat×AT)}(h:ts'.map (fun p=>look st.ts p.1)=ts'.map (fun p=>some p.2)):Sub st {st with ts:=ts'}:=by
 induction ts' with
 |nil=>exact aOg
 |cons p ts' ih=>
  simp only [List.map_cons,List.cons.injEq] at h
  exact aG h.1 (Wk.refl _) (ih h.2)
theorem wcp{op:BinOp}{k:IntKind}{E yt:TypeId}{x y:Operand}{m q:Int}(r:Bool)(h0:(fC ops o ⟨n,T,s,ts⟩,o.dst,Nat.blt d n,o.op,evA ⟨n,T,s,ts⟩ x,evA ⟨n,T,s,ts⟩ y)=(some true,some d,true,.binOp op E x y yt,some (.c (.val (.int k m))),some (.c (.val (.int k q)))))(hr:bC op m q=some r)
  (h:eQ P ops l ⟨n,T,s,(d,.c (.val (.bool r)))::ts⟩ Q):eQ P ops (o::l) ⟨n,T,s,ts⟩ Q:=by
 simp only [Prod.mk.injEq] at h0
 exact wyy h0.1 h0.2.1 h0.2.2.1 (bO r h0.2.2.2.1 h0.2.2.2.2.1 h0.2.2.2.2.2 hr) h
abbrev pP(b:Nat):AT:=.c (.val (.pointer (some ⟨b,0,none⟩)))
abbrev nC(k:Nat):AC:=.val (.int .i64 ((k:Nat):Int))
abbrev nI(k:Nat):AT:=.c (.val (.int .i64 ((k:Nat):Int)))
theorem cB{fn:Func}{st:AS}{r:AT}{s':Sto}{K:AT -> Sto -> Prop}{rv:ResultVar}{e:Exit}(he:e=.normal∨e=.ret)(h1:fn.results=#[rv])(h2:aAc P st rv r)(hs:aAz st.s s')(hk:K r s'):(e=.normal∨e=.ret) /\ ∃r s',aEt P fn st r /\ aAz st.s s' /\ K r s':=⟨he,r,s',aR h1 h2,hs,hk⟩
theorem bHe{fn:Func}{st:AS}{r:AT}{s':Sto}{K:AT -> Sto -> Prop}{t:Tmp}(h1:(fn.results,look st.ts t)=(#[.tmp t],some r))(hs:aAz st.s s')(hk:K r s'):(Exit.ret=.normal∨Exit.ret=.ret) /\ ∃r s',aEt P fn st r /\ aAz st.s s' /\ K r s':=by
 simp only [Prod.mk.injEq] at h1
 exact cB (.inr rfl) h1.1 (aF h1.2) hs hk
theorem bDl{L:List Nat}:∀b,b∈([]:List Nat) -> b∈L:=fun _ h=>by cases h
end
end
end Go.Proofs.YtojinfngbbajgaaGreatDoor
