import Derived.Test.YtihdgoiebmfapaaGreatAbsO
set_option linter.all false
namespace Go.Abs
open Go
def AQ (P:Program)(s:St)(op:Op)(v:AV):Prop:=∀K:AV->Prop,K v->KE P s op K
def EL (st:List Row)(v:AV)(ys:List (List AV)):Prop:=∀K:List (List AV)->Prop,K ys->aT st v K
section
variable {P : Program} {s : St} {x y z c : Operand} {v : AV} {t t' : TypeId} {kk : IntKind} {a b : Int} {p q : Bool}
theorem BQ (h:s.ev x=v):AQ P s (.move x) v:=λK hk=>by show K (s.ev x);rw[h];exact hk
theorem VY (h:s.ev x=v):AQ P s (.assign x) v:=λK hk=>by show K (s.ev x);rw[h];exact hk
theorem jt {x y:AV}{K:AV->Prop}(h:K x):QI (.bool true) x y K:=by
 cases x<;>cases y<;>first|exact h|exact⟨λ_=>h,λh=>by cases h⟩
theorem js {x y:AV}{K:AV->Prop}(h:K y):QI (.bool false) x y K:=by
 cases x<;>cases y<;>first|exact h|exact⟨λh=>(by cases h),λ_=>h⟩
theorem Km (hc:s.ev c=.bool p)(hp:p=true)(hx:s.ev x=v):AQ P s (.pick c x y) v:=λK hk=>by
 show QI (s.ev c) (s.ev x) (s.ev y) K;rw[hc,hp,hx];exact jt hk
theorem LR (hc:s.ev c=.bool p)(hp:p=false)(hy:s.ev y=v):AQ P s (.pick c x y) v:=λK hk=>by
 show QI (s.ev c) (s.ev x) (s.ev y) K;rw[hc,hp,hy];exact js hk
variable (hx : s.ev x = .int kk a) (hy : s.ev y = .int kk b)
include hx hy
theorem IN {op:BinOp}(h :∀K:AV->Prop,K v->cP op kk a b K):AQ P s (.binOp op t x y t') v:=λK hk=>by
 show XY P t op (s.ev x) (s.ev y) K;rw[hx,hy];exact⟨rfl,h K hk⟩
theorem kG:AQ P s (.binOp .add t x y t') (.int kk (Sh.wk kk (a+b))):=IN hx hy λ_ hk=>hk
theorem kL:AQ P s (.binOp .sub t x y t') (.int kk (Sh.wk kk (a-b))):=IN hx hy λ_ hk=>hk
theorem jA:AQ P s (.binOp .mul t x y t') (.int kk (Sh.wk kk (a*b))):=IN hx hy λ_ hk=>hk
theorem T2 {q:Int}(h:Sh.rem a b=some q):AQ P s (.binOp .rem t x y t') (.int kk q):=IN hx hy λ_ hk=>by
 obtain⟨h1,rfl⟩:=Sh.iM h;exact⟨h1,hk⟩
theorem dx:AQ P s (.binOp .lss t x y t') (.bool (decide (a<b))):=IN hx hy λ_ hk=>hk
theorem mV:AQ P s (.binOp .leq t x y t') (.bool (decide (a<=b))):=IN hx hy λ_ hk=>hk
theorem mM:AQ P s (.binOp .gtr t x y t') (.bool (decide (b<a))):=IN hx hy λ_ hk=>hk
theorem nM:AQ P s (.binOp .geq t x y t') (.bool (decide (b<=a))):=IN hx hy λ_ hk=>hk
theorem mc:AQ P s (.binOp .eql t x y t') (.bool (decide (a=b))):=IN hx hy λ_ hk=>hk
theorem nE:AQ P s (.binOp .neq t x y t') (.bool (!decide (a=b))):=IN hx hy λ_ hk=>hk
end
section
variable {P : Program} {s : St} {x y z c : Operand} {v : AV} {t t' : TypeId} {kk : IntKind} {a b : Int} {p q : Bool}
variable (hx : s.ev x = i64 a) (hy : s.ev y = i64 b)
include hx hy
theorem UB:AQ P s (.binOp .add t x y t') (i64 (Sh.w (a+b))):=IN hx hy λ_ hk=>hk
theorem PH:AQ P s (.binOp .sub t x y t') (i64 (Sh.w (a-b))):=IN hx hy λ_ hk=>hk
theorem kV:AQ P s (.binOp .mul t x y t') (i64 (Sh.w (a*b))):=IN hx hy λ_ hk=>hk
theorem lg:AQ P s (.binOp .xor t x y t') (i64 (Sh.xor a b)):=IN hx hy λ_ hk=>hk
theorem XN {q:Int}(h:Sh.quo a b=some q):AQ P s (.binOp .quo t x y t') (i64 q):=IN hx hy λ_ hk=>by
 obtain⟨h1,rfl⟩:=Sh.gn h;exact⟨h1,hk⟩
theorem Wl (h:b≠0):AQ P s (.binOp .quo t x y t') (i64 (Sh.w (a.tdiv b))):=IN hx hy λ_ hk=>⟨h,hk⟩
end
section
variable {P : Program} {s : St} {x y z c : Operand} {v : AV} {t t' : TypeId} {kk yh : IntKind} {a b : Int} {p q ag : Bool} {id g i off yF f size sz bytes m j : Nat} {cs vs : List AV} {xs : List (List AV)} {el : TypeId}
theorem lU (ht:Oo P t=true)(hx:s.ev x=.bool p)(hy:s.ev y=.bool q):AQ P s (.binOp .eql t x y t') (.bool (p==q)):=λK hk=>by
 show XY P t .eql (s.ev x) (s.ev y) K;rw[hx,hy];exact⟨ht,hk⟩
theorem kv (ht:Oo P t=true)(hx:s.ev x=.bool p)(hy:s.ev y=.bool q):AQ P s (.binOp .neq t x y t') (.bool (p != q)):=λK hk=>by
 show XY P t .neq (s.ev x) (s.ev y) K;rw[hx,hy];exact⟨ht,hk⟩
theorem kX (hx:s.ev x=.bool p):AQ P s (.unOp .not t x) (.bool (!p)):=λK hk=>by
 show gu .not (s.ev x) K;rw[hx];exact hk
theorem lP (hx:s.ev x=i64 a):AQ P s (.unOp .neg t x) (i64 (Sh.w (-a))):=λK hk=>by
 show gu .neg (s.ev x) K;rw[hx];exact hk
def fE (P:Program)(src dst:TypeId):Option IntKind:=
 match P.underlying src,P.underlying dst with
 |some _,some (.int k)=>some k
 |_,_=>none
theorem dt (hc:fE P t t'=some yh)(hx:s.ev x=.int kk a):AQ P s (.convert t t' x) (.int yh (Sh.wk yh a)):=λK hk=>by
 show YP P t t' (s.ev x) K;rw[hx];unfold fE at hc;unfold YP;split at hc
 .rename_i h1 h2;simp only[pC]at hc;subst hc;simp only[h1,h2];exact hk
 .cases hc
theorem mg (hx:s.ev x=.C8 vs)(hv:vs[i]?=some v):AQ P s (.extract x i) v:=λK hk=>by
 show RH (s.ev x) i K;rw[hx];exact Ak v hv hk
theorem bN {fn:FuncId}{vO:Array Operand}(hc:vO.toList.map s.ev=cs):AQ P s (.makeFunc (.func fn) #[] vO) (.fn fn cs):=λK hk=>by
 subst hc;exact⟨rfl,hk⟩
theorem IM (ht:Dc P t=some (false,sz))(hx:s.ev x=.C9 cs off)(hv:cs[off]?=some v):AQ P s (.load t x) v:=λK hk=>by
 show QS P s.st t (s.ev x) K;rw[hx];exact Ak _ ht (Ak v hv hk)
theorem H0 (ht:Dc P t=some (true,sz))(hx:s.ev x=.C9 cs off)(hl:off+sz<=cs.length)(hv:(cs.drop off).take sz=vs):AQ P s (.load t x) (.agg vs):=λK hk=>by
 show QS P s.st t (s.ev x) K;rw[hx];subst hv;exact Ak _ ht ⟨hl,hk⟩
theorem CF (ht:Dc P t=some (false,sz))(hx:s.ev x=.ptr id g i off)(hr:s.st[id]?=some ⟨g,el,size,xs⟩)(hi:xs[i]?=some cs)(hv:cs[off]?=some v):AQ P s (.load t x) v:=λK hk=>by
 show QS P s.st t (s.ev x) K;rw[hx];exact Ak _ ht (Ak _ hr ⟨rfl,Ak cs hi (Ak v hv hk)⟩)
theorem Cp (ht:Dc P t=some (true,sz))(hx:s.ev x=.ptr id g i off)(hr:s.st[id]?=some ⟨g,el,size,xs⟩)(hi:xs[i]?=some cs)(hl:off+sz<=cs.length)(hv:(cs.drop off).take sz=vs):AQ P s (.load t x) (.agg vs):=λK hk=>by
 show QS P s.st t (s.ev x) K;rw[hx];subst hv;exact Ak _ ht (Ak _ hr ⟨rfl,Ak cs hi ⟨hl,hk⟩⟩)
theorem Iu (hf:IH P t f=some j)(hx:s.ev x=.C9 cs off)(ho:off+j=yF):AQ P s (.fieldAddr t x f) (.C9 cs yF):=λK hk=>by
 show MM P t (s.ev x) f s.st K;rw[hx];subst ho;exact Ak _ hf hk
theorem FN (hf:IH P t f=some j)(hx:s.ev x=.ptr id g i off)(hr:s.st[id]?=some ⟨g,el,size,xs⟩)(hl:off+j<=size)(ho:off+j=yF):AQ P s (.fieldAddr t x f) (.ptr id g i yF):=λK hk=>by
 show MM P t (s.ev x) f s.st K;rw[hx];subst ho;exact Ak _ hf (Ak _ hr ⟨rfl,hl,hk⟩)
def VU (P:Program)(t:TypeId)(f:Nat):Option (Nat×Bool×Nat):=
 match P.underlying t with
 |some (.struct fs)=>match fs[f]? with
  |some g=>match Dc P g.type with
   |some ti=>some (g.offset,ti)
   |none=>none
  |none=>none
 |_=>none
theorem Xq {f o:Nat}{ti:Bool×Nat}{K:AV->Prop}(h:VU P t f=some (o,ti))(hk:L6 ti.1 ti.2 cs o K):N9 P t (.agg cs) f K:=by
 unfold VU at h;unfold N9;split at h
 .rename_i fs hu;split at h
  .rename_i gg hg;split at h
   .rename_i ti' ht;simp only[pC,rA]at h;obtain⟨rfl,rfl⟩:=h;rw[hu];exact Ak _ hg (Ak _ ht hk)
   .cases h
  .cases h
 .cases h
theorem mT (hf:VU P t f=some (off,false,sz))(hx:s.ev x=.agg cs)(hv:cs[off]?=some v):AQ P s (.field t x f) v:=λK hk=>by
 show N9 P t (s.ev x) f K;rw[hx];exact Xq hf (Ak v hv hk)
theorem kY (hf:VU P t f=some (off,true,sz))(hx:s.ev x=.agg cs)(hl:off+sz<=cs.length)(hv:(cs.drop off).take sz=vs):AQ P s (.field t x f) (.agg vs):=λK hk=>by
 show N9 P t (s.ev x) f K;rw[hx];subst hv;exact Xq hf ⟨hl,hk⟩
variable {α : Type} {l l' : List α} {enc : α -> List AV} {n : Int} {zz : List AV} {u : α}
theorem CQ (h:Sh.get l n=some u):(l.map enc)[n.toNat]?=some (enc u):=by
 rw[pB,(Sh.get_some h).2.1];rfl
theorem CZ (he:DB P t=some ⟨el,size,bytes,zz⟩)(hx:s.ev x=.sl (l.map enc))(hy:s.ev y=.int kk n)(hg:Sh.get l n=some u)(hs:(enc u).length=size):AQ P s (.indexAddr t x y) (.C9 (enc u) 0):=λK hk=>by
 show It P s.st t (s.ev x) (s.ev y) K;rw[hx,hy];exact Ak _ he ⟨(Sh.get_some hg).1,Ak _ (CQ hg) ⟨hs,hk⟩⟩
theorem CD (he:DB P t=some ⟨el,size,bytes,zz⟩)(hx:s.ev x=.own id g m)(hy:s.ev y=.int kk n)(hr:s.st[id]?=some ⟨g,el,size,l.map enc⟩)(hm:m=l.length)(hg:Sh.get l n=some u):
  AQ P s (.indexAddr t x y) (.ptr id g n.toNat 0):=λK hk=>by
 show It P s.st t (s.ev x) (s.ev y) K;rw[hx,hy];subst hm;exact Ak _ he ⟨(Sh.get_some hg).1,(Sh.get_some hg).2.2,Ak _ hr ⟨rfl,rfl,by simpa using hk⟩⟩
theorem CU (hs:DG P t=true)(hx:s.ev x=.sl (l.map enc)):AQ P s (.call ⟨.builtin .len,#[x],#[t]⟩) (i64 (Sh.len l)):=λK hk=>by
 refine⟨hs,?_⟩;rw[hx];simp only[fu,pR];exact hk
theorem DE (hs:DG P t=true)(hx:s.ev x=.own id g m)(hr:s.st[id]?=some ⟨g,el,size,l.map enc⟩)(hm:m=l.length):AQ P s (.call ⟨.builtin .len,#[x],#[t]⟩) (i64 (Sh.len l)):=λK hk=>by
 refine⟨hs,?_⟩;subst hm;rw[hx];exact Ak _ hr ⟨rfl,hk⟩
theorem cE (hs:DG P t=true)(hx:s.ev x=.zc):AQ P s (.call ⟨.builtin .len,#[x],#[t]⟩) (i64 0):=λK hk=>by
 refine⟨hs,?_⟩;rw[hx];exact hk
theorem lz (hx:s.ev x=.ptr id g i off)(hr:s.st[id]?=some ⟨g,el,size,xs⟩):AQ P s (.nilCheck x) (.ptr id g i off):=λK hk=>by
 show ZW s.st (s.ev x) K;rw[hx];exact Ak _ hr ⟨rfl,hk⟩
theorem lL (hx:s.ev x=.C9 cs off):AQ P s (.nilCheck x) (.C9 cs off):=λK hk=>by
 show ZW s.st (s.ev x) K;rw[hx];exact hk
theorem DK {parts:Array (Nat×Operand)}{fs:List (Nat×Nat)}{pv:List (Nat×AV)}(ha:I6 P t=true)(hf:Kl P t=some fs)(hz:IK P t=some zz)(hp:(parts.toList.map λp=>(p.1,s.ev p.2))=pv)(hc:Md (fs[·]?) zz pv=some cs):
  AQ P s (.build t parts) (.agg cs):=λK hk=>by
 show ay P t (parts.toList.map λp=>(p.1,s.ev p.2)) K;rw[hp];exact⟨ha,Ak _ hf (Ak _ hz (Ak _ hc hk))⟩
variable {st : List Row} {ys : List (List AV)}
theorem Mk:EL st (.sl ys) ys:=λ_ hk=>hk
theorem HD (hr:st[id]?=some ⟨g,el,size,l.map enc⟩)(hm:m=l.length)(vS :∀x,(enc x).all AV.leaf=true:=by exact λ_=>rfl):EL st (.own id g m) (l.map enc):=λK hk=>by
 subst hm;refine Ak _ hr ⟨rfl,λy hy c hc=>?_,?_⟩
 .obtain⟨x,_,rfl⟩:=pQ.1 hy;exact pG.1 (vS x) c hc
 rw[<- pR (f:=enc) (as:=l),qq];exact⟨rfl,hk⟩
end
section
variable {P : Program} {k : Nat} {ops : Array Oper} {Q : Exit -> St -> Prop} {ds : List (Option Tmp)} {r : List Oper} {n : Nat} {e : Nat -> AV} {st st' : List Row} {op : Op} {ty : TypeId} {ps : String} {ed : Array Edge} {d : Option Tmp} {t : Tmp} {v v' : AV}
variable {jj : Nat} {want b : Bool} {tg : Tmp} {gd : Option (Nat × Bool)}
def GO (ds:List (Option Tmp))(gd:Option (Nat×Bool))(e:Nat->AV):Prop:=
 match gd with
 |none=>True
 |some (jj,want)=>∃tg,ds[jj]?=some (some tg)/\e tg=.bool want
theorem AN:GO ds none e:=oz
theorem CR (hj:ds[jj]?=some (some tg))(ht:e tg=.bool b)(hb:b=want):GO ds (some (jj,want)) e:=⟨tg,hj,by rw[ht,hb]⟩
theorem GO.guard {A B:Prop}(hg:GO ds gd e)(h:A):Jf ds ⟨d,op,ty,ps,ed,gd⟩ ⟨n,e,st⟩ A B:=by
 unfold GO at hg;unfold Jf;cases gd with
 |none=>exact h
 |some q=>
  obtain⟨jj,want⟩:=q;obtain⟨tg,hj,ht⟩:=hg;simp only[hj,ht,cC];exact⟨λ_=>h,λhh=>absurd rfl hh⟩
theorem BW (hg:GO ds gd e)(hl:Kk op=false)(hq:AQ P ⟨n,e,st⟩ op v)(hk:AO P k ops Q (ds++[some t]) r ⟨n,DQ e t v,st⟩):AO P k ops Q ds (⟨some t,op,ty,ps,ed,gd⟩::r) ⟨n,e,st⟩:=by
 refine AO.step (hg.guard ?_);unfold Lp;simp only[hl,pD,pV];exact hq _ hk
theorem NO (hg:GO ds gd e)(h:Lp P k ⟨d,op,ty,ps,ed,gd⟩ ⟨n,e,st⟩ (AO P k ops Q (ds++[d]) r)):AO P k ops Q ds (⟨d,op,ty,ps,ed,gd⟩::r) ⟨n,e,st⟩:=
 AO.step (hg.guard h)
theorem kI (hj:ds[jj]?=some (some tg))(ht:e tg=.bool b)(hb:b=!want)(h:AO P k ops Q (ds++[some t]) r ⟨n,DQ e t .un,st⟩):AO P k ops Q ds (⟨some t,op,ty,ps,ed,some (jj,want)⟩::r) ⟨n,e,st⟩:=by
 refine AO.step ?_;subst hb;simp only[Jf,hj,ht,cC];exact⟨λh=>(by cases want<;>cases h),λ_=>h⟩
theorem kH (hj:ds[jj]?=some (some tg))(ht:e tg=.un)(h:AO P k ops Q (ds++[some t]) r ⟨n,DQ e t .un,st⟩):AO P k ops Q ds (⟨some t,op,ty,ps,ed,some (jj,want)⟩::r) ⟨n,e,st⟩:=by
 refine AO.step ?_;simp only[Jf,hj,ht,cC];exact h
variable {KS : St -> Prop}
theorem Io (hg:GO ds gd e)(hl:Kk op=false)(hq:AQ P ⟨n,e,st⟩ op v)(hk:EK P (ds++[some t]) r KS ⟨n,DQ e t v,st⟩):EK P ds (⟨some t,op,ty,ps,ed,gd⟩::r) KS ⟨n,e,st⟩:=by
 refine hg.guard ?_;unfold Ly;simp only[hl,pD,pV];exact hq _ hk
theorem gv (hg:GO ds gd e)(hl:Kk op=true)(hq :∀s0:St,s0.st=st->(∀x∈op.operands,s0.ev x=St.ev ⟨n,e,st⟩ x)->Cy s0.n (some t)=true->Yl P ⟨some t,op,ty,ps,ed,gd⟩ s0 v)(hk:EK P (ds++[some t]) r KS ⟨n,DQ e t v,st⟩):EK P ds (⟨some t,op,ty,ps,ed,gd⟩::r) KS ⟨n,e,st⟩:=by
 refine hg.guard ?_;unfold Ly;simp only[hl,pq];exact⟨v,hq,hk⟩
theorem lj (hj:ds[jj]?=some (some tg))(ht:e tg=.bool b)(hb:b=!want)(h:EK P (ds++[some t]) r KS ⟨n,DQ e t .un,st⟩):EK P ds (⟨some t,op,ty,ps,ed,some (jj,want)⟩::r) KS ⟨n,e,st⟩:=by
 subst hb;simp only[EK,Jf,hj,ht,cC];exact⟨λh=>(by cases want<;>cases h),λ_=>h⟩
theorem Av {s:St}(h:KS s):EK P ds [] KS s:=h
theorem Ts {vI:Array Operand}{f:FuncId}{ts:Array TypeId}{s0 s1:St}(h :∀x∈(Op.call ⟨.value (.func f),vI,ts⟩).operands,s0.ev x=s1.ev x):vI.toList.map s0.ev=vI.toList.map s1.ev:=
 pf λx hx=>h x (by simp[Op.operands,Call.operands];right;simpa using hx)
theorem BV {f:FuncId}{vI:Array Operand}{ts:Array TypeId}{args:List AV}(hg:GO ds gd e)(hb:Cq P f=true)(hc:BJ P f args [] λr st=>r=v/\st=[])(ha:vI.toList.map (St.ev ⟨n,e,st⟩)++[]=args)(hf:args.all flat=true)(hv:flat v=true)
  (hk:EK P (ds++[some t]) r KS ⟨n,DQ e t v,st⟩):EK P ds (⟨some t,.call ⟨.value (.func f),vI,ts⟩,ty,ps,ed,gd⟩::r) KS ⟨n,e,st⟩:=by
 refine gv hg rfl (λs0 e1 e2 hd k F os a w hr next Q hn=>?_) hk;refine Lx (k:=k) (K:=(·=s0.put (some t) v)) hr hd ?_ hn;show Cq P f=true/\callThen P k s0 f (vI.toList.map s0.ev++[]) (some t) _;rw[Ts e2,ha];exact⟨hb,WK hc hf hv rfl⟩
variable {α : Type} {l l' l2 : List α} {enc : α -> List AV} {kk yh : IntKind} {j : Int} {el T : TypeId} {size bytes sz id g i m off : Nat} {zz cs us : List AV} {x y : Operand} {xs : List (List AV)} {ag : Bool} {u u' : α}
theorem KB (hg:GO ds gd e)(hz:IK P T=some zz)(hm:st.length=m)(uV:st++[⟨0,T,zz.length,[zz]⟩]=st')(hk:AO P k ops Q (ds++[some t]) r ⟨n,DQ e t (.ptr m 0 0 0),st'⟩):AO P k ops Q ds (⟨some t,.alloc T,ty,ps,ed,gd⟩::r) ⟨n,e,st⟩:=by
 subst hm;subst uV;exact NO hg (Ak _ hz hk)
theorem Wy (hg:GO ds gd e)(hx:St.ev ⟨n,e,st⟩ x=v)(hc:J9 v=some cs)(uq:cs.isEmpty=false)(hm:st.length=m)(uV:st++[⟨0,T,cs.length,[cs]⟩]=st')(hk:AO P k ops Q (ds++[some t]) r ⟨n,DQ e t (.ptr m 0 0 0),st'⟩):AO P k ops Q ds (⟨some t,.box T x,ty,ps,ed,gd⟩::r) ⟨n,e,st⟩:=by
 subst hm;subst uV;subst hx;exact NO hg (Ak _ hc ⟨(by intro h;rw[h]at uq;cases uq),hk⟩)
theorem Ja (hg:GO ds gd e)(ht:Dc P T=some (ag,sz))(hx:St.ev ⟨n,e,st⟩ x=.ptr id g i off)(hr:st[id]?=some ⟨g,el,size,xs⟩)(hi:xs[i]?=some zz)(hv:St.ev ⟨n,e,st⟩ y=v)(hc:J9 v=some cs)(hn:cs.length=sz)(hle:off+cs.length<=size)
  (uV:st.set id ⟨g,el,size,xs.set i (HL zz off cs)⟩=st') (hk:AO P k ops Q (ds++[none]) r ⟨n,e,st'⟩):AO P k ops Q ds (⟨none,.store T x y,ty,ps,ed,gd⟩::r) ⟨n,e,st⟩:=by
 subst uV;subst hv;refine NO hg ?_;rw[iW,hx];exact Ak _ ht (Ak _ hr ⟨rfl,Ak _ hi (Ak _ hc ⟨hn,hle,hk⟩)⟩)
theorem bZ {j:Int}:(l.map enc).set j.toNat (enc u)=(Sh.put l j u).map enc:=by simp[Sh.put,rN]
theorem Je (hg:GO ds gd e)(ht:Dc P T=some (ag,sz))(hx:St.ev ⟨n,e,st⟩ x=.ptr id g j.toNat off)(hr:st[id]?=some ⟨g,el,size,l.map enc⟩)(hi:Sh.get l j=some u)(hv:St.ev ⟨n,e,st⟩ y=v)(hc:J9 v=some cs)(hn:cs.length=sz)(hle:off+cs.length<=size)
  (hsp:HL (enc u) off cs=enc u') (uV:st.set id ⟨g,el,size,(Sh.put l j u').map enc⟩=st') (hk:AO P k ops Q (ds++[none]) r ⟨n,e,st'⟩):AO P k ops Q ds (⟨none,.store T x y,ty,ps,ed,gd⟩::r) ⟨n,e,st⟩:=
 Ja hg ht hx hr (CQ hi) hv hc hn hle (by rw[hsp,bZ];exact uV) hk
theorem Tj (hg:GO ds gd e)(he:DB P T=some ⟨el,size,bytes,zz⟩)(hx:St.ev ⟨n,e,st⟩ x=.int kk j)(hy:St.ev ⟨n,e,st⟩ y=.int yh j)(hz:enc u=zz)(hl:Sh.mk u j bytes=some l)(hm:st.length=m)(uV:st++[⟨0,el,size,l.map enc⟩]=st')
  (hk:AO P k ops Q (ds++[some t]) r ⟨n,DQ e t (.own m 0 l.length),st'⟩):AO P k ops Q ds (⟨some t,.makeSlice T x y,ty,ps,ed,gd⟩::r) ⟨n,e,st⟩:=by
 subst hm;subst uV;subst hz;refine NO hg ?_;rw[ZJ];unfold Sh.mk at hl;split at hl
 .rename_i h;simp only[pC]at hl;subst hl;rw[hx,hy];simp only[sj,List.length_replicate]at hk;exact Ak _ he ⟨rfl,h.1,h.2.1,h.2.2,hk⟩
 .cases hl
theorem So {len:Nat}{parts:Array (Nat×Operand)}{pv:List (Nat×AV)}(hg:GO ds gd e)(he:DB P T=some ⟨el,size,bytes,zz⟩)(hle:len*size<=16777216)(hp:(parts.toList.map λp=>(p.1,St.ev ⟨n,e,st⟩ p.2))=pv)
  (hc:Md (λi=>some (i*size,size)) ((List.replicate len zz).flatten) pv=some cs) (hck:chunk size len cs=l.map enc) (hln:len=l.length) (hm:st.length=m) (uV:st++[⟨0,el,size,l.map enc⟩]=st') (hk:AO P k ops Q (ds++[some t]) r ⟨n,DQ e t (.own m 0 l.length),st'⟩) :
  AO P k ops Q ds (⟨some t,.buildSlice T len parts,ty,ps,ed,gd⟩::r) ⟨n,e,st⟩:=by
 subst hm;subst uV;subst hln;refine NO hg ?_;rw[Xz,hp];exact Ak _ he ⟨hle,Ak _ hc (by rw[hck];exact hk)⟩
theorem Ct {ys:AV}(hg:GO ds gd e)(he:DB P T=some ⟨el,size,bytes,zz⟩)(hx:St.ev ⟨n,e,st⟩ x=.own id g m)(hr:st[id]?=some ⟨g,el,size,l.map enc⟩)(hm:m=l.length)(hy:St.ev ⟨n,e,st⟩ y=ys)(hel:EL st ys (l2.map enc))(hs :∀a,(enc a).length=size)(ha:Sh.app l l2 bytes=some l')
  (uV:st.set id ⟨g+1,el,size,l'.map enc⟩=st') (hk:AO P k ops Q (ds++[some t]) r ⟨n,DQ e t (.own id (g+1) l'.length),st'⟩):AO P k ops Q ds (⟨some t,.call ⟨.builtin .append,#[x,y],#[T,T]⟩,ty,ps,ed,gd⟩::r) ⟨n,e,st⟩:=by
 subst uV;subst hy;subst hm;refine NO hg ?_;rw[XL];refine⟨rfl,?_⟩;rw[hx];unfold Sh.app at ha;split at ha
 .rename_i h;simp only[pC]at ha;subst ha;refine Ak _ he (hel _ ⟨λz hz=>?_,Ak _ hr ⟨rfl,(pR _).symm,rfl,rfl,by simpa using h.1,by simpa using h.2,?_⟩⟩)
  .obtain⟨q,_,rfl⟩:=pQ.1 hz;exact hs q
  .have e1:(l.map enc).take l.length=l.map enc:=by rw[<- pR (f:=enc) (as:=l),qq]
   have e2:l.length+(l2.map enc).length=(l++l2).length:=by simp
   simp only[e1,e2,<- qu];exact hk
 .cases ha
theorem fV {hop:Operand}(hg:GO ds gd e)(he:DB P T=some ⟨el,size,bytes,zz⟩)(hx:St.ev ⟨n,e,st⟩ x=.own id g m)(hr:st[id]?=some ⟨g,el,size,l.map enc⟩)(hm:m=l.length)(hh:St.ev ⟨n,e,st⟩ hop=.int kk j)(hl:Sh.hi l j=some l')
  (uV:st.set id ⟨g+1,el,size,l'.map enc⟩=st') (hk:AO P k ops Q (ds++[some t]) r ⟨n,DQ e t (.own id (g+1) l'.length),st'⟩):AO P k ops Q ds (⟨some t,.slice T x none (some hop) none,ty,ps,ed,gd⟩::r) ⟨n,e,st⟩:=by
 subst uV;subst hm;refine NO hg ?_;rw[Uq];simp only[qF,sb];rw[hx,hh];unfold Sh.hi at hl;split at hl
 .rename_i h;simp only[pC]at hl;subst hl;refine Ak _ he (Ak _ hr ⟨rfl,(pR _).symm,rfl,Ak _ rfl ⟨h.1,h.2,?_⟩⟩);have e1:(l.take j.toNat).length=j.toNat:=by rw[rP];omega
  rw[e1,List.map_take]at hk;exact hk
 .cases hl
theorem TZ {lo hi:Option Operand}{i j:Int}(hg:GO ds gd e)(he:DB P T=some ⟨el,size,bytes,zz⟩)(hx:St.ev ⟨n,e,st⟩ x=.sl (l.map enc))(h1:VL (lo.map (St.ev ⟨n,e,st⟩)) 0=some i)(h2:VL (hi.map (St.ev ⟨n,e,st⟩)) l.length=some j)(hs :∀a,(enc a).length=size)(hl:Sh.sl l i j=some l')
  (hk:AO P k ops Q (ds++[some t]) r ⟨n,DQ e t (.sl (l'.map enc)),st⟩):AO P k ops Q ds (⟨some t,.slice T x lo hi none,ty,ps,ed,gd⟩::r) ⟨n,e,st⟩:=by
 refine NO hg ?_;rw[Uq];simp only[sb];rw[hx];unfold Sh.sl at hl;split at hl
 .rename_i h;simp only[pC]at hl;subst hl;refine Ak _ he (Ak _ h1 (Ak _ (by rw[pR];exact h2) ⟨h.1,h.2.1,by simpa using h.2.2,λz hz=>?_,?_⟩))
  .obtain⟨q,_,rfl⟩:=pQ.1 hz;exact hs q
  .rw[List.map_drop,List.map_take]at hk;exact hk
 .cases hl
theorem Wo (hg:GO ds gd e)(hs:DG P T=true)(hx:St.ev ⟨n,e,st⟩ x=.sl (l.map enc))(h1:l=[]->AO P k ops Q (ds++[some t]) r ⟨n,DQ e t (.bool true),st⟩)(h2:AO P k ops Q (ds++[some t]) r ⟨n,DQ e t (.bool false),st⟩){yT:TypeId}:
  AO P k ops Q ds (⟨some t,.binOp .eql T x (.const (.slice none 0 0)) yT,ty,ps,ed,gd⟩::r) ⟨n,e,st⟩:=by
 refine NO hg ?_;rw[cm];refine⟨hs,?_⟩;rw[hx];exact⟨λh=>h1 (sF.1 h),h2⟩
def Xf:List Row->Prop
 | []=>True
 |row::r=>DF row.xs/\Xf r
theorem Xf.get:∀{l:List Row},Xf l->∀row∈l,DF row.xs
 |row::r,h,yE,hm=>by
  rcases pK.1 hm with rfl|hm
  .exact h.1
  .exact Xf.get h.2 yE hm
variable {f : FuncId} {vI : Array Operand} {ts : Array TypeId} {args : List AV} {rows : List Row} {s : St}
theorem Bo (hg:GO ds gd e)(hb:Cq P f=true)(hc:BJ P f args [] λr st=>r=v/\st=rows)(ha:vI.toList.map (St.ev ⟨n,e,st⟩)++[]=args)(hf:args.all flat=true)(hp:Xf rows)(hv:shift st.length v=v')(uV:st++rows=st')
  (hk:AO P k ops Q (ds++[d]) r (St.put ⟨n,e,st'⟩ d v')):AO P k ops Q ds (⟨d,.call ⟨.value (.func f),vI,ts⟩,ty,ps,ed,gd⟩::r) ⟨n,e,st⟩:=by
 subst hv;subst uV;subst ha;refine NO hg ?_;rw[OE];refine⟨hb,XQ hc hf ?_⟩;rintro r st' ⟨rfl,rfl⟩;exact⟨hp.get,hk⟩
theorem fK {g:Nat}{vr:α->List AV}(hr:st[id]?=some ⟨g,el,size,l.map enc⟩)(hu :∀x,IQ (enc x)=vr x):UG st (.own id g l.length)=.sl (l.map vr):=by
 simp only[UG,hr,pq];rw[<- pR (f:=enc) (as:=l),qx,qJ,Ib,rF];congr 1;exact pf λx _=>hu x
theorem UY {cs:List AV}(h:cs.all simple=true):IQ cs=cs:=by
 rw[OZ];exact (pf (g:=id) λc hc=>Vk (pG.1 h c hc)).trans (qn _)
inductive BC (st:List Row):List AV->List AV->Prop
 |nil:BC st [] []
 |own {α:Type} {l:List α} {enc:α->List AV} {id g size m:Nat} {el:TypeId} {as bs:List AV} (hr:st[id]?=some ⟨g,el,size,l.map enc⟩) (hm:m=l.length) (hp :∀x,(enc x).all simple=true) (h:BC st as bs):BC st (.own id g m::as) (.sl (l.map enc)::bs)
 |ownD {α:Type} {l:List α} {enc vr:α->List AV} {id g size m:Nat} {el:TypeId} {as bs:List AV} (hr:st[id]?=some ⟨g,el,size,l.map enc⟩) (hm:m=l.length) (hp :∀x,(enc x).all E6=true) (hu :∀x,IQ (enc x)=vr x) (h:BC st as bs):BC st (.own id g m::as) (.sl (l.map vr)::bs)
 |val {v:AV} {as bs:List AV} (hv:simple v=true) (h:BC st as bs):BC st (v::as) (v::bs)
inductive BA (st:List Row):List AV->List AV->Prop
 |nil:BA st [] []
 |own {α:Type} {l:List α} {enc:α->List AV} {id g size m:Nat} {el:TypeId} {as bs:List AV} (hr:st[id]?=some ⟨g,el,size,l.map enc⟩) (hm:m=l.length) (hp :∀x,(enc x).all simple=true) (h:BA st as bs):BA st (.own id g m::as) (.sl (l.map enc)::bs)
 |ownD {α:Type} {l:List α} {enc vr:α->List AV} {id g size m:Nat} {el:TypeId} {as bs:List AV} (hr:st[id]?=some ⟨g,el,size,l.map enc⟩) (hm:m=l.length) (hp :∀x,(enc x).all E6=true) (hu :∀x,IQ (enc x)=vr x) (h:BA st as bs):BA st (.own id g m::as) (.sl (l.map vr)::bs)
 |agg {cs ds:List AV} {as bs:List AV} (hc:BC st cs ds) (h:BA st as bs):BA st (.agg cs::as) (.agg ds::bs)
 |val {v:AV} {as bs:List AV} (hv:flat v=true) (h:BA st as bs):BA st (v::as) (v::bs)
theorem Ty {v:AV}(h:simple v=true):UG st v=v:=by cases v<;>simp_all [simple,UG]
theorem BC.spec {as bs:List AV}(h:BC st as bs):as.map (UG st)=bs/\bs.all simple=true/\∀id g n,AV.own id g n∈as->∀row,st[id]?=some row->DF row.xs:=by
 induction h with
 |nil=>exact⟨rfl,rfl,by simp⟩
 |own hr hm hp h ih=>
  obtain⟨h1,h2,h3⟩:=ih;subst hm;refine⟨by rw[pc,fK hr (λx=>UY (hp x)),h1],by simp[simple,h2],λvH g' n' hx row tv=>?_⟩;rcases pK.1 hx with hx|hx
  .cases hx;rw[hr]at tv;cases tv;exact (Ai hp).any
  .exact h3 vH g' n' hx row tv
 |ownD hr hm hp hu h ih=>
  obtain⟨h1,h2,h3⟩:=ih;subst hm;refine⟨by rw[pc,fK hr hu,h1],by simp[simple,h2],λvH g' n' hx row tv=>?_⟩;rcases pK.1 hx with hx|hx
  .cases hx;rw[hr]at tv;cases tv;exact Ao hp
  .exact h3 vH g' n' hx row tv
 | @val v as bs hv h ih=>
  obtain⟨h1,h2,h3⟩:=ih;refine⟨by rw[pc,Ty hv,h1],by simp[hv,h2],λvH g' n' hx row tv=>?_⟩;rcases pK.1 hx with hx|hx
  .subst hx;simp[simple]at hv
  .exact h3 vH g' n' hx row tv
theorem BA.spec {as bs:List AV}(h:BA st as bs):as.map (ID st)=bs/\bs.all flat=true/\∀id g n,RJ as id g n->∀row,st[id]?=some row->DF row.xs:=by
 induction h with
 |nil=>exact⟨rfl,rfl,by rintro id g n (h|⟨_,h,_⟩)<;>simp at h⟩
 |own hr hm hp h ih=>
  obtain⟨h1,h2,h3⟩:=ih;subst hm;refine⟨by rw[pc,h1];congr 1;exact fK hr (λx=>UY (hp x)),by simp[flat,h2],λvH g' n' hx row tv=>?_⟩;rcases hx with hx|⟨cs,hx,vQ⟩
  .rcases pK.1 hx with hx|hx
   .cases hx;rw[hr]at tv;cases tv;exact (Ai hp).any
   .exact h3 vH g' n' (.inl hx) row tv
  .rcases pK.1 hx with hx|hx
   .cases hx
   .exact h3 vH g' n' (.inr ⟨cs,hx,vQ⟩) row tv
 |ownD hr hm hp hu h ih=>
  obtain⟨h1,h2,h3⟩:=ih;subst hm;refine⟨by rw[pc,h1];congr 1;exact fK hr hu,by simp[flat,h2],λvH g' n' hx row tv=>?_⟩;rcases hx with hx|⟨cs,hx,vQ⟩
  .rcases pK.1 hx with hx|hx
   .cases hx;rw[hr]at tv;cases tv;exact Ao hp
   .exact h3 vH g' n' (.inl hx) row tv
  .rcases pK.1 hx with hx|hx
   .cases hx
   .exact h3 vH g' n' (.inr ⟨cs,hx,vQ⟩) row tv
 |agg hc h ih=>
  obtain⟨h1,h2,h3⟩:=ih;obtain⟨g1,g2,g3⟩:=hc.spec;refine⟨by rw[pc,h1];simp only[ID,g1],by simp only[rQ,h2,sy];simpa [flat] using g2,λvH g' n' hx row tv=>?_⟩;rcases hx with hx|⟨cs,hx,vQ⟩
  .rcases pK.1 hx with hx|hx
   .cases hx
   .exact h3 vH g' n' (.inl hx) row tv
  .rcases pK.1 hx with hx|hx
   .cases hx;exact g3 vH g' n' vQ row tv
   .exact h3 vH g' n' (.inr ⟨cs,hx,vQ⟩) row tv
 | @val v as bs hv h ih=>
  obtain⟨h1,h2,h3⟩:=ih;have e1:ID st v=v:=by
   cases v<;>simp[flat]at hv<;>try rfl
   rename_i cs;simp only[ID];congr 1;exact (pf (g:=id) λc hc=>Ty (hv c hc)).trans (qn _)
  refine⟨by rw[pc,e1,h1],by simp[hv,h2],λvH g' n' hx row tv=>?_⟩;rcases hx with hx|⟨cs,hx,vQ⟩
  .rcases pK.1 hx with hx|hx
   .subst hx;simp[flat]at hv
   .exact h3 vH g' n' (.inl hx) row tv
  .rcases pK.1 hx with hx|hx
   .subst hx;have:=pG.1 (show cs.all simple=true from hv) _ vQ;simp[simple]at this
   .exact h3 vH g' n' (.inr ⟨cs,hx,vQ⟩) row tv
def Ph:List Row->Prop
 | []=>True
 |row::r=>(DF row.xs/\∀x∈row.xs,∀c∈x,OO c=true)/\Ph r
theorem Ph.get:∀{l:List Row},Ph l->∀row∈l,DF row.xs/\∀x∈row.xs,∀c∈x,OO c=true
 |row::r,h,yE,hm=>by
  rcases pK.1 hm with rfl|hm
  .exact h.1
  .exact Ph.get h.2 yE hm
theorem mz {g:Nat}(h :∀x,(enc x).all (λc=>E6 c&&OO c)=true)(hr:Ph rows):Ph (⟨g,el,size,l.map enc⟩::rows):=by
 refine⟨⟨λx hx c hc=>?_,λx hx c hc=>?_⟩,hr⟩ <;>
 .obtain⟨y,_,rfl⟩:=pQ.1 hx;have:=pG.1 (h y) c hc;simp only[pZ]at this;first|exact this.1|exact this.2
theorem mE {g:Nat}(h :∀x,(enc x).all (λc=>simple c&&OO c)=true)(hr:Ph rows):Ph (⟨g,el,size,l.map enc⟩::rows):=
 mz (λx=>pG.2 λc hc=>by
  have:=pG.1 (h x) c hc;simp only[pZ]at this⊢;exact⟨Py this.1,this.2⟩) hr
theorem Lw {as:List AV}(hg:GO ds gd e)(hb:Cq P f=true)(hc:BJ P f args [] λr st=>r=v/\st=rows)(ha:vI.toList.map (St.ev ⟨n,e,st⟩)++[]=as)(hba:BA st as args)(hsc:fN v=true)(hp:Ph rows)(hv:shift st.length v=v')(uV:st++rows=st')
  (hk:AO P k ops Q (ds++[d]) r (St.put ⟨n,e,st'⟩ d v')):AO P k ops Q ds (⟨d,.call ⟨.value (.func f),vI,ts⟩,ty,ps,ed,gd⟩::r) ⟨n,e,st⟩:=by
 subst hv;subst uV;subst ha;obtain⟨h1,h2,h3⟩:=hba.spec;refine NO hg ?_;rw[OE];refine⟨hb,Of (R:=λr st=>r=v/\st=rows) ?_ ?_ h3 ?_⟩
 .show BJ P f (List.map (ID st) _) [] _;rw[h1];exact hc
 .show (List.map (ID st) _).all flat=true;rw[h1];exact h2
 .rintro r st' ⟨rfl,rfl⟩;exact⟨⟨hsc,λrow tv=>(hp.get row tv).2⟩,λrow tv=>(hp.get row tv).1,hk⟩
theorem bc {as:List AV}{KS:St->Prop}{t:Tmp}(hg:GO ds gd e)(hb:Cq P f=true)(hc:BJ P f args [] λr st=>r=v/\st=[])(ha:vI.toList.map (St.ev ⟨n,e,st⟩)++[]=as)(hba:BA st as args)(hsc:fN v=true)(hv:shift st.length v=v')
  (hk:EK P (ds++[some t]) r KS ⟨n,DQ e t v',st⟩):EK P ds (⟨some t,.call ⟨.value (.func f),vI,ts⟩,ty,ps,ed,gd⟩::r) KS ⟨n,e,st⟩:=by
 subst hv;subst ha;obtain⟨h1,h2,h3⟩:=hba.spec;refine gv hg rfl (λs0 e1 e2 hd k F os a w hr next Q hn=>?_) hk;refine Lx (k:=k) (K:=(·=s0.put (some t) (shift st.length v))) hr hd ?_ hn;show Cq P f=true/\callThen P k s0 f (vI.toList.map s0.ev++[]) (some t) _;rw[Ts e2];refine⟨hb,?_⟩;subst e1;refine Of (R:=λr st'=>r=v/\st'=[]) ?_ ?_ h3 ?_
 .show BJ P f (List.map (ID s0.st) _) [] _;rw[h1];exact hc
 .show (List.map (ID s0.st) _).all flat=true;rw[h1];exact h2
 .rintro r st' ⟨rfl,rfl⟩;refine⟨⟨hsc,by simp⟩,by simp,?_⟩;rw[qR]
end
section
variable {P : Program} {k : Nat} {Q : Exit -> St -> Prop} {s s' : St} {x y c : Code}
theorem G0 {o:Operand}{b:Bool}(ho:s.ev o=.bool b)(h1:b=true->AW P k x Q s)(h2:b=false->AW P k y Q s):AW P k (.cond o x y) Q s:=
 AW.cond λK1 K2 e1 e2=>by rw[ho];exact⟨λh=>e1 (h1 h),λh=>e2 (h2 h)⟩
theorem An {σ:Type}(I:Nat->σ->Prop)(canon:σ->St)(n0:Nat)(v0:σ)(h0:I n0 v0)(hw:Wk k s (canon v0))(hz :∀v,¬ I 0 v)
  (round :∀n v,I (n+1) v->AW P k c (LQ (λs'=>∃v',I n v'/\Wk k s' (canon v')) Q) (canon v)):AW P k (.loop c) Q s:=by
 refine AG hw ?_;have key:∀n v,I n v->∀F os a w,Rel F os (canon v) a w->∀(b:Frame) (kk:List Item) (cs:List Frame),
   ∃e a' w',K0 k Q F os w e a' w'/\Arrives P (lone (b.at a (.code c::.inLoop c::kk)) cs w) b kk cs e a' w':=by
  intro n
  induction n with
  |zero=>intro v hI;exact absurd hI (hz v)
  |succ n ih=>
   intro v hI F os a w hr b kk cs;obtain⟨e,a₁,w₁,⟨s1,F1,vD,hq,hR1,hE1⟩,harr⟩:=round n v hI F os a w hr b (.inLoop c::kk) cs;cases e with
   |normal=>
    obtain⟨v2,hI2,hw2⟩:=hq;obtain⟨F2,os2,hR2,hE2⟩:=hw2 F1 vD a₁ w₁ hR1;obtain⟨e₂,a₂,w₂,hq₂,harr₂⟩:=ih v2 hI2 F2 os2 a₁ w₁ hR2 b kk cs;exact⟨e₂,a₂,w₂,hq₂.trans (hE1.trans hE2),.of_steps (Steps.trans harr (.one step_inLoop)) harr₂⟩
   |exit id=>exact⟨_,a₁,w₁,⟨s1,F1,vD,hq,hR1,hE1⟩,.pass (x:=.inLoop c) rfl (λ_ _=>.inl (by simp)) harr⟩
   |goto l=>exact⟨_,a₁,w₁,⟨s1,F1,vD,hq,hR1,hE1⟩,.pass (x:=.inLoop c) rfl (λ_ _=>.inl (by simp)) harr⟩
   |ret=>exact⟨_,a₁,w₁,⟨s1,F1,vD,hq,hR1,hE1⟩,.pass (x:=.inLoop c) rfl (λ_ _=>.inl (by simp)) harr⟩
   |panic ch=>exact⟨_,a₁,w₁,⟨s1,F1,vD,hq,hR1,hE1⟩,.pass (x:=.inLoop c) rfl (λ_ _=>.inl (by simp)) harr⟩
   |outgrown=>exact⟨_,a₁,w₁,⟨s1,F1,vD,hq,hR1,hE1⟩,.pass (x:=.inLoop c) rfl (λ_ _=>.inl (by simp)) harr⟩
 intro F os a w hr b kk cs;obtain⟨e,a',w',hq,harr⟩:=key n0 v0 h0 F os a w hr b kk cs;exact⟨e,a',w',hq,.of_steps (.one step_loop) harr⟩
end
end Go.Abs
