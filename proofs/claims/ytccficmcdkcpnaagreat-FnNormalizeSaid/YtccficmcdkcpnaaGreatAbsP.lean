import Derived.Test.YtccficmcdkcpnaaGreatAbsO
set_option linter.all false
namespace Go.Abs
open Go
def AQ (P:Program)(s:St)(op:Op)(v:AV):Prop:=∀K:AV->Prop,K v->Kw P s op K
def EL (st:List Row)(v:AV)(ys:List (List AV)):Prop:=∀K:List (List AV)->Prop,K ys->aJ st v K
section
variable {P : Program} {s : St} {x y z c : Operand} {v : AV} {t t' : TypeId} {kk : IntKind} {a b : Int} {p q : Bool}
theorem BO (h:s.ev x=v):AQ P s (.move x) v:=λK hk=>by show K (s.ev x);rw[h];exact hk
theorem VB (h:s.ev x=v):AQ P s (.assign x) v:=λK hk=>by show K (s.ev x);rw[h];exact hk
theorem ko {x y:AV}{K:AV->Prop}(h:K x):Rw (.bool true) x y K:=by
 cases x<;>cases y<;>first|exact h|exact⟨λ_=>h,λh=>by cases h⟩
theorem lL {x y:AV}{K:AV->Prop}(h:K y):Rw (.bool false) x y K:=by
 cases x<;>cases y<;>first|exact h|exact⟨λh=>(by cases h),λ_=>h⟩
theorem Gy (hc:s.ev c=.bool p)(hp:p=true)(hx:s.ev x=v):AQ P s (.pick c x y) v:=λK hk=>by
 show Rw (s.ev c) (s.ev x) (s.ev y) K;rw[hc,hp,hx];exact ko hk
theorem HE (hc:s.ev c=.bool p)(hp:p=false)(hy:s.ev y=v):AQ P s (.pick c x y) v:=λK hk=>by
 show Rw (s.ev c) (s.ev x) (s.ev y) K;rw[hc,hp,hy];exact lL hk
variable (hx : s.ev x = .int kk a) (hy : s.ev y = .int kk b)
include hx hy
theorem I9 {op:BinOp}(h :∀K:AV->Prop,K v->bx op kk a b K):AQ P s (.binOp op t x y t') v:=λK hk=>by
 show XC P t op (s.ev x) (s.ev y) K;rw[hx,hy];exact⟨rfl,h K hk⟩
theorem ka:AQ P s (.binOp .add t x y t') (.int kk (Sh.wk kk (a+b))):=I9 hx hy λ_ hk=>hk
theorem jh:AQ P s (.binOp .sub t x y t') (.int kk (Sh.wk kk (a-b))):=I9 hx hy λ_ hk=>hk
theorem kf:AQ P s (.binOp .mul t x y t') (.int kk (Sh.wk kk (a*b))):=I9 hx hy λ_ hk=>hk
theorem UK {q:Int}(h:Sh.rem a b=some q):AQ P s (.binOp .rem t x y t') (.int kk q):=I9 hx hy λ_ hk=>by
 obtain⟨h1,rfl⟩:=Sh.iA h;exact⟨h1,hk⟩
theorem fR:AQ P s (.binOp .lss t x y t') (.bool (decide (a<b))):=I9 hx hy λ_ hk=>hk
theorem oH:AQ P s (.binOp .leq t x y t') (.bool (decide (a<=b))):=I9 hx hy λ_ hk=>hk
theorem nR:AQ P s (.binOp .gtr t x y t') (.bool (decide (b<a))):=I9 hx hy λ_ hk=>hk
theorem nk:AQ P s (.binOp .geq t x y t') (.bool (decide (b<=a))):=I9 hx hy λ_ hk=>hk
theorem oN:AQ P s (.binOp .eql t x y t') (.bool (decide (a=b))):=I9 hx hy λ_ hk=>hk
theorem nd:AQ P s (.binOp .neq t x y t') (.bool (!decide (a=b))):=I9 hx hy λ_ hk=>hk
end
section
variable {P : Program} {s : St} {x y z c : Operand} {v : AV} {t t' : TypeId} {kk : IntKind} {a b : Int} {p q : Bool}
variable (hx : s.ev x = i64 a) (hy : s.ev y = i64 b)
include hx hy
theorem UP:AQ P s (.binOp .add t x y t') (i64 (Sh.w (a+b))):=I9 hx hy λ_ hk=>hk
theorem Qk:AQ P s (.binOp .sub t x y t') (i64 (Sh.w (a-b))):=I9 hx hy λ_ hk=>hk
theorem ma:AQ P s (.binOp .mul t x y t') (i64 (Sh.w (a*b))):=I9 hx hy λ_ hk=>hk
theorem ln:AQ P s (.binOp .xor t x y t') (i64 (Sh.xor a b)):=I9 hx hy λ_ hk=>hk
theorem XY {q:Int}(h:Sh.quo a b=some q):AQ P s (.binOp .quo t x y t') (i64 q):=I9 hx hy λ_ hk=>by
 obtain⟨h1,rfl⟩:=Sh.jX h;exact⟨h1,hk⟩
theorem XA (h:b≠0):AQ P s (.binOp .quo t x y t') (i64 (Sh.w (a.tdiv b))):=I9 hx hy λ_ hk=>⟨h,hk⟩
end
section
variable {P : Program} {s : St} {x y z c : Operand} {v : AV} {t t' : TypeId} {kk yr : IntKind} {a b : Int} {p q ag : Bool} {id g i off yc f size sz bytes m j : Nat} {cs vs : List AV} {xs : List (List AV)} {el : TypeId}
theorem mT (ht:P4 P t=true)(hx:s.ev x=.bool p)(hy:s.ev y=.bool q):AQ P s (.binOp .eql t x y t') (.bool (p==q)):=λK hk=>by
 show XC P t .eql (s.ev x) (s.ev y) K;rw[hx,hy];exact⟨ht,hk⟩
theorem lT (ht:P4 P t=true)(hx:s.ev x=.bool p)(hy:s.ev y=.bool q):AQ P s (.binOp .neq t x y t') (.bool (p != q)):=λK hk=>by
 show XC P t .neq (s.ev x) (s.ev y) K;rw[hx,hy];exact⟨ht,hk⟩
theorem mG (hx:s.ev x=.bool p):AQ P s (.unOp .not t x) (.bool (!p)):=λK hk=>by
 show iE .not (s.ev x) K;rw[hx];exact hk
theorem mL (hx:s.ev x=i64 a):AQ P s (.unOp .neg t x) (i64 (Sh.w (-a))):=λK hk=>by
 show iE .neg (s.ev x) K;rw[hx];exact hk
def fX (P:Program)(src dst:TypeId):Option IntKind:=
 match P.underlying src,P.underlying dst with
 | some _,some (.int k)=>some k
 | _,_=>none
theorem eX (hc:fX P t t'=some yr)(hx:s.ev x=.int kk a):AQ P s (.convert t t' x) (.int yr (Sh.wk yr a)):=λK hk=>by
 show Xa P t t' (s.ev x) K;rw[hx];unfold fX at hc;unfold Xa;split at hc
 ·rename_i h1 h2;simp only[pz]at hc;subst hc;simp only[h1,h2];exact hk
 ·cases hc
theorem oL (hx:s.ev x=.Dv vs)(hv:vs[i]?=some v):AQ P s (.extract x i) v:=λK hk=>by
 show Sm (s.ev x) i K;rw[hx];exact An v hv hk
theorem nH {fn:FuncId}{vp:Array Operand}(hc:vp.toList.map s.ev=cs):AQ P s (.makeFunc (.func fn) #[] vp) (.fn fn cs):=λK hk=>by
 subst hc;exact .inl ⟨rfl,hk⟩
theorem JA (ht:De P t=some (false,sz))(hx:s.ev x=.CT cs off)(hv:cs[off]?=some v):AQ P s (.load t x) v:=λK hk=>by
 show SA P s.st t (s.ev x) K;rw[hx];exact An _ ht (An v hv hk)
theorem Ir (ht:De P t=some (true,sz))(hx:s.ev x=.CT cs off)(hl:off+sz<=cs.length)(hv:(cs.drop off).take sz=vs):AQ P s (.load t x) (.agg vs):=λK hk=>by
 show SA P s.st t (s.ev x) K;rw[hx];subst hv;exact An _ ht ⟨hl,hk⟩
theorem CL (ht:De P t=some (false,sz))(hx:s.ev x=.ptr id g i off)(hr:s.st[id]?=some ⟨g,el,size,xs⟩)(hi:xs[i]?=some cs)(hv:cs[off]?=some v):AQ P s (.load t x) v:=λK hk=>by
 show SA P s.st t (s.ev x) K;rw[hx];exact An _ ht (An _ hr ⟨rfl,An cs hi (An v hv hk)⟩)
theorem DD (ht:De P t=some (true,sz))(hx:s.ev x=.ptr id g i off)(hr:s.st[id]?=some ⟨g,el,size,xs⟩)(hi:xs[i]?=some cs)(hl:off+sz<=cs.length)(hv:(cs.drop off).take sz=vs):AQ P s (.load t x) (.agg vs):=λK hk=>by
 show SA P s.st t (s.ev x) K;rw[hx];subst hv;exact An _ ht (An _ hr ⟨rfl,An cs hi ⟨hl,hk⟩⟩)
theorem Je (hf:HH P t f=some j)(hx:s.ev x=.CT cs off)(ho:off+j=yc):AQ P s (.fieldAddr t x f) (.CT cs yc):=λK hk=>by
 show Nh P t (s.ev x) f s.st K;rw[hx];subst ho;exact An _ hf hk
theorem FR (hf:HH P t f=some j)(hx:s.ev x=.ptr id g i off)(hr:s.st[id]?=some ⟨g,el,size,xs⟩)(hl:off+j<=size)(ho:off+j=yc):AQ P s (.fieldAddr t x f) (.ptr id g i yc):=λK hk=>by
 show Nh P t (s.ev x) f s.st K;rw[hx];subst ho;exact An _ hf (An _ hr ⟨rfl,hl,hk⟩)
def U7 (P:Program)(t:TypeId)(f:Nat):Option (Nat×Bool×Nat):=
 match P.underlying t with
 | some (.struct fs)=>match fs[f]? with
  | some g=>match De P g.type with
   | some ti=>some (g.offset,ti)
   | none=>none
  | none=>none
 | _=>none
theorem X1 {f o:Nat}{ti:Bool×Nat}{K:AV->Prop}(h:U7 P t f=some (o,ti))(hk:ND ti.1 ti.2 cs o K):PJ P t (.agg cs) f K:=by
 unfold U7 at h;unfold PJ;split at h
 ·rename_i fs hu;split at h
  ·rename_i gg hg;split at h
   ·rename_i ti' ht;simp only[pz,rL]at h;obtain⟨rfl,rfl⟩:=h;rw[hu];exact An _ hg (An _ ht hk)
   ·cases h
  ·cases h
 ·cases h
theorem nO (hf:U7 P t f=some (off,false,sz))(hx:s.ev x=.agg cs)(hv:cs[off]?=some v):AQ P s (.field t x f) v:=λK hk=>by
 show PJ P t (s.ev x) f K;rw[hx];exact X1 hf (An v hv hk)
theorem lY (hf:U7 P t f=some (off,true,sz))(hx:s.ev x=.agg cs)(hl:off+sz<=cs.length)(hv:(cs.drop off).take sz=vs):AQ P s (.field t x f) (.agg vs):=λK hk=>by
 show PJ P t (s.ev x) f K;rw[hx];subst hv;exact X1 hf ⟨hl,hk⟩
variable {α : Type} {l l' : List α} {enc : α -> List AV} {n : Int} {zz : List AV} {u : α}
theorem CM (h:Sh.get l n=some u):(l.map enc)[n.toNat]?=some (enc u):=by
 rw[qA,(Sh.get_some h).2.1];rfl
theorem Sc (he:DR P t=some ⟨el,size,bytes,zz⟩)(hx:s.ev x=.sl (l.map enc))(hy:s.ev y=.int kk n)(hg:Sh.get l n=some u)(hs:(enc u).length=size):AQ P s (.indexAddr t x y) (.CT (enc u) 0):=λK hk=>by
 show MD P s.st t (s.ev x) (s.ev y) K;rw[hx,hy];exact An _ he ⟨(Sh.get_some hg).1,An _ (CM hg) ⟨hs,hk⟩⟩
theorem gn (he:DR P t=some ⟨el,size,bytes,zz⟩)(hx:s.ev x=.own id g m)(hy:s.ev y=.int kk n)(hr:s.st[id]?=some ⟨g,el,size,l.map enc⟩)(hm:m=l.length)(hg:Sh.get l n=some u):
  AQ P s (.indexAddr t x y) (.ptr id g n.toNat 0):=λK hk=>by
 show MD P s.st t (s.ev x) (s.ev y) K;rw[hx,hy];subst hm;exact An _ he ⟨(Sh.get_some hg).1,(Sh.get_some hg).2.2,An _ hr ⟨rfl,rfl,by simpa using hk⟩⟩
theorem By (hs:DB P t=true)(hx:s.ev x=.sl (l.map enc)):AQ P s (.call ⟨.builtin .len,#[x],#[t]⟩) (i64 (Sh.len l)):=λK hk=>by
 refine⟨hs,?_⟩;rw[hx];simp only[fh,qc];exact hk
theorem C9 (hs:DB P t=true)(hx:s.ev x=.own id g m)(hr:s.st[id]?=some ⟨g,el,size,l.map enc⟩)(hm:m=l.length):AQ P s (.call ⟨.builtin .len,#[x],#[t]⟩) (i64 (Sh.len l)):=λK hk=>by
 refine⟨hs,?_⟩;subst hm;rw[hx];exact An _ hr ⟨rfl,hk⟩
theorem cW (hs:DB P t=true)(hx:s.ev x=.zc):AQ P s (.call ⟨.builtin .len,#[x],#[t]⟩) (i64 0):=λK hk=>by
 refine⟨hs,?_⟩;rw[hx];exact hk
theorem mQ (hx:s.ev x=.ptr id g i off)(hr:s.st[id]?=some ⟨g,el,size,xs⟩):AQ P s (.nilCheck x) (.ptr id g i off):=λK hk=>by
 show Zs s.st (s.ev x) K;rw[hx];exact An _ hr ⟨rfl,hk⟩
theorem mK (hx:s.ev x=.CT cs off):AQ P s (.nilCheck x) (.CT cs off):=λK hk=>by
 show Zs s.st (s.ev x) K;rw[hx];exact hk
theorem DA {parts:Array (Nat×Operand)}{fs:List (Nat×Nat)}{pv:List (Nat×AV)}(ha:HM P t=true)(hf:Ig P t=some fs)(hz:HN P t=some zz)(hp:(parts.toList.map λp=>(p.1,s.ev p.2))=pv)(hc:NF (fs[·]?) zz pv=some cs):
  AQ P s (.build t parts) (.agg cs):=λK hk=>by
 show bH P t (parts.toList.map λp=>(p.1,s.ev p.2)) K;rw[hp];exact⟨ha,An _ hf (An _ hz (An _ hc hk))⟩
variable {st : List Row} {ys : List (List AV)}
theorem N8:EL st (.sl ys) ys:=λ_ hk=>hk
theorem E8 (hr:st[id]?=some ⟨g,el,size,l.map enc⟩)(hm:m=l.length)(vw :∀x,(enc x).all AV.leaf=true:=by exact λ_=>rfl):EL st (.own id g m) (l.map enc):=λK hk=>by
 subst hm;refine An _ hr ⟨rfl,λy hy c hc=>?_,?_⟩
 ·obtain⟨x,_,rfl⟩:=qT.1 hy;exact qC.1 (vw x) c hc
 rw[<- qc (f:=enc) (as:=l),ri];exact⟨rfl,hk⟩
end
section
variable {P : Program} {k : Nat} {ops : Array Oper} {Q : Exit -> St -> Prop} {ds : List (Option Tmp)} {r : List Oper} {n : Nat} {e : Nat -> AV} {st st' : List Row} {op : Op} {ty : TypeId} {ps : String} {ed : Array Edge} {d : Option Tmp} {t : Tmp} {v v' : AV}
variable {jj : Nat} {want b : Bool} {tg : Tmp} {gd : Option (Nat × Bool)}
def GO (ds:List (Option Tmp))(gd:Option (Nat×Bool))(e:Nat->AV):Prop:=
 match gd with
 | none=>True
 | some (jj,want)=>∃tg,ds[jj]?=some (some tg)/\e tg=.bool want
theorem AT:GO ds none e:=pw
theorem GF (hj:ds[jj]?=some (some tg))(ht:e tg=.bool b)(hb:b=want):GO ds (some (jj,want)) e:=⟨tg,hj,by rw[ht,hb]⟩
theorem GO.guard {A B:Prop}(hg:GO ds gd e)(h:A):KL ds ⟨d,op,ty,ps,ed,gd⟩ ⟨n,e,st⟩ A B:=by
 unfold GO at hg;unfold KL;cases gd with
 | none=>exact h
 | some q=>
  obtain⟨jj,want⟩:=q;obtain⟨tg,hj,ht⟩:=hg;simp only[hj,ht,dD];exact⟨λ_=>h,λhh=>absurd rfl hh⟩
theorem DY (hg:GO ds gd e)(hl:Kx op=false)(hq:AQ P ⟨n,e,st⟩ op v)(hk:AO P k ops Q (ds++[some t]) r ⟨n,Dr e t v,st⟩):AO P k ops Q ds (⟨some t,op,ty,ps,ed,gd⟩::r) ⟨n,e,st⟩:=by
 refine Q1 (hg.guard ?_);unfold NG;simp only[hl,py,qR];exact hq _ hk
theorem PX (hg:GO ds gd e)(h:NG P k ⟨d,op,ty,ps,ed,gd⟩ ⟨n,e,st⟩ (AO P k ops Q (ds++[d]) r)):AO P k ops Q ds (⟨d,op,ty,ps,ed,gd⟩::r) ⟨n,e,st⟩:=
 Q1 (hg.guard h)
theorem lO (hj:ds[jj]?=some (some tg))(ht:e tg=.bool b)(hb:b=!want)(h:AO P k ops Q (ds++[some t]) r ⟨n,Dr e t .un,st⟩):AO P k ops Q ds (⟨some t,op,ty,ps,ed,some (jj,want)⟩::r) ⟨n,e,st⟩:=by
 refine Q1 ?_;subst hb;simp only[KL,hj,ht,dD];exact⟨λh=>(by cases want<;>cases h),λ_=>h⟩
theorem lJ (hj:ds[jj]?=some (some tg))(ht:e tg=.un)(h:AO P k ops Q (ds++[some t]) r ⟨n,Dr e t .un,st⟩):AO P k ops Q ds (⟨some t,op,ty,ps,ed,some (jj,want)⟩::r) ⟨n,e,st⟩:=by
 refine Q1 ?_;simp only[KL,hj,ht,dD];exact h
variable {KS : St -> Prop}
theorem I7 (hg:GO ds gd e)(hl:Kx op=false)(hq:AQ P ⟨n,e,st⟩ op v)(hk:Dp P (ds++[some t]) r KS ⟨n,Dr e t v,st⟩):Dp P ds (⟨some t,op,ty,ps,ed,gd⟩::r) KS ⟨n,e,st⟩:=by
 refine hg.guard ?_;unfold My;simp only[hl,py,qR];exact hq _ hk
theorem eW (hg:GO ds gd e)(hl:Kx op=true)(hq :∀s0:St,s0.st=st->(∀x∈op.operands,s0.ev x=St.ev ⟨n,e,st⟩ x)->DG s0.n (some t)=true->Yl P ⟨some t,op,ty,ps,ed,gd⟩ s0 v)(hk:Dp P (ds++[some t]) r KS ⟨n,Dr e t v,st⟩):Dp P ds (⟨some t,op,ty,ps,ed,gd⟩::r) KS ⟨n,e,st⟩:=by
 refine hg.guard ?_;unfold My;simp only[hl,qe];exact⟨v,hq,hk⟩
theorem mA (hj:ds[jj]?=some (some tg))(ht:e tg=.bool b)(hb:b=!want)(h:Dp P (ds++[some t]) r KS ⟨n,Dr e t .un,st⟩):Dp P ds (⟨some t,op,ty,ps,ed,some (jj,want)⟩::r) KS ⟨n,e,st⟩:=by
 subst hb;simp only[Dp,KL,hj,ht,dD];exact⟨λh=>(by cases want<;>cases h),λ_=>h⟩
theorem Ao {s:St}(h:KS s):Dp P ds [] KS s:=h
theorem Uv {vf:Array Operand}{f:FuncId}{ts:Array TypeId}{s0 s1:St}(h :∀x∈(Op.call ⟨.value (.func f),vf,ts⟩).operands,s0.ev x=s1.ev x):vf.toList.map s0.ev=vf.toList.map s1.ev:=
 qk λx hx=>h x (by simp[Op.operands,Call.operands];right;simpa using hx)
theorem Ls {f:FuncId}{vf:Array Operand}{ts:Array TypeId}{args:List AV}(hg:GO ds gd e)(hb:Cr P f=true)(hc:BS P f args [] λr st=>r=v/\st=[])(ha:vf.toList.map (St.ev ⟨n,e,st⟩)++[]=args)(hf:args.all flat=true)(hv:flat v=true)
  (hk:Dp P (ds++[some t]) r KS ⟨n,Dr e t v,st⟩):Dp P ds (⟨some t,.call ⟨.value (.func f),vf,ts⟩,ty,ps,ed,gd⟩::r) KS ⟨n,e,st⟩:=by
 refine eW hg rfl (λs0 e1 e2 hd k F os a w hr next Q hn=>?_) hk;refine Mo (k:=k) (K:=(·=s0.put (some t) v)) hr hd ?_ hn;show Cr P f=true/\callThen P k s0 f (vf.toList.map s0.ev++[]) (some t) _;rw[Uv e2,ha];exact⟨hb,Wp hc hf hv rfl⟩
variable {α : Type} {l l' l2 : List α} {enc : α -> List AV} {kk yr : IntKind} {j : Int} {el T : TypeId} {size bytes sz id g i m off : Nat} {zz cs us : List AV} {x y : Operand} {xs : List (List AV)} {ag : Bool} {u u' : α}
theorem Vu (hg:GO ds gd e)(hz:HN P T=some zz)(hm:st.length=m)(vX:st++[⟨0,T,zz.length,[zz]⟩]=st')(hk:AO P k ops Q (ds++[some t]) r ⟨n,Dr e t (.ptr m 0 0 0),st'⟩):AO P k ops Q ds (⟨some t,.alloc T,ty,ps,ed,gd⟩::r) ⟨n,e,st⟩:=by
 subst hm;subst vX;exact PX hg (An _ hz hk)
theorem mW (hg:GO ds gd e)(hx:St.ev ⟨n,e,st⟩ x=v)(hc:Lo v=some cs)(vZ:cs.isEmpty=false)(hm:st.length=m)(vX:st++[⟨0,T,cs.length,[cs]⟩]=st')(hk:AO P k ops Q (ds++[some t]) r ⟨n,Dr e t (.ptr m 0 0 0),st'⟩):AO P k ops Q ds (⟨some t,.box T x,ty,ps,ed,gd⟩::r) ⟨n,e,st⟩:=by
 subst hm;subst vX;subst hx;exact PX hg (An _ hc ⟨(by intro h;rw[h]at vZ;cases vZ),hk⟩)
theorem Sb (hg:GO ds gd e)(ht:De P T=some (ag,sz))(hx:St.ev ⟨n,e,st⟩ x=.ptr id g i off)(hr:st[id]?=some ⟨g,el,size,xs⟩)(hi:xs[i]?=some zz)(hv:St.ev ⟨n,e,st⟩ y=v)(hc:Lo v=some cs)(hn:cs.length=sz)(hle:off+cs.length<=size)
  (vX:st.set id ⟨g,el,size,xs.set i (IK zz off cs)⟩=st') (hk:AO P k ops Q (ds++[none]) r ⟨n,e,st'⟩):AO P k ops Q ds (⟨none,.store T x y,ty,ps,ed,gd⟩::r) ⟨n,e,st⟩:=by
 subst vX;subst hv;refine PX hg ?_;rw[iz,hx];exact An _ ht (An _ hr ⟨rfl,An _ hi (An _ hc ⟨hn,hle,hk⟩)⟩)
theorem kW {j:Int}:(l.map enc).set j.toNat (enc u)=(Sh.put l j u).map enc:=by simp[Sh.put,rh]
theorem Ll (hg:GO ds gd e)(ht:De P T=some (ag,sz))(hx:St.ev ⟨n,e,st⟩ x=.ptr id g j.toNat off)(hr:st[id]?=some ⟨g,el,size,l.map enc⟩)(hi:Sh.get l j=some u)(hv:St.ev ⟨n,e,st⟩ y=v)(hc:Lo v=some cs)(hn:cs.length=sz)(hle:off+cs.length<=size)
  (hsp:IK (enc u) off cs=enc u') (vX:st.set id ⟨g,el,size,(Sh.put l j u').map enc⟩=st') (hk:AO P k ops Q (ds++[none]) r ⟨n,e,st'⟩):AO P k ops Q ds (⟨none,.store T x y,ty,ps,ed,gd⟩::r) ⟨n,e,st⟩:=
 Sb hg ht hx hr (CM hi) hv hc hn hle (by rw[hsp,kW];exact vX) hk
theorem XP (hg:GO ds gd e)(he:DR P T=some ⟨el,size,bytes,zz⟩)(hx:St.ev ⟨n,e,st⟩ x=.int kk j)(hy:St.ev ⟨n,e,st⟩ y=.int yr j)(hz:enc u=zz)(hl:Sh.mk u j bytes=some l)(hm:st.length=m)(vX:st++[⟨0,el,size,l.map enc⟩]=st')
  (hk:AO P k ops Q (ds++[some t]) r ⟨n,Dr e t (.own m 0 l.length),st'⟩):AO P k ops Q ds (⟨some t,.makeSlice T x y,ty,ps,ed,gd⟩::r) ⟨n,e,st⟩:=by
 subst hm;subst vX;subst hz;refine PX hg ?_;rw[Yv];unfold Sh.mk at hl;split at hl
 ·rename_i h;simp only[pz]at hl;subst hl;rw[hx,hy];simp only[tT,List.length_replicate]at hk;exact An _ he ⟨rfl,h.1,h.2.1,h.2.2,hk⟩
 ·cases hl
theorem MN {len:Nat}{parts:Array (Nat×Operand)}{pv:List (Nat×AV)}(hg:GO ds gd e)(he:DR P T=some ⟨el,size,bytes,zz⟩)(hle:len*size<=16777216)(hp:(parts.toList.map λp=>(p.1,St.ev ⟨n,e,st⟩ p.2))=pv)
  (hc:NF (λi=>some (i*size,size)) ((List.replicate len zz).flatten) pv=some cs) (hck:chunk size len cs=l.map enc) (hln:len=l.length) (hm:st.length=m) (vX:st++[⟨0,el,size,l.map enc⟩]=st') (hk:AO P k ops Q (ds++[some t]) r ⟨n,Dr e t (.own m 0 l.length),st'⟩) :
  AO P k ops Q ds (⟨some t,.buildSlice T len parts,ty,ps,ed,gd⟩::r) ⟨n,e,st⟩:=by
 subst hm;subst vX;subst hln;refine PX hg ?_;rw[Xd,hp];exact An _ he ⟨hle,An _ hc (by rw[hck];exact hk)⟩
theorem Fx {ys:AV}(hg:GO ds gd e)(he:DR P T=some ⟨el,size,bytes,zz⟩)(hx:St.ev ⟨n,e,st⟩ x=.own id g m)(hr:st[id]?=some ⟨g,el,size,l.map enc⟩)(hm:m=l.length)(hy:St.ev ⟨n,e,st⟩ y=ys)(hel:EL st ys (l2.map enc))(hs :∀a,(enc a).length=size)(ha:Sh.app l l2 bytes=some l')
  (vX:st.set id ⟨g+1,el,size,l'.map enc⟩=st') (hk:AO P k ops Q (ds++[some t]) r ⟨n,Dr e t (.own id (g+1) l'.length),st'⟩):AO P k ops Q ds (⟨some t,.call ⟨.builtin .append,#[x,y],#[T,T]⟩,ty,ps,ed,gd⟩::r) ⟨n,e,st⟩:=by
 subst vX;subst hy;subst hm;refine PX hg ?_;rw[fD];refine⟨rfl,?_⟩;rw[hx];unfold Sh.app at ha;split at ha
 ·rename_i h;simp only[pz]at ha;subst ha;refine An _ he (hel _ ⟨λz hz=>?_,An _ hr ⟨rfl,(qc _).symm,rfl,rfl,by simpa using h.1,by simpa using h.2,?_⟩⟩)
  ·obtain⟨q,_,rfl⟩:=qT.1 hz;exact hs q
  ·have e1:(l.map enc).take l.length=l.map enc:=by rw[<- qc (f:=enc) (as:=l),ri]
   have e2:l.length+(l2.map enc).length=(l++l2).length:=by simp
   simp only[e1,e2,<- rM];exact hk
 ·cases ha
theorem fk {hop:Operand}(hg:GO ds gd e)(he:DR P T=some ⟨el,size,bytes,zz⟩)(hx:St.ev ⟨n,e,st⟩ x=.own id g m)(hr:st[id]?=some ⟨g,el,size,l.map enc⟩)(hm:m=l.length)(hh:St.ev ⟨n,e,st⟩ hop=.int kk j)(hl:Sh.hi l j=some l')
  (vX:st.set id ⟨g+1,el,size,l'.map enc⟩=st') (hk:AO P k ops Q (ds++[some t]) r ⟨n,Dr e t (.own id (g+1) l'.length),st'⟩):AO P k ops Q ds (⟨some t,.slice T x none (some hop) none,ty,ps,ed,gd⟩::r) ⟨n,e,st⟩:=by
 subst vX;subst hm;refine PX hg ?_;rw[VC];simp only[qx,tq];rw[hx,hh];unfold Sh.hi at hl;split at hl
 ·rename_i h;simp only[pz]at hl;subst hl;refine An _ he (An _ hr ⟨rfl,(qc _).symm,rfl,An _ rfl ⟨h.1,h.2,?_⟩⟩);have e1:(l.take j.toNat).length=j.toNat:=by rw[sM];omega
  rw[e1,List.map_take]at hk;exact hk
 ·cases hl
theorem Sd {lo hi:Option Operand}{i j:Int}(hg:GO ds gd e)(he:DR P T=some ⟨el,size,bytes,zz⟩)(hx:St.ev ⟨n,e,st⟩ x=.sl (l.map enc))(h1:Vi (lo.map (St.ev ⟨n,e,st⟩)) 0=some i)(h2:Vi (hi.map (St.ev ⟨n,e,st⟩)) l.length=some j)(hs :∀a,(enc a).length=size)(hl:Sh.sl l i j=some l')
  (hk:AO P k ops Q (ds++[some t]) r ⟨n,Dr e t (.sl (l'.map enc)),st⟩):AO P k ops Q ds (⟨some t,.slice T x lo hi none,ty,ps,ed,gd⟩::r) ⟨n,e,st⟩:=by
 refine PX hg ?_;rw[VC];simp only[tq];rw[hx];unfold Sh.sl at hl;split at hl
 ·rename_i h;simp only[pz]at hl;subst hl;refine An _ he (An _ h1 (An _ (by rw[qc];exact h2) ⟨h.1,h.2.1,by simpa using h.2.2,λz hz=>?_,?_⟩))
  ·obtain⟨q,_,rfl⟩:=qT.1 hz;exact hs q
  ·rw[List.map_drop,List.map_take]at hk;exact hk
 ·cases hl
theorem Wy (hg:GO ds gd e)(hs:DB P T=true)(hx:St.ev ⟨n,e,st⟩ x=.sl (l.map enc))(h1:l=[]->AO P k ops Q (ds++[some t]) r ⟨n,Dr e t (.bool true),st⟩)(h2:AO P k ops Q (ds++[some t]) r ⟨n,Dr e t (.bool false),st⟩){yT:TypeId}:
  AO P k ops Q ds (⟨some t,.binOp .eql T x (.const (.slice none 0 0)) yT,ty,ps,ed,gd⟩::r) ⟨n,e,st⟩:=by
 refine PX hg ?_;rw[cZ];refine⟨hs,?_⟩;rw[hx];exact⟨λh=>h1 (List.map_eq_nil_iff.1 h),h2⟩
def Vf:List Row->Prop
 | []=>True
 | row::r=>DO row.xs/\Vf r
theorem Vf.get:∀{l:List Row},Vf l->∀row∈l,DO row.xs
 | row::r,h,yb,hm=>by
  rcases qH.1 hm with rfl|hm
  ·exact h.1
  ·exact Vf.get h.2 yb hm
variable {f : FuncId} {vf : Array Operand} {ts : Array TypeId} {args : List AV} {rows : List Row} {s : St}
theorem HZ (hg:GO ds gd e)(hb:Cr P f=true)(hc:BS P f args [] λr st=>r=v/\st=rows)(ha:vf.toList.map (St.ev ⟨n,e,st⟩)++[]=args)(hf:args.all flat=true)(hp:Vf rows)(hv:shift st.length v=v')(vX:st++rows=st')
  (hk:AO P k ops Q (ds++[d]) r (St.put ⟨n,e,st'⟩ d v')):AO P k ops Q ds (⟨d,.call ⟨.value (.func f),vf,ts⟩,ty,ps,ed,gd⟩::r) ⟨n,e,st⟩:=by
 subst hv;subst vX;subst ha;refine PX hg ?_;rw[Ps];refine⟨hb,YC hc hf ?_⟩;rintro r st' ⟨rfl,rfl⟩;exact⟨hp.get,hk⟩
theorem gR {g:Nat}{xD:α->List AV}(hr:st[id]?=some ⟨g,el,size,l.map enc⟩)(hu :∀x,LI (enc x)=xD x):Up st (.own id g l.length)=.sl (l.map xD):=by
 simp only[Up,hr,qe];rw[<- qc (f:=enc) (as:=l),sK,rG,JD,ra];congr 1;exact qk λx _=>hu x
theorem U2 {cs:List AV}(h:cs.all simple=true):LI cs=cs:=by
 rw[QH];exact (qk (g:=id) λc hc=>Vz (qC.1 h c hc)).trans (rZ _)
inductive BC (st:List Row):List AV->List AV->Prop
 | nil:BC st [] []
 | own {α:Type} {l:List α} {enc:α->List AV} {id g size m:Nat} {el:TypeId} {as bs:List AV} (hr:st[id]?=some ⟨g,el,size,l.map enc⟩) (hm:m=l.length) (hp :∀x,(enc x).all simple=true) (h:BC st as bs):BC st (.own id g m::as) (.sl (l.map enc)::bs)
 | ownD {α:Type} {l:List α} {enc xD:α->List AV} {id g size m:Nat} {el:TypeId} {as bs:List AV} (hr:st[id]?=some ⟨g,el,size,l.map enc⟩) (hm:m=l.length) (hp :∀x,(enc x).all Ey=true) (hu :∀x,LI (enc x)=xD x) (h:BC st as bs):BC st (.own id g m::as) (.sl (l.map xD)::bs)
 | val {v:AV} {as bs:List AV} (hv:simple v=true) (h:BC st as bs):BC st (v::as) (v::bs)
inductive BA (st:List Row):List AV->List AV->Prop
 | nil:BA st [] []
 | own {α:Type} {l:List α} {enc:α->List AV} {id g size m:Nat} {el:TypeId} {as bs:List AV} (hr:st[id]?=some ⟨g,el,size,l.map enc⟩) (hm:m=l.length) (hp :∀x,(enc x).all simple=true) (h:BA st as bs):BA st (.own id g m::as) (.sl (l.map enc)::bs)
 | ownD {α:Type} {l:List α} {enc xD:α->List AV} {id g size m:Nat} {el:TypeId} {as bs:List AV} (hr:st[id]?=some ⟨g,el,size,l.map enc⟩) (hm:m=l.length) (hp :∀x,(enc x).all Ey=true) (hu :∀x,LI (enc x)=xD x) (h:BA st as bs):BA st (.own id g m::as) (.sl (l.map xD)::bs)
 | agg {cs ds:List AV} {as bs:List AV} (hc:BC st cs ds) (h:BA st as bs):BA st (.agg cs::as) (.agg ds::bs)
 | val {v:AV} {as bs:List AV} (hv:flat v=true) (h:BA st as bs):BA st (v::as) (v::bs)
theorem UE {v:AV}(h:simple v=true):Up st v=v:=by cases v<;>simp_all [simple,Up]
theorem BC.spec {as bs:List AV}(h:BC st as bs):as.map (Up st)=bs/\bs.all simple=true/\∀id g n,AV.own id g n∈as->∀row,st[id]?=some row->DO row.xs:=by
 induction h with
 | nil=>exact⟨rfl,rfl,by simp⟩
 | own hr hm hp h ih=>
  obtain⟨h1,h2,h3⟩:=ih;subst hm;refine⟨by rw[qj,gR hr (λx=>U2 (hp x)),h1],by simp[simple,h2],λvr g' n' hx row uj=>?_⟩;rcases qH.1 hx with hx|hx
  ·cases hx;rw[hr]at uj;cases uj;exact (AM hp).any
  ·exact h3 vr g' n' hx row uj
 | ownD hr hm hp hu h ih=>
  obtain⟨h1,h2,h3⟩:=ih;subst hm;refine⟨by rw[qj,gR hr hu,h1],by simp[simple,h2],λvr g' n' hx row uj=>?_⟩;rcases qH.1 hx with hx|hx
  ·cases hx;rw[hr]at uj;cases uj;exact Tm hp
  ·exact h3 vr g' n' hx row uj
 | @val v as bs hv h ih=>
  obtain⟨h1,h2,h3⟩:=ih;refine⟨by rw[qj,UE hv,h1],by simp[hv,h2],λvr g' n' hx row uj=>?_⟩;rcases qH.1 hx with hx|hx
  ·subst hx;simp[simple]at hv
  ·exact h3 vr g' n' hx row uj
theorem BA.spec {as bs:List AV}(h:BA st as bs):as.map (Ib st)=bs/\bs.all flat=true/\∀id g n,Sa as id g n->∀row,st[id]?=some row->DO row.xs:=by
 induction h with
 | nil=>exact⟨rfl,rfl,by rintro id g n (h|⟨_,h,_⟩)<;>simp at h⟩
 | own hr hm hp h ih=>
  obtain⟨h1,h2,h3⟩:=ih;subst hm;refine⟨by rw[qj,h1];congr 1;exact gR hr (λx=>U2 (hp x)),by simp[flat,h2],λvr g' n' hx row uj=>?_⟩;rcases hx with hx|⟨cs,hx,wE⟩
  ·rcases qH.1 hx with hx|hx
   ·cases hx;rw[hr]at uj;cases uj;exact (AM hp).any
   ·exact h3 vr g' n' (.inl hx) row uj
  ·rcases qH.1 hx with hx|hx
   ·cases hx
   ·exact h3 vr g' n' (.inr ⟨cs,hx,wE⟩) row uj
 | ownD hr hm hp hu h ih=>
  obtain⟨h1,h2,h3⟩:=ih;subst hm;refine⟨by rw[qj,h1];congr 1;exact gR hr hu,by simp[flat,h2],λvr g' n' hx row uj=>?_⟩;rcases hx with hx|⟨cs,hx,wE⟩
  ·rcases qH.1 hx with hx|hx
   ·cases hx;rw[hr]at uj;cases uj;exact Tm hp
   ·exact h3 vr g' n' (.inl hx) row uj
  ·rcases qH.1 hx with hx|hx
   ·cases hx
   ·exact h3 vr g' n' (.inr ⟨cs,hx,wE⟩) row uj
 | agg hc h ih=>
  obtain⟨h1,h2,h3⟩:=ih;obtain⟨g1,g2,g3⟩:=hc.spec;refine⟨by rw[qj,h1];simp only[Ib,g1],by simp only[sL,h2,Bool.and_true];simpa [flat] using g2,λvr g' n' hx row uj=>?_⟩;rcases hx with hx|⟨cs,hx,wE⟩
  ·rcases qH.1 hx with hx|hx
   ·cases hx
   ·exact h3 vr g' n' (.inl hx) row uj
  ·rcases qH.1 hx with hx|hx
   ·cases hx;exact g3 vr g' n' wE row uj
   ·exact h3 vr g' n' (.inr ⟨cs,hx,wE⟩) row uj
 | @val v as bs hv h ih=>
  obtain⟨h1,h2,h3⟩:=ih;have e1:Ib st v=v:=by
   cases v<;>simp[flat]at hv<;>try rfl
   rename_i cs;simp only[Ib];congr 1;exact (qk (g:=id) λc hc=>UE (hv c hc)).trans (rZ _)
  refine⟨by rw[qj,e1,h1],by simp[hv,h2],λvr g' n' hx row uj=>?_⟩;rcases hx with hx|⟨cs,hx,wE⟩
  ·rcases qH.1 hx with hx|hx
   ·subst hx;simp[flat]at hv
   ·exact h3 vr g' n' (.inl hx) row uj
  ·rcases qH.1 hx with hx|hx
   ·subst hx;have:=qC.1 (show cs.all simple=true from hv) _ wE;simp[simple]at this
   ·exact h3 vr g' n' (.inr ⟨cs,hx,wE⟩) row uj
def Ql:List Row->Prop
 | []=>True
 | row::r=>(DO row.xs/\∀x∈row.xs,∀c∈x,Pj c=true)/\Ql r
theorem Ql.get:∀{l:List Row},Ql l->∀row∈l,DO row.xs/\∀x∈row.xs,∀c∈x,Pj c=true
 | row::r,h,yb,hm=>by
  rcases qH.1 hm with rfl|hm
  ·exact h.1
  ·exact Ql.get h.2 yb hm
theorem nI {g:Nat}(h :∀x,(enc x).all (λc=>Ey c&&Pj c)=true)(hr:Ql rows):Ql (⟨g,el,size,l.map enc⟩::rows):=by
 refine⟨⟨λx hx c hc=>?_,λx hx c hc=>?_⟩,hr⟩ <;>
 ·obtain⟨y,_,rfl⟩:=qT.1 hx;have:=qC.1 (h y) c hc;simp only[qP]at this;first|exact this.1|exact this.2
theorem nA {g:Nat}(h :∀x,(enc x).all (λc=>simple c&&Pj c)=true)(hr:Ql rows):Ql (⟨g,el,size,l.map enc⟩::rows):=
 nI (λx=>qC.2 λc hc=>by
  have:=qC.1 (h x) c hc;simp only[qP]at this⊢;exact⟨RK this.1,this.2⟩) hr
theorem OU {as:List AV}(hg:GO ds gd e)(hb:Cr P f=true)(hc:BS P f args [] λr st=>r=v/\st=rows)(ha:vf.toList.map (St.ev ⟨n,e,st⟩)++[]=as)(hba:BA st as args)(hsc:gH v=true)(hp:Ql rows)(hv:shift st.length v=v')(vX:st++rows=st')
  (hk:AO P k ops Q (ds++[d]) r (St.put ⟨n,e,st'⟩ d v')):AO P k ops Q ds (⟨d,.call ⟨.value (.func f),vf,ts⟩,ty,ps,ed,gd⟩::r) ⟨n,e,st⟩:=by
 subst hv;subst vX;subst ha;obtain⟨h1,h2,h3⟩:=hba.spec;refine PX hg ?_;rw[Ps];refine⟨hb,QJ (R:=λr st=>r=v/\st=rows) ?_ ?_ h3 ?_⟩
 ·show BS P f (List.map (Ib st) _) [] _;rw[h1];exact hc
 ·show (List.map (Ib st) _).all flat=true;rw[h1];exact h2
 ·rintro r st' ⟨rfl,rfl⟩;exact⟨⟨hsc,λrow uj=>(hp.get row uj).2⟩,λrow uj=>(hp.get row uj).1,hk⟩
theorem Xp {as:List AV}{KS:St->Prop}{t:Tmp}(hg:GO ds gd e)(hb:Cr P f=true)(hc:BS P f args [] λr st=>r=v/\st=[])(ha:vf.toList.map (St.ev ⟨n,e,st⟩)++[]=as)(hba:BA st as args)(hsc:gH v=true)(hv:shift st.length v=v')
  (hk:Dp P (ds++[some t]) r KS ⟨n,Dr e t v',st⟩):Dp P ds (⟨some t,.call ⟨.value (.func f),vf,ts⟩,ty,ps,ed,gd⟩::r) KS ⟨n,e,st⟩:=by
 subst hv;subst ha;obtain⟨h1,h2,h3⟩:=hba.spec;refine eW hg rfl (λs0 e1 e2 hd k F os a w hr next Q hn=>?_) hk;refine Mo (k:=k) (K:=(·=s0.put (some t) (shift st.length v))) hr hd ?_ hn;show Cr P f=true/\callThen P k s0 f (vf.toList.map s0.ev++[]) (some t) _;rw[Uv e2];refine⟨hb,?_⟩;subst e1;refine QJ (R:=λr st'=>r=v/\st'=[]) ?_ ?_ h3 ?_
 ·show BS P f (List.map (Ib s0.st) _) [] _;rw[h1];exact hc
 ·show (List.map (Ib s0.st) _).all flat=true;rw[h1];exact h2
 ·rintro r st' ⟨rfl,rfl⟩;refine⟨⟨hsc,by simp⟩,by simp,?_⟩;rw[rY]
end
section
variable {P : Program} {k : Nat} {Q : Exit -> St -> Prop} {s s' : St} {x y c : Code}
theorem HK {o:Operand}{b:Bool}(ho:s.ev o=.bool b)(h1:b=true->AW P k x Q s)(h2:b=false->AW P k y Q s):AW P k (.cond o x y) Q s:=
 AW.cond λK1 K2 e1 e2=>by rw[ho];exact⟨λh=>e1 (h1 h),λh=>e2 (h2 h)⟩
theorem Ix {σ:Type}(I:Nat->σ->Prop)(canon:σ->St)(n0:Nat)(v0:σ)(h0:I n0 v0)(hw:Wk k s (canon v0))(hz :∀v,¬ I 0 v)
  (round :∀n v,I (n+1) v->AW P k c (Ro (λs'=>∃v',I n v'/\Wk k s' (canon v')) Q) (canon v)):AW P k (.loop c) Q s:=by
 refine AF hw ?_;have key:∀n v,I n v->∀F os a w,Rel F os (canon v) a w->∀(b:Frame) (kk:List Item) (cs:List Frame),
   ∃e a' w',Mk k Q F os w e a' w'/\Arrives P (lone (b.at a (.code c::.inLoop c::kk)) cs w) b kk cs e a' w':=by
  intro n
  induction n with
  | zero=>intro v hI;exact absurd hI (hz v)
  | succ n ih=>
   intro v hI F os a w hr b kk cs;obtain⟨e,a₁,w₁,⟨s1,F1,vo,hq,hR1,hE1⟩,harr⟩:=round n v hI F os a w hr b (.inLoop c::kk) cs;cases e with
   | normal=>
    obtain⟨v2,hI2,hw2⟩:=hq;obtain⟨F2,os2,hR2,hE2⟩:=hw2 F1 vo a₁ w₁ hR1;obtain⟨e₂,a₂,w₂,hq₂,harr₂⟩:=ih v2 hI2 F2 os2 a₁ w₁ hR2 b kk cs;exact⟨e₂,a₂,w₂,hq₂.trans (hE1.trans hE2),.of_steps (Steps.trans harr (.one step_inLoop)) harr₂⟩
   | exit id=>exact⟨_,a₁,w₁,⟨s1,F1,vo,hq,hR1,hE1⟩,.pass (x:=.inLoop c) rfl (λ_ _=>.inl (by simp)) harr⟩
   | goto l=>exact⟨_,a₁,w₁,⟨s1,F1,vo,hq,hR1,hE1⟩,.pass (x:=.inLoop c) rfl (λ_ _=>.inl (by simp)) harr⟩
   | ret=>exact⟨_,a₁,w₁,⟨s1,F1,vo,hq,hR1,hE1⟩,.pass (x:=.inLoop c) rfl (λ_ _=>.inl (by simp)) harr⟩
   | panic ch=>exact⟨_,a₁,w₁,⟨s1,F1,vo,hq,hR1,hE1⟩,.pass (x:=.inLoop c) rfl (λ_ _=>.inl (by simp)) harr⟩
   | outgrown=>exact⟨_,a₁,w₁,⟨s1,F1,vo,hq,hR1,hE1⟩,.pass (x:=.inLoop c) rfl (λ_ _=>.inl (by simp)) harr⟩
 intro F os a w hr b kk cs;obtain⟨e,a',w',hq,harr⟩:=key n0 v0 h0 F os a w hr b kk cs;exact⟨e,a',w',hq,.of_steps (.one step_loop) harr⟩
end
end Go.Abs
