import Derived.Test.YtccficmcdkcpnaaGreatAbsO
set_option linter.all false
namespace Go.Abs
open Go
def AQ (P:Program)(s:St)(op:Op)(v:AV):Prop:=∀K:AV->Prop,K v->La P s op K
def EL (st:List Row)(v:AV)(ys:List (List AV)):Prop:=∀K:List (List AV)->Prop,K ys->eP st v K
section
variable {P : Program} {s : St} {x y z c : Operand} {v : AV} {t t' : TypeId} {kk : IntKind} {a b : Int} {p q : Bool}
theorem Oj (h:s.ev x=v):AQ P s (.move x) v:=λK hk=>by show K (s.ev x);rw[h];exact hk
theorem Xg (h:s.ev x=v):AQ P s (.assign x) v:=λK hk=>by show K (s.ev x);rw[h];exact hk
theorem nb {x y:AV}{K:AV->Prop}(h:K x):Ta (.bool true) x y K:=by
 cases x<;>cases y<;>first|exact h|exact⟨λ_=>h,λh=>by cases h⟩
theorem pK {x y:AV}{K:AV->Prop}(h:K y):Ta (.bool false) x y K:=by
 cases x<;>cases y<;>first|exact h|exact⟨λh=>(by cases h),λ_=>h⟩
theorem E6 (hc:s.ev c=.bool p)(hp:p=true)(hx:s.ev x=v):AQ P s (.pick c x y) v:=λK hk=>by
 show Ta (s.ev c) (s.ev x) (s.ev y) K;rw[hc,hp,hx];exact nb hk
theorem Eg (hc:s.ev c=.bool p)(hp:p=false)(hy:s.ev y=v):AQ P s (.pick c x y) v:=λK hk=>by
 show Ta (s.ev c) (s.ev x) (s.ev y) K;rw[hc,hp,hy];exact pK hk
variable (hx : s.ev x = .int kk a) (hy : s.ev y = .int kk b)
include hx hy
theorem MK {op:BinOp}(h :∀K:AV->Prop,K v->gp op kk a b K):AQ P s (.binOp op t x y t') v:=λK hk=>by
 show Yy P t op (s.ev x) (s.ev y) K;rw[hx,hy];exact⟨rfl,h K hk⟩
theorem pN:AQ P s (.binOp .add t x y t') (.int kk (Sh.wk kk (a+b))):=MK hx hy λ_ hk=>hk
theorem np:AQ P s (.binOp .sub t x y t') (.int kk (Sh.wk kk (a-b))):=MK hx hy λ_ hk=>hk
theorem ng:AQ P s (.binOp .mul t x y t') (.int kk (Sh.wk kk (a*b))):=MK hx hy λ_ hk=>hk
theorem hH:AQ P s (.binOp .lss t x y t') (.bool (decide (a<b))):=MK hx hy λ_ hk=>hk
theorem rn:AQ P s (.binOp .leq t x y t') (.bool (decide (a<=b))):=MK hx hy λ_ hk=>hk
theorem rv:AQ P s (.binOp .gtr t x y t') (.bool (decide (b<a))):=MK hx hy λ_ hk=>hk
theorem sA:AQ P s (.binOp .geq t x y t') (.bool (decide (b<=a))):=MK hx hy λ_ hk=>hk
theorem sb:AQ P s (.binOp .eql t x y t') (.bool (decide (a=b))):=MK hx hy λ_ hk=>hk
theorem sU:AQ P s (.binOp .neq t x y t') (.bool (!decide (a=b))):=MK hx hy λ_ hk=>hk
end
section
variable {P : Program} {s : St} {x y z c : Operand} {v : AV} {t t' : TypeId} {kk : IntKind} {a b : Int} {p q : Bool}
variable (hx : s.ev x = i64 a) (hy : s.ev y = i64 b)
include hx hy
theorem eT:AQ P s (.binOp .add t x y t') (i64 (Sh.w (a+b))):=MK hx hy λ_ hk=>hk
theorem qJ:AQ P s (.binOp .sub t x y t') (i64 (Sh.w (a-b))):=MK hx hy λ_ hk=>hk
theorem pd:AQ P s (.binOp .mul t x y t') (i64 (Sh.w (a*b))):=MK hx hy λ_ hk=>hk
end
section
variable {P : Program} {s : St} {x y z c : Operand} {v : AV} {t t' : TypeId} {kk kk' : IntKind} {a b : Int} {p q ag : Bool} {id g i off off' f size sz bytes m j : Nat} {cs vs : List AV} {xs : List (List AV)} {el : TypeId}
theorem pj (ht:Q4 P t=true)(hx:s.ev x=.bool p)(hy:s.ev y=.bool q):AQ P s (.binOp .eql t x y t') (.bool (p==q)):=λK hk=>by
 show Yy P t .eql (s.ev x) (s.ev y) K;rw[hx,hy];exact⟨ht,hk⟩
theorem qk (ht:Q4 P t=true)(hx:s.ev x=.bool p)(hy:s.ev y=.bool q):AQ P s (.binOp .neq t x y t') (.bool (p != q)):=λK hk=>by
 show Yy P t .neq (s.ev x) (s.ev y) K;rw[hx,hy];exact⟨ht,hk⟩
theorem pc (hx:s.ev x=.bool p):AQ P s (.unOp .not t x) (.bool (!p)):=λK hk=>by
 show mH .not (s.ev x) K;rw[hx];exact hk
theorem qh (hx:s.ev x=i64 a):AQ P s (.unOp .neg t x) (i64 (Sh.w (-a))):=λK hk=>by
 show mH .neg (s.ev x) K;rw[hx];exact hk
def dV (P:Program)(src dst:TypeId):Option IntKind:=
 match P.underlying src,P.underlying dst with
 | some _,some (.int k)=>some k
 | _,_=>none
theorem mq (hc:dV P t t'=some kk')(hx:s.ev x=.int kk a):AQ P s (.convert t t' x) (.int kk' (Sh.wk kk' a)):=λK hk=>by
 show ZL P t t' (s.ev x) K;rw[hx];unfold dV at hc;unfold ZL;split at hc
 ·rename_i h1 h2;simp only[uO]at hc;subst hc;simp only[h1,h2];exact hk
 ·cases hc
theorem sW (hx:s.ev x=.CW vs)(hv:vs[i]?=some v):AQ P s (.extract x i) v:=λK hk=>by
 show Tr (s.ev x) i K;rw[hx];exact Am v hv hk
theorem Yx {fn:FuncId}{caps:Array Operand}(hc:caps.toList.map s.ev=cs):AQ P s (.makeFunc (.func fn) #[] caps) (.fn fn cs):=λK hk=>by
 subst hc;exact .inl ⟨rfl,hk⟩
theorem po {fn:FuncId}{first:Array Operand}(hc:first.toList.map s.ev=cs)(hl:cs.all loose=true):AQ P s (.makeFunc (.func fn) first #[]) (.bd fn cs):=λK hk=>by
 subst hc;exact .inr ⟨rfl,hl,hk⟩
theorem qK (ht:DJ P t=some (false,sz))(hx:s.ev x=.Bj cs off)(hv:cs[off]?=some v):AQ P s (.load t x) v:=λK hk=>by
 show TA P s.st t (s.ev x) K;rw[hx];exact Am _ ht (Am v hv hk)
theorem fZ (ht:DJ P t=some (true,sz))(hx:s.ev x=.Bj cs off)(hl:off+sz<=cs.length)(hv:(cs.drop off).take sz=vs):AQ P s (.load t x) (.agg vs):=λK hk=>by
 show TA P s.st t (s.ev x) K;rw[hx];subst hv;exact Am _ ht ⟨hl,hk⟩
theorem De (ht:DJ P t=some (false,sz))(hx:s.ev x=.ptr id g i off)(hr:s.st[id]?=some ⟨g,el,size,xs⟩)(hi:xs[i]?=some cs)(hv:cs[off]?=some v):AQ P s (.load t x) v:=λK hk=>by
 show TA P s.st t (s.ev x) K;rw[hx];exact Am _ ht (Am _ hr ⟨rfl,Am cs hi (Am v hv hk)⟩)
theorem Zl (ht:DJ P t=some (true,sz))(hx:s.ev x=.ptr id g i off)(hr:s.st[id]?=some ⟨g,el,size,xs⟩)(hi:xs[i]?=some cs)(hl:off+sz<=cs.length)(hv:(cs.drop off).take sz=vs):AQ P s (.load t x) (.agg vs):=λK hk=>by
 show TA P s.st t (s.ev x) K;rw[hx];subst hv;exact Am _ ht (Am _ hr ⟨rfl,Am cs hi ⟨hl,hk⟩⟩)
theorem pZ (hf:G7 P t f=some j)(hx:s.ev x=.Bj cs off)(ho:off+j=off'):AQ P s (.fieldAddr t x f) (.Bj cs off'):=λK hk=>by
 show OY P t (s.ev x) f s.st K;rw[hx];subst ho;exact Am _ hf hk
theorem Lh (hf:G7 P t f=some j)(hx:s.ev x=.ptr id g i off)(hr:s.st[id]?=some ⟨g,el,size,xs⟩)(hl:off+j<=size)(ho:off+j=off'):AQ P s (.fieldAddr t x f) (.ptr id g i off'):=λK hk=>by
 show OY P t (s.ev x) f s.st K;rw[hx];subst ho;exact Am _ hf (Am _ hr ⟨rfl,hl,hk⟩)
def Wy (P:Program)(t:TypeId)(f:Nat):Option (Nat×Bool×Nat):=
 match P.underlying t with
 | some (.struct fs)=>match fs[f]? with
  | some g=>match DJ P g.type with
   | some ti=>some (g.offset,ti)
   | none=>none
  | none=>none
 | _=>none
theorem aH {f o:Nat}{ti:Bool×Nat}{K:AV->Prop}(h:Wy P t f=some (o,ti))(hk:Nj ti.1 ti.2 cs o K):QA P t (.agg cs) f K:=by
 unfold Wy at h;unfold QA;split at h
 ·rename_i fs hu;split at h
  ·rename_i gg hg;split at h
   ·rename_i ti' ht;simp only[uO,wE]at h;obtain⟨rfl,rfl⟩:=h;rw[hu];exact Am _ hg (Am _ ht hk)
   ·cases h
  ·cases h
 ·cases h
theorem rb (hf:Wy P t f=some (off,false,sz))(hx:s.ev x=.agg cs)(hv:cs[off]?=some v):AQ P s (.field t x f) v:=λK hk=>by
 show QA P t (s.ev x) f K;rw[hx];exact aH hf (Am v hv hk)
theorem py (hf:Wy P t f=some (off,true,sz))(hx:s.ev x=.agg cs)(hl:off+sz<=cs.length)(hv:(cs.drop off).take sz=vs):AQ P s (.field t x f) (.agg vs):=λK hk=>by
 show QA P t (s.ev x) f K;rw[hx];subst hv;exact aH hf ⟨hl,hk⟩
variable {α : Type} {l l' : List α} {enc : α -> List AV} {n : Int} {zz : List AV} {u : α}
theorem Ef (h:Sh.get l n=some u):(l.map enc)[n.toNat]?=some (enc u):=by
 rw[uP,(Sh.get_some h).2.1];rfl
theorem Vb (he:Ck P t=some ⟨el,size,bytes,zz⟩)(hx:s.ev x=.sl (l.map enc))(hy:s.ev y=.int kk n)(hg:Sh.get l n=some u)(hs:(enc u).length=size):AQ P s (.indexAddr t x y) (.Bj (enc u) 0):=λK hk=>by
 show Mi P s.st t (s.ev x) (s.ev y) K;rw[hx,hy];exact Am _ he ⟨(Sh.get_some hg).1,Am _ (Ef hg) ⟨hs,hk⟩⟩
theorem L7 (he:Ck P t=some ⟨el,size,bytes,zz⟩)(hx:s.ev x=.own id g m)(hy:s.ev y=.int kk n)(hr:s.st[id]?=some ⟨g,el,size,l.map enc⟩)(hm:m=l.length)(hg:Sh.get l n=some u):
  AQ P s (.indexAddr t x y) (.ptr id g n.toNat 0):=λK hk=>by
 show Mi P s.st t (s.ev x) (s.ev y) K;rw[hx,hy];subst hm;exact Am _ he ⟨(Sh.get_some hg).1,(Sh.get_some hg).2.2,Am _ hr ⟨rfl,rfl,by simpa using hk⟩⟩
theorem Ch (hs:Cn P t=true)(hx:s.ev x=.sl (l.map enc)):AQ P s (.call ⟨.builtin .len,#[x],#[t]⟩) (i64 (Sh.len l)):=λK hk=>by
 refine⟨hs,?_⟩;rw[hx];simp only[kW,uZ];exact hk
theorem Ec (hs:Cn P t=true)(hx:s.ev x=.own id g m)(hr:s.st[id]?=some ⟨g,el,size,l.map enc⟩)(hm:m=l.length):AQ P s (.call ⟨.builtin .len,#[x],#[t]⟩) (i64 (Sh.len l)):=λK hk=>by
 refine⟨hs,?_⟩;subst hm;rw[hx];exact Am _ hr ⟨rfl,hk⟩
theorem fS (hs:Cn P t=true)(hx:s.ev x=.zc):AQ P s (.call ⟨.builtin .len,#[x],#[t]⟩) (i64 0):=λK hk=>by
 refine⟨hs,?_⟩;rw[hx];exact hk
theorem qM (hx:s.ev x=.ptr id g i off)(hr:s.st[id]?=some ⟨g,el,size,xs⟩):AQ P s (.nilCheck x) (.ptr id g i off):=λK hk=>by
 show cY s.st (s.ev x) K;rw[hx];exact Am _ hr ⟨rfl,hk⟩
theorem qS (hx:s.ev x=.Bj cs off):AQ P s (.nilCheck x) (.Bj cs off):=λK hk=>by
 show cY s.st (s.ev x) K;rw[hx];exact hk
theorem Gs {parts:Array (Nat×Operand)}{fs:List (Nat×Nat)}{pv:List (Nat×AV)}(ha:Ix P t=true)(hf:Kt P t=some fs)(hz:IE P t=some zz)(hp:(parts.toList.map λp=>(p.1,s.ev p.2))=pv)(hc:PJ (fs[·]?) zz pv=some cs):
  AQ P s (.build t parts) (.agg cs):=λK hk=>by
 show eV P t (parts.toList.map λp=>(p.1,s.ev p.2)) K;rw[hp];exact⟨ha,Am _ hf (Am _ hz (Am _ hc hk))⟩
variable {st : List Row} {ys : List (List AV)}
theorem P1:EL st (.sl ys) ys:=λ_ hk=>hk
theorem GY (hr:st[id]?=some ⟨g,el,size,l.map enc⟩)(hm:m=l.length)(hlf :∀x,(enc x).all AV.leaf=true:=by exact λ_=>rfl):EL st (.own id g m) (l.map enc):=λK hk=>by
 subst hm;refine Am _ hr ⟨rfl,λy hy c hc=>?_,?_⟩
 ·obtain⟨x,_,rfl⟩:=uw.1 hy;exact uS.1 (hlf x) c hc
 rw[<- uZ (f:=enc) (as:=l),vp];exact⟨rfl,hk⟩
end
section
variable {P : Program} {k : Nat} {ops : Array Oper} {Q : Exit -> St -> Prop} {ds : List (Option Tmp)} {r : List Oper} {n : Nat} {e : Nat -> AV} {st st' : List Row} {op : Op} {ty : TypeId} {ps : String} {ed : Array Edge} {d : Option Tmp} {t : Tmp} {v v' : AV}
variable {jj : Nat} {want b : Bool} {tg : Tmp} {gd : Option (Nat × Bool)}
def GO (ds:List (Option Tmp))(gd:Option (Nat×Bool))(e:Nat->AV):Prop:=
 match gd with
 | none=>True
 | some (jj,want)=>∃tg,ds[jj]?=some (some tg)/\e tg=.bool want
theorem BJ:GO ds none e:=uM
theorem Is (hj:ds[jj]?=some (some tg))(ht:e tg=.bool b)(hb:b=want):GO ds (some (jj,want)) e:=⟨tg,hj,by rw[ht,hb]⟩
theorem GO.guard {A B:Prop}(hg:GO ds gd e)(h:A):MC ds ⟨d,op,ty,ps,ed,gd⟩ ⟨n,e,st⟩ A B:=by
 unfold GO at hg;unfold MC;cases gd with
 | none=>exact h
 | some q=>
  obtain⟨jj,want⟩:=q;obtain⟨tg,hj,ht⟩:=hg;simp only[hj,ht,fq];exact⟨λ_=>h,λhh=>absurd rfl hh⟩
theorem DW (hg:GO ds gd e)(hl:MA op=false)(hq:AQ P ⟨n,e,st⟩ op v)(hk:AO P k ops Q (ds++[some t]) r ⟨n,EW e t v,st⟩):AO P k ops Q ds (⟨some t,op,ty,ps,ed,gd⟩::r) ⟨n,e,st⟩:=by
 refine Rs (hg.guard ?_);unfold Nt;simp only[hl,uN,uf];exact hq _ hk
theorem ON (hg:GO ds gd e)(h:Nt P k ⟨d,op,ty,ps,ed,gd⟩ ⟨n,e,st⟩ (AO P k ops Q (ds++[d]) r)):AO P k ops Q ds (⟨d,op,ty,ps,ed,gd⟩::r) ⟨n,e,st⟩:=
 Rs (hg.guard h)
theorem pH (hj:ds[jj]?=some (some tg))(ht:e tg=.bool b)(hb:b=!want)(h:AO P k ops Q (ds++[some t]) r ⟨n,EW e t .un,st⟩):AO P k ops Q ds (⟨some t,op,ty,ps,ed,some (jj,want)⟩::r) ⟨n,e,st⟩:=by
 refine Rs ?_;subst hb;simp only[MC,hj,ht,fq];exact⟨λh=>(by cases want<;>cases h),λ_=>h⟩
theorem nG (hj:ds[jj]?=some (some tg))(ht:e tg=.un)(h:AO P k ops Q (ds++[some t]) r ⟨n,EW e t .un,st⟩):AO P k ops Q ds (⟨some t,op,ty,ps,ed,some (jj,want)⟩::r) ⟨n,e,st⟩:=by
 refine Rs ?_;simp only[MC,hj,ht,fq];exact h
variable {KS : St -> Prop}
theorem LC (hg:GO ds gd e)(hl:MA op=false)(hq:AQ P ⟨n,e,st⟩ op v)(hk:DX P (ds++[some t]) r KS ⟨n,EW e t v,st⟩):DX P ds (⟨some t,op,ty,ps,ed,gd⟩::r) KS ⟨n,e,st⟩:=by
 refine hg.guard ?_;unfold Ol;simp only[hl,uN,uf];exact hq _ hk
theorem lB (hg:GO ds gd e)(hl:MA op=true)(hq :∀s0:St,s0.st=st->(∀x∈op.operands,s0.ev x=St.ev ⟨n,e,st⟩ x)->DK s0.n (some t)=true->Yl P ⟨some t,op,ty,ps,ed,gd⟩ s0 v)(hk:DX P (ds++[some t]) r KS ⟨n,EW e t v,st⟩):DX P ds (⟨some t,op,ty,ps,ed,gd⟩::r) KS ⟨n,e,st⟩:=by
 refine hg.guard ?_;unfold Ol;simp only[hl,vH];exact⟨v,hq,hk⟩
theorem pW (hj:ds[jj]?=some (some tg))(ht:e tg=.bool b)(hb:b=!want)(h:DX P (ds++[some t]) r KS ⟨n,EW e t .un,st⟩):DX P ds (⟨some t,op,ty,ps,ed,some (jj,want)⟩::r) KS ⟨n,e,st⟩:=by
 subst hb;simp only[DX,MC,hj,ht,fq];exact⟨λh=>(by cases want<;>cases h),λ_=>h⟩
theorem qF (hj:ds[jj]?=some (some tg))(ht:e tg=.un)(h:DX P (ds++[some t]) r KS ⟨n,EW e t .un,st⟩):DX P ds (⟨some t,op,ty,ps,ed,some (jj,want)⟩::r) KS ⟨n,e,st⟩:=by
 simp only[DX,MC,hj,ht,fq];exact h
theorem Bl {s:St}(h:KS s):DX P ds [] KS s:=h
theorem gv {ars:Array Operand}{f:FuncId}{ts:Array TypeId}{s0 s1:St}(h :∀x∈(Op.call ⟨.value (.func f),ars,ts⟩).operands,s0.ev x=s1.ev x):ars.toList.map s0.ev=ars.toList.map s1.ev:=
 vL λx hx=>h x (by simp[Op.operands,Call.operands];right;simpa using hx)
theorem N7 {f:FuncId}{ars:Array Operand}{ts:Array TypeId}{args:List AV}(hg:GO ds gd e)(hb:DP P f=true)(hc:BW P f args [] λr st=>r=v/\st=[])(ha:ars.toList.map (St.ev ⟨n,e,st⟩)++[]=args)(hf:args.all flat=true)(hv:flat v=true)
  (hk:DX P (ds++[some t]) r KS ⟨n,EW e t v,st⟩):DX P ds (⟨some t,.call ⟨.value (.func f),ars,ts⟩,ty,ps,ed,gd⟩::r) KS ⟨n,e,st⟩:=by
 refine lB hg rfl (λs0 e1 e2 hd k F os a w hr next Q hn=>?_) hk;refine Ty (k:=k) (K:=(·=s0.put (some t) v)) hr hd ?_ hn;show DP P f=true/\callThen P k s0 f (ars.toList.map s0.ev++[]) (some t) _;rw[gv e2,ha];exact⟨hb,X6 hc hf hv rfl⟩
variable {α : Type} {l l' l2 : List α} {enc : α -> List AV} {kk kk' : IntKind} {j : Int} {el T : TypeId} {size bytes sz id g i m off : Nat} {zz cs us : List AV} {x y : Operand} {xs : List (List AV)} {ag : Bool} {u u' : α}
theorem W2 (hg:GO ds gd e)(hz:IE P T=some zz)(hm:st.length=m)(hst:st++[⟨0,T,zz.length,[zz]⟩]=st')(hk:AO P k ops Q (ds++[some t]) r ⟨n,EW e t (.ptr m 0 0 0),st'⟩):AO P k ops Q ds (⟨some t,.alloc T,ty,ps,ed,gd⟩::r) ⟨n,e,st⟩:=by
 subst hm;subst hst;exact ON hg (Am _ hz hk)
theorem qs (hg:GO ds gd e)(hx:St.ev ⟨n,e,st⟩ x=v)(hc:MF v=some cs)(hne:cs.isEmpty=false)(hm:st.length=m)(hst:st++[⟨0,T,cs.length,[cs]⟩]=st')(hk:AO P k ops Q (ds++[some t]) r ⟨n,EW e t (.ptr m 0 0 0),st'⟩):AO P k ops Q ds (⟨some t,.box T x,ty,ps,ed,gd⟩::r) ⟨n,e,st⟩:=by
 subst hm;subst hst;subst hx;exact ON hg (Am _ hc ⟨(by intro h;rw[h]at hne;cases hne),hk⟩)
theorem Rm (hg:GO ds gd e)(ht:DJ P T=some (ag,sz))(hx:St.ev ⟨n,e,st⟩ x=.ptr id g i off)(hr:st[id]?=some ⟨g,el,size,xs⟩)(hi:xs[i]?=some zz)(hv:St.ev ⟨n,e,st⟩ y=v)(hc:MF v=some cs)(hn:cs.length=sz)(hle:off+cs.length<=size)
  (hst:st.set id ⟨g,el,size,xs.set i (Ip zz off cs)⟩=st') (hk:AO P k ops Q (ds++[none]) r ⟨n,e,st'⟩):AO P k ops Q ds (⟨none,.store T x y,ty,ps,ed,gd⟩::r) ⟨n,e,st⟩:=by
 subst hst;subst hv;refine ON hg ?_;rw[mC,hx];exact Am _ ht (Am _ hr ⟨rfl,Am _ hi (Am _ hc ⟨hn,hle,hk⟩)⟩)
theorem gI {j:Int}:(l.map enc).set j.toNat (enc u)=(Sh.put l j u).map enc:=by simp[Sh.put,wb]
theorem N5 (hg:GO ds gd e)(ht:DJ P T=some (ag,sz))(hx:St.ev ⟨n,e,st⟩ x=.ptr id g j.toNat off)(hr:st[id]?=some ⟨g,el,size,l.map enc⟩)(hi:Sh.get l j=some u)(hv:St.ev ⟨n,e,st⟩ y=v)(hc:MF v=some cs)(hn:cs.length=sz)(hle:off+cs.length<=size)
  (hsp:Ip (enc u) off cs=enc u') (hst:st.set id ⟨g,el,size,(Sh.put l j u').map enc⟩=st') (hk:AO P k ops Q (ds++[none]) r ⟨n,e,st'⟩):AO P k ops Q ds (⟨none,.store T x y,ty,ps,ed,gd⟩::r) ⟨n,e,st⟩:=
 Rm hg ht hx hr (Ef hi) hv hc hn hle (by rw[hsp,gI];exact hst) hk
theorem gN (hg:GO ds gd e)(he:Ck P T=some ⟨el,size,bytes,zz⟩)(hx:St.ev ⟨n,e,st⟩ x=.int kk j)(hy:St.ev ⟨n,e,st⟩ y=.int kk' j)(hz:enc u=zz)(hl:Sh.mk u j bytes=some l)(hm:st.length=m)(hst:st++[⟨0,el,size,l.map enc⟩]=st')
  (hk:AO P k ops Q (ds++[some t]) r ⟨n,EW e t (.own m 0 l.length),st'⟩):AO P k ops Q ds (⟨some t,.makeSlice T x y,ty,ps,ed,gd⟩::r) ⟨n,e,st⟩:=by
 subst hm;subst hst;subst hz;refine ON hg ?_;rw[bH];unfold Sh.mk at hl;split at hl
 ·rename_i h;simp only[uO]at hl;subst hl;rw[hx,hy];simp only[xf,List.length_replicate]at hk;exact Am _ he ⟨rfl,h.1,h.2.1,h.2.2,hk⟩
 ·cases hl
theorem Oc {len:Nat}{parts:Array (Nat×Operand)}{pv:List (Nat×AV)}(hg:GO ds gd e)(he:Ck P T=some ⟨el,size,bytes,zz⟩)(hle:len*size<=16777216)(hp:(parts.toList.map λp=>(p.1,St.ev ⟨n,e,st⟩ p.2))=pv)
  (hc:PJ (λi=>some (i*size,size)) ((List.replicate len zz).flatten) pv=some cs) (hck:chunk size len cs=l.map enc) (hln:len=l.length) (hm:st.length=m) (hst:st++[⟨0,el,size,l.map enc⟩]=st') (hk:AO P k ops Q (ds++[some t]) r ⟨n,EW e t (.own m 0 l.length),st'⟩) :
  AO P k ops Q ds (⟨some t,.buildSlice T len parts,ty,ps,ed,gd⟩::r) ⟨n,e,st⟩:=by
 subst hm;subst hst;subst hln;refine ON hg ?_;rw[Zy,hp];exact Am _ he ⟨hle,Am _ hc (by rw[hck];exact hk)⟩
theorem I4 {ys:AV}(hg:GO ds gd e)(he:Ck P T=some ⟨el,size,bytes,zz⟩)(hx:St.ev ⟨n,e,st⟩ x=.own id g m)(hr:st[id]?=some ⟨g,el,size,l.map enc⟩)(hm:m=l.length)(hy:St.ev ⟨n,e,st⟩ y=ys)(hel:EL st ys (l2.map enc))(hs :∀a,(enc a).length=size)(ha:Sh.app l l2 bytes=some l')
  (hst:st.set id ⟨g+1,el,size,l'.map enc⟩=st') (hk:AO P k ops Q (ds++[some t]) r ⟨n,EW e t (.own id (g+1) l'.length),st'⟩):AO P k ops Q ds (⟨some t,.call ⟨.builtin .append,#[x,y],#[T,T]⟩,ty,ps,ed,gd⟩::r) ⟨n,e,st⟩:=by
 subst hst;subst hy;subst hm;refine ON hg ?_;rw[Zr];refine⟨rfl,?_⟩;rw[hx];unfold Sh.app at ha;split at ha
 ·rename_i h;simp only[uO]at ha;subst ha;refine Am _ he (hel _ ⟨λz hz=>?_,Am _ hr ⟨rfl,(uZ _).symm,rfl,rfl,by simpa using h.1,by simpa using h.2,?_⟩⟩)
  ·obtain⟨q,_,rfl⟩:=uw.1 hz;exact hs q
  ·have e1:(l.map enc).take l.length=l.map enc:=by rw[<- uZ (f:=enc) (as:=l),vp]
   have e2:l.length+(l2.map enc).length=(l++l2).length:=by simp
   simp only[e1,e2,<- vx];exact hk
 ·cases ha
theorem pR {hop:Operand}(hg:GO ds gd e)(he:Ck P T=some ⟨el,size,bytes,zz⟩)(hx:St.ev ⟨n,e,st⟩ x=.own id g m)(hr:st[id]?=some ⟨g,el,size,l.map enc⟩)(hm:m=l.length)(hh:St.ev ⟨n,e,st⟩ hop=.int kk j)(hl:Sh.hi l j=some l')
  (hst:st.set id ⟨g+1,el,size,l'.map enc⟩=st') (hk:AO P k ops Q (ds++[some t]) r ⟨n,EW e t (.own id (g+1) l'.length),st'⟩):AO P k ops Q ds (⟨some t,.slice T x none (some hop) none,ty,ps,ed,gd⟩::r) ⟨n,e,st⟩:=by
 subst hst;subst hm;refine ON hg ?_;rw[XR];simp only[vY,ym];rw[hx,hh];unfold Sh.hi at hl;split at hl
 ·rename_i h;simp only[uO]at hl;subst hl;refine Am _ he (Am _ hr ⟨rfl,(uZ _).symm,rfl,Am _ rfl ⟨h.1,h.2,?_⟩⟩);have e1:(l.take j.toNat).length=j.toNat:=by rw[vt];omega
  rw[e1,yX]at hk;exact hk
 ·cases hl
theorem WE {lo hi:Option Operand}{i j:Int}(hg:GO ds gd e)(he:Ck P T=some ⟨el,size,bytes,zz⟩)(hx:St.ev ⟨n,e,st⟩ x=.sl (l.map enc))(h1:Ws (lo.map (St.ev ⟨n,e,st⟩)) 0=some i)(h2:Ws (hi.map (St.ev ⟨n,e,st⟩)) l.length=some j)(hs :∀a,(enc a).length=size)(hl:Sh.sl l i j=some l')
  (hk:AO P k ops Q (ds++[some t]) r ⟨n,EW e t (.sl (l'.map enc)),st⟩):AO P k ops Q ds (⟨some t,.slice T x lo hi none,ty,ps,ed,gd⟩::r) ⟨n,e,st⟩:=by
 refine ON hg ?_;rw[XR];simp only[ym];rw[hx];unfold Sh.sl at hl;split at hl
 ·rename_i h;simp only[uO]at hl;subst hl;refine Am _ he (Am _ h1 (Am _ (by rw[uZ];exact h2) ⟨h.1,h.2.1,by simpa using h.2.2,λz hz=>?_,?_⟩))
  ·obtain⟨q,_,rfl⟩:=uw.1 hz;exact hs q
  ·rw[List.map_drop,yX]at hk;exact hk
 ·cases hl
theorem Wg (hg:GO ds gd e)(hs:Cn P T=true)(hx:St.ev ⟨n,e,st⟩ x=.sl (l.map enc))(h1:l=[]->AO P k ops Q (ds++[some t]) r ⟨n,EW e t (.bool true),st⟩)(h2:AO P k ops Q (ds++[some t]) r ⟨n,EW e t (.bool false),st⟩){yT:TypeId}:
  AO P k ops Q ds (⟨some t,.binOp .eql T x (.const (.slice none 0 0)) yT,ty,ps,ed,gd⟩::r) ⟨n,e,st⟩:=by
 refine ON hg ?_;rw[gW];refine⟨hs,?_⟩;rw[hx];exact⟨λh=>h1 (List.map_eq_nil_iff.1 h),h2⟩
def VT:List Row->Prop
 | []=>True
 | row::r=>DG row.xs/\VT r
theorem VT.get:∀{l:List Row},VT l->∀row∈l,DG row.xs
 | row::r,h,row',hm=>by
  rcases uz.1 hm with rfl|hm
  ·exact h.1
  ·exact VT.get h.2 row' hm
variable {f : FuncId} {ars : Array Operand} {ts : Array TypeId} {args : List AV} {rows : List Row} {s : St}
theorem Jf (hg:GO ds gd e)(hb:DP P f=true)(hc:BW P f args [] λr st=>r=v/\st=rows)(ha:ars.toList.map (St.ev ⟨n,e,st⟩)++[]=args)(hf:args.all flat=true)(hp:VT rows)(hv:shift st.length v=v')(hst:st++rows=st')
  (hk:AO P k ops Q (ds++[d]) r (St.put ⟨n,e,st'⟩ d v')):AO P k ops Q ds (⟨d,.call ⟨.value (.func f),ars,ts⟩,ty,ps,ed,gd⟩::r) ⟨n,e,st⟩:=by
 subst hv;subst hst;subst ha;refine ON hg ?_;rw[N6];refine⟨hb,Sx hc hf ?_⟩;rintro r st' ⟨rfl,rfl⟩;exact⟨hp.get,hk⟩
theorem kR {g:Nat}{enc':α->List AV}(hr:st[id]?=some ⟨g,el,size,l.map enc⟩)(hu :∀x,JI (enc x)=enc' x):WS st (.own id g l.length)=.sl (l.map enc'):=by
 simp only[WS,hr,vH];rw[<- uZ (f:=enc) (as:=l),wX,vG,JN,wa];congr 1;exact vL λx _=>hu x
theorem WB {cs:List AV}(h:cs.all simple=true):JI cs=cs:=by
 rw[PE];exact (vL (g:=id) λc hc=>TX (uS.1 h c hc)).trans (wJ _)
inductive BC (st:List Row):List AV->List AV->Prop
 | nil:BC st [] []
 | own {α:Type} {l:List α} {enc:α->List AV} {id g size m:Nat} {el:TypeId} {as bs:List AV} (hr:st[id]?=some ⟨g,el,size,l.map enc⟩) (hm:m=l.length) (hp :∀x,(enc x).all simple=true) (h:BC st as bs):BC st (.own id g m::as) (.sl (l.map enc)::bs)
 | ownD {α:Type} {l:List α} {enc enc':α->List AV} {id g size m:Nat} {el:TypeId} {as bs:List AV} (hr:st[id]?=some ⟨g,el,size,l.map enc⟩) (hm:m=l.length) (hp :∀x,(enc x).all FI=true) (hu :∀x,JI (enc x)=enc' x) (h:BC st as bs):BC st (.own id g m::as) (.sl (l.map enc')::bs)
 | val {v:AV} {as bs:List AV} (hv:simple v=true) (h:BC st as bs):BC st (v::as) (v::bs)
inductive BA (st:List Row):List AV->List AV->Prop
 | nil:BA st [] []
 | own {α:Type} {l:List α} {enc:α->List AV} {id g size m:Nat} {el:TypeId} {as bs:List AV} (hr:st[id]?=some ⟨g,el,size,l.map enc⟩) (hm:m=l.length) (hp :∀x,(enc x).all simple=true) (h:BA st as bs):BA st (.own id g m::as) (.sl (l.map enc)::bs)
 | ownD {α:Type} {l:List α} {enc enc':α->List AV} {id g size m:Nat} {el:TypeId} {as bs:List AV} (hr:st[id]?=some ⟨g,el,size,l.map enc⟩) (hm:m=l.length) (hp :∀x,(enc x).all FI=true) (hu :∀x,JI (enc x)=enc' x) (h:BA st as bs):BA st (.own id g m::as) (.sl (l.map enc')::bs)
 | agg {cs ds:List AV} {as bs:List AV} (hc:BC st cs ds) (h:BA st as bs):BA st (.agg cs::as) (.agg ds::bs)
 | val {v:AV} {as bs:List AV} (hv:flat v=true) (h:BA st as bs):BA st (v::as) (v::bs)
theorem WL {v:AV}(h:simple v=true):WS st v=v:=by cases v<;>simp_all [simple,WS]
theorem BC.spec {as bs:List AV}(h:BC st as bs):as.map (WS st)=bs/\bs.all simple=true/\∀id g n,AV.own id g n∈as->∀row,st[id]?=some row->DG row.xs:=by
 induction h with
 | nil=>exact⟨rfl,rfl,by simp⟩
 | own hr hm hp h ih=>
  obtain⟨h1,h2,h3⟩:=ih;subst hm;refine⟨by rw[vK,kR hr (λx=>WB (hp x)),h1],by simp[simple,h2],λid' g' n' hx row zh=>?_⟩;rcases uz.1 hx with hx|hx
  ·cases hx;rw[hr]at zh;cases zh;exact (BM hp).any
  ·exact h3 id' g' n' hx row zh
 | ownD hr hm hp hu h ih=>
  obtain⟨h1,h2,h3⟩:=ih;subst hm;refine⟨by rw[vK,kR hr hu,h1],by simp[simple,h2],λid' g' n' hx row zh=>?_⟩;rcases uz.1 hx with hx|hx
  ·cases hx;rw[hr]at zh;cases zh;exact AT hp
  ·exact h3 id' g' n' hx row zh
 | @val v as bs hv h ih=>
  obtain⟨h1,h2,h3⟩:=ih;refine⟨by rw[vK,WL hv,h1],by simp[hv,h2],λid' g' n' hx row zh=>?_⟩;rcases uz.1 hx with hx|hx
  ·subst hx;simp[simple]at hv
  ·exact h3 id' g' n' hx row zh
theorem BA.spec {as bs:List AV}(h:BA st as bs):as.map (JD st)=bs/\bs.all flat=true/\∀id g n,T1 as id g n->∀row,st[id]?=some row->DG row.xs:=by
 induction h with
 | nil=>exact⟨rfl,rfl,by rintro id g n (h|⟨_,h,_⟩)<;>simp at h⟩
 | own hr hm hp h ih=>
  obtain⟨h1,h2,h3⟩:=ih;subst hm;refine⟨by rw[vK,h1];congr 1;exact kR hr (λx=>WB (hp x)),by simp[flat,h2],λid' g' n' hx row zh=>?_⟩;rcases hx with hx|⟨cs,hx,hin⟩
  ·rcases uz.1 hx with hx|hx
   ·cases hx;rw[hr]at zh;cases zh;exact (BM hp).any
   ·exact h3 id' g' n' (.inl hx) row zh
  ·rcases uz.1 hx with hx|hx
   ·cases hx
   ·exact h3 id' g' n' (.inr ⟨cs,hx,hin⟩) row zh
 | ownD hr hm hp hu h ih=>
  obtain⟨h1,h2,h3⟩:=ih;subst hm;refine⟨by rw[vK,h1];congr 1;exact kR hr hu,by simp[flat,h2],λid' g' n' hx row zh=>?_⟩;rcases hx with hx|⟨cs,hx,hin⟩
  ·rcases uz.1 hx with hx|hx
   ·cases hx;rw[hr]at zh;cases zh;exact AT hp
   ·exact h3 id' g' n' (.inl hx) row zh
  ·rcases uz.1 hx with hx|hx
   ·cases hx
   ·exact h3 id' g' n' (.inr ⟨cs,hx,hin⟩) row zh
 | agg hc h ih=>
  obtain⟨h1,h2,h3⟩:=ih;obtain⟨g1,g2,g3⟩:=hc.spec;refine⟨by rw[vK,h1];simp only[JD,g1],by simp only[xT,h2,yC];simpa [flat] using g2,λid' g' n' hx row zh=>?_⟩;rcases hx with hx|⟨cs,hx,hin⟩
  ·rcases uz.1 hx with hx|hx
   ·cases hx
   ·exact h3 id' g' n' (.inl hx) row zh
  ·rcases uz.1 hx with hx|hx
   ·cases hx;exact g3 id' g' n' hin row zh
   ·exact h3 id' g' n' (.inr ⟨cs,hx,hin⟩) row zh
 | @val v as bs hv h ih=>
  obtain⟨h1,h2,h3⟩:=ih;have e1:JD st v=v:=by
   cases v<;>simp[flat]at hv<;>try rfl
   rename_i cs;simp only[JD];congr 1;exact (vL (g:=id) λc hc=>WL (hv c hc)).trans (wJ _)
  refine⟨by rw[vK,e1,h1],by simp[hv,h2],λid' g' n' hx row zh=>?_⟩;rcases hx with hx|⟨cs,hx,hin⟩
  ·rcases uz.1 hx with hx|hx
   ·subst hx;simp[flat]at hv
   ·exact h3 id' g' n' (.inl hx) row zh
  ·rcases uz.1 hx with hx|hx
   ·subst hx;have:=uS.1 (show cs.all simple=true from hv) _ hin;simp[simple]at this
   ·exact h3 id' g' n' (.inr ⟨cs,hx,hin⟩) row zh
def Ro:List Row->Prop
 | []=>True
 | row::r=>(DG row.xs/\∀x∈row.xs,∀c∈x,Mt c=true)/\Ro r
theorem Ro.get:∀{l:List Row},Ro l->∀row∈l,DG row.xs/\∀x∈row.xs,∀c∈x,Mt c=true
 | row::r,h,row',hm=>by
  rcases uz.1 hm with rfl|hm
  ·exact h.1
  ·exact Ro.get h.2 row' hm
theorem Z7 {g:Nat}(h :∀x,(enc x).all (λc=>FI c&&Mt c)=true)(hr:Ro rows):Ro (⟨g,el,size,l.map enc⟩::rows):=by
 refine⟨⟨λx hx c hc=>?_,λx hx c hc=>?_⟩,hr⟩ <;>
 ·obtain⟨y,_,rfl⟩:=uw.1 hx;have:=uS.1 (h y) c hc;simp only[uT]at this;first|exact this.1|exact this.2
theorem kU {g:Nat}(h :∀x,(enc x).all (λc=>simple c&&Mt c)=true)(hr:Ro rows):Ro (⟨g,el,size,l.map enc⟩::rows):=
 Z7 (λx=>uS.2 λc hc=>by
  have:=uS.1 (h x) c hc;simp only[uT]at this⊢;exact⟨R9 this.1,this.2⟩) hr
theorem Fw {as:List AV}(hg:GO ds gd e)(hb:DP P f=true)(hc:BW P f args [] λr st=>r=v/\st=rows)(ha:ars.toList.map (St.ev ⟨n,e,st⟩)++[]=as)(hba:BA st as args)(hsc:kN v=true)(hp:Ro rows)(hv:shift st.length v=v')(hst:st++rows=st')
  (hk:AO P k ops Q (ds++[d]) r (St.put ⟨n,e,st'⟩ d v')):AO P k ops Q ds (⟨d,.call ⟨.value (.func f),ars,ts⟩,ty,ps,ed,gd⟩::r) ⟨n,e,st⟩:=by
 subst hv;subst hst;subst ha;obtain⟨h1,h2,h3⟩:=hba.spec;refine ON hg ?_;rw[N6];refine⟨hb,Qu (R:=λr st=>r=v/\st=rows) ?_ ?_ h3 ?_⟩
 ·show BW P f (List.map (JD st) _) [] _;rw[h1];exact hc
 ·show (List.map (JD st) _).all flat=true;rw[h1];exact h2
 ·rintro r st' ⟨rfl,rfl⟩;exact⟨⟨hsc,λrow zh=>(hp.get row zh).2⟩,λrow zh=>(hp.get row zh).1,hk⟩
theorem Zf {as:List AV}{KS:St->Prop}{t:Tmp}(hg:GO ds gd e)(hb:DP P f=true)(hc:BW P f args [] λr st=>r=v/\st=[])(ha:ars.toList.map (St.ev ⟨n,e,st⟩)++[]=as)(hba:BA st as args)(hsc:kN v=true)(hv:shift st.length v=v')
  (hk:DX P (ds++[some t]) r KS ⟨n,EW e t v',st⟩):DX P ds (⟨some t,.call ⟨.value (.func f),ars,ts⟩,ty,ps,ed,gd⟩::r) KS ⟨n,e,st⟩:=by
 subst hv;subst ha;obtain⟨h1,h2,h3⟩:=hba.spec;refine lB hg rfl (λs0 e1 e2 hd k F os a w hr next Q hn=>?_) hk;refine Ty (k:=k) (K:=(·=s0.put (some t) (shift st.length v))) hr hd ?_ hn;show DP P f=true/\callThen P k s0 f (ars.toList.map s0.ev++[]) (some t) _;rw[gv e2];refine⟨hb,?_⟩;subst e1;refine Qu (R:=λr st'=>r=v/\st'=[]) ?_ ?_ h3 ?_
 ·show BW P f (List.map (JD s0.st) _) [] _;rw[h1];exact hc
 ·show (List.map (JD s0.st) _).all flat=true;rw[h1];exact h2
 ·rintro r st' ⟨rfl,rfl⟩;refine⟨⟨hsc,by simp⟩,by simp,?_⟩;rw[vV]
end
section
variable {P : Program} {k : Nat} {Q : Exit -> St -> Prop} {s s' : St} {x y c : Code}
theorem GZ {o:Operand}{b:Bool}(ho:s.ev o=.bool b)(h1:b=true->AW P k x Q s)(h2:b=false->AW P k y Q s):AW P k (.cond o x y) Q s:=
 AW.cond λK1 K2 e1 e2=>by rw[ho];exact⟨λh=>e1 (h1 h),λh=>e2 (h2 h)⟩
theorem LK {σ:Type}(I:Nat->σ->Prop)(canon:σ->St)(n0:Nat)(v0:σ)(h0:I n0 v0)(hw:Wk k s (canon v0))(hz :∀v,¬ I 0 v)
  (round :∀n v,I (n+1) v->AW P k c (TW (λs'=>∃v',I n v'/\Wk k s' (canon v')) Q) (canon v)):AW P k (.loop c) Q s:=by
 refine AH hw ?_;have key:∀n v,I n v->∀F os a w,Rel F os (canon v) a w->∀(b:Frame) (kk:List Item) (cs:List Frame),
   ∃e a' w',SG k Q F os w e a' w'/\Arrives P (lone (b.at a (.code c::.inLoop c::kk)) cs w) b kk cs e a' w':=by
  intro n
  induction n with
  | zero=>intro v hI;exact absurd hI (hz v)
  | succ n ih=>
   intro v hI F os a w hr b kk cs;obtain⟨e,a₁,w₁,⟨s1,F1,os1,hq,hR1,hE1⟩,harr⟩:=round n v hI F os a w hr b (.inLoop c::kk) cs;cases e with
   | normal=>
    obtain⟨v2,hI2,hw2⟩:=hq;obtain⟨F2,os2,hR2,hE2⟩:=hw2 F1 os1 a₁ w₁ hR1;obtain⟨e₂,a₂,w₂,hq₂,harr₂⟩:=ih v2 hI2 F2 os2 a₁ w₁ hR2 b kk cs;exact⟨e₂,a₂,w₂,hq₂.trans (hE1.trans hE2),.of_steps (Steps.trans harr (.one step_inLoop)) harr₂⟩
   | exit id=>exact⟨_,a₁,w₁,⟨s1,F1,os1,hq,hR1,hE1⟩,.pass (x:=.inLoop c) rfl (λ_ _=>.inl (by simp)) harr⟩
   | goto l=>exact⟨_,a₁,w₁,⟨s1,F1,os1,hq,hR1,hE1⟩,.pass (x:=.inLoop c) rfl (λ_ _=>.inl (by simp)) harr⟩
   | ret=>exact⟨_,a₁,w₁,⟨s1,F1,os1,hq,hR1,hE1⟩,.pass (x:=.inLoop c) rfl (λ_ _=>.inl (by simp)) harr⟩
   | panic ch=>exact⟨_,a₁,w₁,⟨s1,F1,os1,hq,hR1,hE1⟩,.pass (x:=.inLoop c) rfl (λ_ _=>.inl (by simp)) harr⟩
   | outgrown=>exact⟨_,a₁,w₁,⟨s1,F1,os1,hq,hR1,hE1⟩,.pass (x:=.inLoop c) rfl (λ_ _=>.inl (by simp)) harr⟩
 intro F os a w hr b kk cs;obtain⟨e,a',w',hq,harr⟩:=key n0 v0 h0 F os a w hr b kk cs;exact⟨e,a',w',hq,.of_steps (.one step_loop) harr⟩
end
end Go.Abs
