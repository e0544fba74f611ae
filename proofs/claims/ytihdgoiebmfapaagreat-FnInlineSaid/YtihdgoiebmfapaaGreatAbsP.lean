import Derived.Test.YtihdgoiebmfapaaGreatAbsO
set_option linter.all false
namespace Go.Abs
open Go
def AQ (P:Program)(s:St)(op:Op)(v:AV):Prop:=∀K:AV->Prop,K v->KC P s op K
def EL (st:List Row)(v:AV)(ys:List (List AV)):Prop:=∀K:List (List AV)->Prop,K ys->bI st v K
section
variable {P : Program} {s : St} {x y z c : Operand} {v : AV} {t t' : TypeId} {kk : IntKind} {a b : Int} {p q : Bool}
theorem BP (h:s.ev x=v):AQ P s (.move x) v:=λK hk=>by show K (s.ev x);rw[h];exact hk
theorem Va (h:s.ev x=v):AQ P s (.assign x) v:=λK hk=>by show K (s.ev x);rw[h];exact hk
theorem iw {x y:AV}{K:AV->Prop}(h:K x):Qs (.bool true) x y K:=by
 cases x<;>cases y<;>first|exact h|exact⟨λ_=>h,λh=>by cases h⟩
theorem jz {x y:AV}{K:AV->Prop}(h:K y):Qs (.bool false) x y K:=by
 cases x<;>cases y<;>first|exact h|exact⟨λh=>(by cases h),λ_=>h⟩
theorem LG (hc:s.ev c=.bool p)(hp:p=true)(hx:s.ev x=v):AQ P s (.pick c x y) v:=λK hk=>by
 show Qs (s.ev c) (s.ev x) (s.ev y) K;rw[hc,hp,hx];exact iw hk
theorem L8 (hc:s.ev c=.bool p)(hp:p=false)(hy:s.ev y=v):AQ P s (.pick c x y) v:=λK hk=>by
 show Qs (s.ev c) (s.ev x) (s.ev y) K;rw[hc,hp,hy];exact jz hk
variable (hx : s.ev x = .int kk a) (hy : s.ev y = .int kk b)
include hx hy
theorem IN {op:BinOp}(h :∀K:AV->Prop,K v->dD op kk a b K):AQ P s (.binOp op t x y t') v:=λK hk=>by
 show XP P t op (s.ev x) (s.ev y) K;rw[hx,hy];exact⟨rfl,h K hk⟩
theorem jn:AQ P s (.binOp .add t x y t') (.int kk (Sh.wk kk (a+b))):=IN hx hy λ_ hk=>hk
theorem il:AQ P s (.binOp .sub t x y t') (.int kk (Sh.wk kk (a-b))):=IN hx hy λ_ hk=>hk
theorem jg:AQ P s (.binOp .mul t x y t') (.int kk (Sh.wk kk (a*b))):=IN hx hy λ_ hk=>hk
theorem UZ {q:Int}(h:Sh.rem a b=some q):AQ P s (.binOp .rem t x y t') (.int kk q):=IN hx hy λ_ hk=>by
 obtain⟨h1,rfl⟩:=Sh.iU h;exact⟨h1,hk⟩
theorem eR:AQ P s (.binOp .lss t x y t') (.bool (decide (a<b))):=IN hx hy λ_ hk=>hk
theorem nK:AQ P s (.binOp .leq t x y t') (.bool (decide (a<=b))):=IN hx hy λ_ hk=>hk
theorem mP:AQ P s (.binOp .gtr t x y t') (.bool (decide (b<a))):=IN hx hy λ_ hk=>hk
theorem nI:AQ P s (.binOp .geq t x y t') (.bool (decide (b<=a))):=IN hx hy λ_ hk=>hk
theorem nJ:AQ P s (.binOp .eql t x y t') (.bool (decide (a=b))):=IN hx hy λ_ hk=>hk
theorem nN:AQ P s (.binOp .neq t x y t') (.bool (!decide (a=b))):=IN hx hy λ_ hk=>hk
end
section
variable {P : Program} {s : St} {x y z c : Operand} {v : AV} {t t' : TypeId} {kk : IntKind} {a b : Int} {p q : Bool}
variable (hx : s.ev x = i64 a) (hy : s.ev y = i64 b)
include hx hy
theorem Td:AQ P s (.binOp .add t x y t') (i64 (Sh.w (a+b))):=IN hx hy λ_ hk=>hk
theorem Pp:AQ P s (.binOp .sub t x y t') (i64 (Sh.w (a-b))):=IN hx hy λ_ hk=>hk
theorem lv:AQ P s (.binOp .mul t x y t') (i64 (Sh.w (a*b))):=IN hx hy λ_ hk=>hk
theorem ll:AQ P s (.binOp .xor t x y t') (i64 (Sh.xor a b)):=IN hx hy λ_ hk=>hk
theorem Xl {q:Int}(h:Sh.quo a b=some q):AQ P s (.binOp .quo t x y t') (i64 q):=IN hx hy λ_ hk=>by
 obtain⟨h1,rfl⟩:=Sh.iZ h;exact⟨h1,hk⟩
theorem W0 (h:b≠0):AQ P s (.binOp .quo t x y t') (i64 (Sh.w (a.tdiv b))):=IN hx hy λ_ hk=>⟨h,hk⟩
end
section
variable {P : Program} {s : St} {x y z c : Operand} {v : AV} {t t' : TypeId} {kk yh : IntKind} {a b : Int} {p q ag : Bool} {id g i off yF f size sz bytes m j : Nat} {cs vs : List AV} {xs : List (List AV)} {el : TypeId}
theorem kg (ht:OV P t=true)(hx:s.ev x=.bool p)(hy:s.ev y=.bool q):AQ P s (.binOp .eql t x y t') (.bool (p==q)):=λK hk=>by
 show XP P t .eql (s.ev x) (s.ev y) K;rw[hx,hy];exact⟨ht,hk⟩
theorem kY (ht:OV P t=true)(hx:s.ev x=.bool p)(hy:s.ev y=.bool q):AQ P s (.binOp .neq t x y t') (.bool (p != q)):=λK hk=>by
 show XP P t .neq (s.ev x) (s.ev y) K;rw[hx,hy];exact⟨ht,hk⟩
theorem kp (hx:s.ev x=.bool p):AQ P s (.unOp .not t x) (.bool (!p)):=λK hk=>by
 show gb .not (s.ev x) K;rw[hx];exact hk
theorem lG (hx:s.ev x=i64 a):AQ P s (.unOp .neg t x) (i64 (Sh.w (-a))):=λK hk=>by
 show gb .neg (s.ev x) K;rw[hx];exact hk
def fI (P:Program)(src dst:TypeId):Option IntKind:=
 match P.underlying src,P.underlying dst with
 |some _,some (.int k)=>some k
 |_,_=>none
theorem eb (hc:fI P t t'=some yh)(hx:s.ev x=.int kk a):AQ P s (.convert t t' x) (.int yh (Sh.wk yh a)):=λK hk=>by
 show Xz P t t' (s.ev x) K;rw[hx];unfold fI at hc;unfold Xz;split at hc
 .rename_i h1 h2;simp only[pD]at hc;subst hc;simp only[h1,h2];exact hk
 .cases hc
theorem mg (hx:s.ev x=.DF vs)(hv:vs[i]?=some v):AQ P s (.extract x i) v:=λK hk=>by
 show RN (s.ev x) i K;rw[hx];exact Aj v hv hk
theorem ae {fn:FuncId}{vP:Array Operand}(hc:vP.toList.map s.ev=cs):AQ P s (.makeFunc (.func fn) #[] vP) (.fn fn cs):=λK hk=>by
 subst hc;exact⟨rfl,hk⟩
theorem IP (ht:Dd P t=some (false,sz))(hx:s.ev x=.C8 cs off)(hv:cs[off]?=some v):AQ P s (.load t x) v:=λK hk=>by
 show Qn P s.st t (s.ev x) K;rw[hx];exact Aj _ ht (Aj v hv hk)
theorem IF (ht:Dd P t=some (true,sz))(hx:s.ev x=.C8 cs off)(hl:off+sz<=cs.length)(hv:(cs.drop off).take sz=vs):AQ P s (.load t x) (.agg vs):=λK hk=>by
 show Qn P s.st t (s.ev x) K;rw[hx];subst hv;exact Aj _ ht ⟨hl,hk⟩
theorem CG (ht:Dd P t=some (false,sz))(hx:s.ev x=.ptr id g i off)(hr:s.st[id]?=some ⟨g,el,size,xs⟩)(hi:xs[i]?=some cs)(hv:cs[off]?=some v):AQ P s (.load t x) v:=λK hk=>by
 show Qn P s.st t (s.ev x) K;rw[hx];exact Aj _ ht (Aj _ hr ⟨rfl,Aj cs hi (Aj v hv hk)⟩)
theorem Cq (ht:Dd P t=some (true,sz))(hx:s.ev x=.ptr id g i off)(hr:s.st[id]?=some ⟨g,el,size,xs⟩)(hi:xs[i]?=some cs)(hl:off+sz<=cs.length)(hv:(cs.drop off).take sz=vs):AQ P s (.load t x) (.agg vs):=λK hk=>by
 show Qn P s.st t (s.ev x) K;rw[hx];subst hv;exact Aj _ ht (Aj _ hr ⟨rfl,Aj cs hi ⟨hl,hk⟩⟩)
theorem It (hf:IJ P t f=some j)(hx:s.ev x=.C8 cs off)(ho:off+j=yF):AQ P s (.fieldAddr t x f) (.C8 cs yF):=λK hk=>by
 show MQ P t (s.ev x) f s.st K;rw[hx];subst ho;exact Aj _ hf hk
theorem FT (hf:IJ P t f=some j)(hx:s.ev x=.ptr id g i off)(hr:s.st[id]?=some ⟨g,el,size,xs⟩)(hl:off+j<=size)(ho:off+j=yF):AQ P s (.fieldAddr t x f) (.ptr id g i yF):=λK hk=>by
 show MQ P t (s.ev x) f s.st K;rw[hx];subst ho;exact Aj _ hf (Aj _ hr ⟨rfl,hl,hk⟩)
def Uk (P:Program)(t:TypeId)(f:Nat):Option (Nat×Bool×Nat):=
 match P.underlying t with
 |some (.struct fs)=>match fs[f]? with
  |some g=>match Dd P g.type with
   |some ti=>some (g.offset,ti)
   |none=>none
  |none=>none
 |_=>none
theorem XX {f o:Nat}{ti:Bool×Nat}{K:AV->Prop}(h:Uk P t f=some (o,ti))(hk:Lu ti.1 ti.2 cs o K):OC P t (.agg cs) f K:=by
 unfold Uk at h;unfold OC;split at h
 .rename_i fs hu;split at h
  .rename_i gg hg;split at h
   .rename_i ti' ht;simp only[pD,rB]at h;obtain⟨rfl,rfl⟩:=h;rw[hu];exact Aj _ hg (Aj _ ht hk)
   .cases h
  .cases h
 .cases h
theorem mT (hf:Uk P t f=some (off,false,sz))(hx:s.ev x=.agg cs)(hv:cs[off]?=some v):AQ P s (.field t x f) v:=λK hk=>by
 show OC P t (s.ev x) f K;rw[hx];exact XX hf (Aj v hv hk)
theorem lx (hf:Uk P t f=some (off,true,sz))(hx:s.ev x=.agg cs)(hl:off+sz<=cs.length)(hv:(cs.drop off).take sz=vs):AQ P s (.field t x f) (.agg vs):=λK hk=>by
 show OC P t (s.ev x) f K;rw[hx];subst hv;exact XX hf ⟨hl,hk⟩
variable {α : Type} {l l' : List α} {enc : α -> List AV} {n : Int} {zz : List AV} {u : α}
theorem CS (h:Sh.get l n=some u):(l.map enc)[n.toNat]?=some (enc u):=by
 rw[pC,(Sh.get_some h).2.1];rfl
theorem CR (he:DB P t=some ⟨el,size,bytes,zz⟩)(hx:s.ev x=.sl (l.map enc))(hy:s.ev y=.int kk n)(hg:Sh.get l n=some u)(hs:(enc u).length=size):AQ P s (.indexAddr t x y) (.C8 (enc u) 0):=λK hk=>by
 show Is P s.st t (s.ev x) (s.ev y) K;rw[hx,hy];exact Aj _ he ⟨(Sh.get_some hg).1,Aj _ (CS hg) ⟨hs,hk⟩⟩
theorem CD (he:DB P t=some ⟨el,size,bytes,zz⟩)(hx:s.ev x=.own id g m)(hy:s.ev y=.int kk n)(hr:s.st[id]?=some ⟨g,el,size,l.map enc⟩)(hm:m=l.length)(hg:Sh.get l n=some u):
  AQ P s (.indexAddr t x y) (.ptr id g n.toNat 0):=λK hk=>by
 show Is P s.st t (s.ev x) (s.ev y) K;rw[hx,hy];subst hm;exact Aj _ he ⟨(Sh.get_some hg).1,(Sh.get_some hg).2.2,Aj _ hr ⟨rfl,rfl,by simpa using hk⟩⟩
theorem CU (hs:DH P t=true)(hx:s.ev x=.sl (l.map enc)):AQ P s (.call ⟨.builtin .len,#[x],#[t]⟩) (i64 (Sh.len l)):=λK hk=>by
 refine⟨hs,?_⟩;rw[hx];simp only[fR,pR];exact hk
theorem DD (hs:DH P t=true)(hx:s.ev x=.own id g m)(hr:s.st[id]?=some ⟨g,el,size,l.map enc⟩)(hm:m=l.length):AQ P s (.call ⟨.builtin .len,#[x],#[t]⟩) (i64 (Sh.len l)):=λK hk=>by
 refine⟨hs,?_⟩;subst hm;rw[hx];exact Aj _ hr ⟨rfl,hk⟩
theorem cR (hs:DH P t=true)(hx:s.ev x=.zc):AQ P s (.call ⟨.builtin .len,#[x],#[t]⟩) (i64 0):=λK hk=>by
 refine⟨hs,?_⟩;rw[hx];exact hk
theorem lE (hx:s.ev x=.ptr id g i off)(hr:s.st[id]?=some ⟨g,el,size,xs⟩):AQ P s (.nilCheck x) (.ptr id g i off):=λK hk=>by
 show Zj s.st (s.ev x) K;rw[hx];exact Aj _ hr ⟨rfl,hk⟩
theorem kv (hx:s.ev x=.C8 cs off):AQ P s (.nilCheck x) (.C8 cs off):=λK hk=>by
 show Zj s.st (s.ev x) K;rw[hx];exact hk
theorem DM {parts:Array (Nat×Operand)}{fs:List (Nat×Nat)}{pv:List (Nat×AV)}(ha:I5 P t=true)(hf:Ke P t=some fs)(hz:II P t=some zz)(hp:(parts.toList.map λp=>(p.1,s.ev p.2))=pv)(hc:Me (fs[·]?) zz pv=some cs):
  AQ P s (.build t parts) (.agg cs):=λK hk=>by
 show ah P t (parts.toList.map λp=>(p.1,s.ev p.2)) K;rw[hp];exact⟨ha,Aj _ hf (Aj _ hz (Aj _ hc hk))⟩
variable {st : List Row} {ys : List (List AV)}
theorem Mi:EL st (.sl ys) ys:=λ_ hk=>hk
theorem HG (hr:st[id]?=some ⟨g,el,size,l.map enc⟩)(hm:m=l.length)(vT :∀x,(enc x).all AV.leaf=true:=by exact λ_=>rfl):EL st (.own id g m) (l.map enc):=λK hk=>by
 subst hm;refine Aj _ hr ⟨rfl,λy hy c hc=>?_,?_⟩
 .obtain⟨x,_,rfl⟩:=pS.1 hy;exact pH.1 (vT x) c hc
 rw[<- pR (f:=enc) (as:=l),qs];exact⟨rfl,hk⟩
end
section
variable {P : Program} {k : Nat} {ops : Array Oper} {Q : Exit -> St -> Prop} {ds : List (Option Tmp)} {r : List Oper} {n : Nat} {e : Nat -> AV} {st st' : List Row} {op : Op} {ty : TypeId} {ps : String} {ed : Array Edge} {d : Option Tmp} {t : Tmp} {v v' : AV}
variable {jj : Nat} {want b : Bool} {tg : Tmp} {gd : Option (Nat × Bool)}
def GO (ds:List (Option Tmp))(gd:Option (Nat×Bool))(e:Nat->AV):Prop:=
 match gd with
 |none=>True
 |some (jj,want)=>∃tg,ds[jj]?=some (some tg)/\e tg=.bool want
theorem AN:GO ds none e:=pA
theorem CQ (hj:ds[jj]?=some (some tg))(ht:e tg=.bool b)(hb:b=want):GO ds (some (jj,want)) e:=⟨tg,hj,by rw[ht,hb]⟩
theorem GO.guard {A B:Prop}(hg:GO ds gd e)(h:A):Jh ds ⟨d,op,ty,ps,ed,gd⟩ ⟨n,e,st⟩ A B:=by
 unfold GO at hg;unfold Jh;cases gd with
 |none=>exact h
 |some q=>
  obtain⟨jj,want⟩:=q;obtain⟨tg,hj,ht⟩:=hg;simp only[hj,ht,bd];exact⟨λ_=>h,λhh=>absurd rfl hh⟩
theorem BW (hg:GO ds gd e)(hl:Kg op=false)(hq:AQ P ⟨n,e,st⟩ op v)(hk:AO P k ops Q (ds++[some t]) r ⟨n,DQ e t v,st⟩):AO P k ops Q ds (⟨some t,op,ty,ps,ed,gd⟩::r) ⟨n,e,st⟩:=by
 refine AO.step (hg.guard ?_);unfold Lp;simp only[hl,pF,pV];exact hq _ hk
theorem NX (hg:GO ds gd e)(h:Lp P k ⟨d,op,ty,ps,ed,gd⟩ ⟨n,e,st⟩ (AO P k ops Q (ds++[d]) r)):AO P k ops Q ds (⟨d,op,ty,ps,ed,gd⟩::r) ⟨n,e,st⟩:=
 AO.step (hg.guard h)
theorem kF (hj:ds[jj]?=some (some tg))(ht:e tg=.bool b)(hb:b=!want)(h:AO P k ops Q (ds++[some t]) r ⟨n,DQ e t .un,st⟩):AO P k ops Q ds (⟨some t,op,ty,ps,ed,some (jj,want)⟩::r) ⟨n,e,st⟩:=by
 refine AO.step ?_;subst hb;simp only[Jh,hj,ht,bd];exact⟨λh=>(by cases want<;>cases h),λ_=>h⟩
theorem jc (hj:ds[jj]?=some (some tg))(ht:e tg=.un)(h:AO P k ops Q (ds++[some t]) r ⟨n,DQ e t .un,st⟩):AO P k ops Q ds (⟨some t,op,ty,ps,ed,some (jj,want)⟩::r) ⟨n,e,st⟩:=by
 refine AO.step ?_;simp only[Jh,hj,ht,bd];exact h
variable {KS : St -> Prop}
theorem H3 (hg:GO ds gd e)(hl:Kg op=false)(hq:AQ P ⟨n,e,st⟩ op v)(hk:EN P (ds++[some t]) r KS ⟨n,DQ e t v,st⟩):EN P ds (⟨some t,op,ty,ps,ed,gd⟩::r) KS ⟨n,e,st⟩:=by
 refine hg.guard ?_;unfold L5;simp only[hl,pF,pV];exact hq _ hk
theorem gM (hg:GO ds gd e)(hl:Kg op=true)(hq :∀s0:St,s0.st=st->(∀x∈op.operands,s0.ev x=St.ev ⟨n,e,st⟩ x)->Cx s0.n (some t)=true->Yl P ⟨some t,op,ty,ps,ed,gd⟩ s0 v)(hk:EN P (ds++[some t]) r KS ⟨n,DQ e t v,st⟩):EN P ds (⟨some t,op,ty,ps,ed,gd⟩::r) KS ⟨n,e,st⟩:=by
 refine hg.guard ?_;unfold L5;simp only[hl,pt];exact⟨v,hq,hk⟩
theorem ku (hj:ds[jj]?=some (some tg))(ht:e tg=.bool b)(hb:b=!want)(h:EN P (ds++[some t]) r KS ⟨n,DQ e t .un,st⟩):EN P ds (⟨some t,op,ty,ps,ed,some (jj,want)⟩::r) KS ⟨n,e,st⟩:=by
 subst hb;simp only[EN,Jh,hj,ht,bd];exact⟨λh=>(by cases want<;>cases h),λ_=>h⟩
theorem As {s:St}(h:KS s):EN P ds [] KS s:=h
theorem T5 {vJ:Array Operand}{f:FuncId}{ts:Array TypeId}{s0 s1:St}(h :∀x∈(Op.call ⟨.value (.func f),vJ,ts⟩).operands,s0.ev x=s1.ev x):vJ.toList.map s0.ev=vJ.toList.map s1.ev:=
 ph λx hx=>h x (by simp[Op.operands,Call.operands];right;simpa using hx)
theorem BU {f:FuncId}{vJ:Array Operand}{ts:Array TypeId}{args:List AV}(hg:GO ds gd e)(hb:Cp P f=true)(hc:BJ P f args [] λr st=>r=v/\st=[])(ha:vJ.toList.map (St.ev ⟨n,e,st⟩)++[]=args)(hf:args.all flat=true)(hv:flat v=true)
  (hk:EN P (ds++[some t]) r KS ⟨n,DQ e t v,st⟩):EN P ds (⟨some t,.call ⟨.value (.func f),vJ,ts⟩,ty,ps,ed,gd⟩::r) KS ⟨n,e,st⟩:=by
 refine gM hg rfl (λs0 e1 e2 hd k F os a w hr next Q hn=>?_) hk;refine L3 (k:=k) (K:=(·=s0.put (some t) v)) hr hd ?_ hn;show Cp P f=true/\callThen P k s0 f (vJ.toList.map s0.ev++[]) (some t) _;rw[T5 e2,ha];exact⟨hb,WQ hc hf hv rfl⟩
variable {α : Type} {l l' l2 : List α} {enc : α -> List AV} {kk yh : IntKind} {j : Int} {el T : TypeId} {size bytes sz id g i m off : Nat} {zz cs us : List AV} {x y : Operand} {xs : List (List AV)} {ag : Bool} {u u' : α}
theorem Oa (hg:GO ds gd e)(hz:II P T=some zz)(hm:st.length=m)(uW:st++[⟨0,T,zz.length,[zz]⟩]=st')(hk:AO P k ops Q (ds++[some t]) r ⟨n,DQ e t (.ptr m 0 0 0),st'⟩):AO P k ops Q ds (⟨some t,.alloc T,ty,ps,ed,gd⟩::r) ⟨n,e,st⟩:=by
 subst hm;subst uW;exact NX hg (Aj _ hz hk)
theorem W8 (hg:GO ds gd e)(hx:St.ev ⟨n,e,st⟩ x=v)(hc:KB v=some cs)(uu:cs.isEmpty=false)(hm:st.length=m)(uW:st++[⟨0,T,cs.length,[cs]⟩]=st')(hk:AO P k ops Q (ds++[some t]) r ⟨n,DQ e t (.ptr m 0 0 0),st'⟩):AO P k ops Q ds (⟨some t,.box T x,ty,ps,ed,gd⟩::r) ⟨n,e,st⟩:=by
 subst hm;subst uW;subst hx;exact NX hg (Aj _ hc ⟨(by intro h;rw[h]at uu;cases uu),hk⟩)
theorem L6 (hg:GO ds gd e)(ht:Dd P T=some (ag,sz))(hx:St.ev ⟨n,e,st⟩ x=.ptr id g i off)(hr:st[id]?=some ⟨g,el,size,xs⟩)(hi:xs[i]?=some zz)(hv:St.ev ⟨n,e,st⟩ y=v)(hc:KB v=some cs)(hn:cs.length=sz)(hle:off+cs.length<=size)
  (uW:st.set id ⟨g,el,size,xs.set i (HQ zz off cs)⟩=st') (hk:AO P k ops Q (ds++[none]) r ⟨n,e,st'⟩):AO P k ops Q ds (⟨none,.store T x y,ty,ps,ed,gd⟩::r) ⟨n,e,st⟩:=by
 subst uW;subst hv;refine NX hg ?_;rw[iB,hx];exact Aj _ ht (Aj _ hr ⟨rfl,Aj _ hi (Aj _ hc ⟨hn,hle,hk⟩)⟩)
theorem cS {j:Int}:(l.map enc).set j.toNat (enc u)=(Sh.put l j u).map enc:=by simp[Sh.put,rO]
theorem JZ (hg:GO ds gd e)(ht:Dd P T=some (ag,sz))(hx:St.ev ⟨n,e,st⟩ x=.ptr id g j.toNat off)(hr:st[id]?=some ⟨g,el,size,l.map enc⟩)(hi:Sh.get l j=some u)(hv:St.ev ⟨n,e,st⟩ y=v)(hc:KB v=some cs)(hn:cs.length=sz)(hle:off+cs.length<=size)
  (hsp:HQ (enc u) off cs=enc u') (uW:st.set id ⟨g,el,size,(Sh.put l j u').map enc⟩=st') (hk:AO P k ops Q (ds++[none]) r ⟨n,e,st'⟩):AO P k ops Q ds (⟨none,.store T x y,ty,ps,ed,gd⟩::r) ⟨n,e,st⟩:=
 L6 hg ht hx hr (CS hi) hv hc hn hle (by rw[hsp,cS];exact uW) hk
theorem UU (hg:GO ds gd e)(he:DB P T=some ⟨el,size,bytes,zz⟩)(hx:St.ev ⟨n,e,st⟩ x=.int kk j)(hy:St.ev ⟨n,e,st⟩ y=.int yh j)(hz:enc u=zz)(hl:Sh.mk u j bytes=some l)(hm:st.length=m)(uW:st++[⟨0,el,size,l.map enc⟩]=st')
  (hk:AO P k ops Q (ds++[some t]) r ⟨n,DQ e t (.own m 0 l.length),st'⟩):AO P k ops Q ds (⟨some t,.makeSlice T x y,ty,ps,ed,gd⟩::r) ⟨n,e,st⟩:=by
 subst hm;subst uW;subst hz;refine NX hg ?_;rw[Yp];unfold Sh.mk at hl;split at hl
 .rename_i h;simp only[pD]at hl;subst hl;rw[hx,hy];simp only[sk,List.length_replicate]at hk;exact Aj _ he ⟨rfl,h.1,h.2.1,h.2.2,hk⟩
 .cases hl
theorem Sy {len:Nat}{parts:Array (Nat×Operand)}{pv:List (Nat×AV)}(hg:GO ds gd e)(he:DB P T=some ⟨el,size,bytes,zz⟩)(hle:len*size<=16777216)(hp:(parts.toList.map λp=>(p.1,St.ev ⟨n,e,st⟩ p.2))=pv)
  (hc:Me (λi=>some (i*size,size)) ((List.replicate len zz).flatten) pv=some cs) (hck:chunk size len cs=l.map enc) (hln:len=l.length) (hm:st.length=m) (uW:st++[⟨0,el,size,l.map enc⟩]=st') (hk:AO P k ops Q (ds++[some t]) r ⟨n,DQ e t (.own m 0 l.length),st'⟩) :
  AO P k ops Q ds (⟨some t,.buildSlice T len parts,ty,ps,ed,gd⟩::r) ⟨n,e,st⟩:=by
 subst hm;subst uW;subst hln;refine NX hg ?_;rw[YP,hp];exact Aj _ he ⟨hle,Aj _ hc (by rw[hck];exact hk)⟩
theorem Cs {ys:AV}(hg:GO ds gd e)(he:DB P T=some ⟨el,size,bytes,zz⟩)(hx:St.ev ⟨n,e,st⟩ x=.own id g m)(hr:st[id]?=some ⟨g,el,size,l.map enc⟩)(hm:m=l.length)(hy:St.ev ⟨n,e,st⟩ y=ys)(hel:EL st ys (l2.map enc))(hs :∀a,(enc a).length=size)(ha:Sh.app l l2 bytes=some l')
  (uW:st.set id ⟨g+1,el,size,l'.map enc⟩=st') (hk:AO P k ops Q (ds++[some t]) r ⟨n,DQ e t (.own id (g+1) l'.length),st'⟩):AO P k ops Q ds (⟨some t,.call ⟨.builtin .append,#[x,y],#[T,T]⟩,ty,ps,ed,gd⟩::r) ⟨n,e,st⟩:=by
 subst uW;subst hy;subst hm;refine NX hg ?_;rw[Xf];refine⟨rfl,?_⟩;rw[hx];unfold Sh.app at ha;split at ha
 .rename_i h;simp only[pD]at ha;subst ha;refine Aj _ he (hel _ ⟨λz hz=>?_,Aj _ hr ⟨rfl,(pR _).symm,rfl,rfl,by simpa using h.1,by simpa using h.2,?_⟩⟩)
  .obtain⟨q,_,rfl⟩:=pS.1 hz;exact hs q
  .have e1:(l.map enc).take l.length=l.map enc:=by rw[<- pR (f:=enc) (as:=l),qs]
   have e2:l.length+(l2.map enc).length=(l++l2).length:=by simp
   simp only[e1,e2,<- qv];exact hk
 .cases ha
theorem fv {hop:Operand}(hg:GO ds gd e)(he:DB P T=some ⟨el,size,bytes,zz⟩)(hx:St.ev ⟨n,e,st⟩ x=.own id g m)(hr:st[id]?=some ⟨g,el,size,l.map enc⟩)(hm:m=l.length)(hh:St.ev ⟨n,e,st⟩ hop=.int kk j)(hl:Sh.hi l j=some l')
  (uW:st.set id ⟨g+1,el,size,l'.map enc⟩=st') (hk:AO P k ops Q (ds++[some t]) r ⟨n,DQ e t (.own id (g+1) l'.length),st'⟩):AO P k ops Q ds (⟨some t,.slice T x none (some hop) none,ty,ps,ed,gd⟩::r) ⟨n,e,st⟩:=by
 subst uW;subst hm;refine NX hg ?_;rw[Ut];simp only[qG,sc];rw[hx,hh];unfold Sh.hi at hl;split at hl
 .rename_i h;simp only[pD]at hl;subst hl;refine Aj _ he (Aj _ hr ⟨rfl,(pR _).symm,rfl,Aj _ rfl ⟨h.1,h.2,?_⟩⟩);have e1:(l.take j.toNat).length=j.toNat:=by rw[rQ];omega
  rw[e1,List.map_take]at hk;exact hk
 .cases hl
theorem Tl {lo hi:Option Operand}{i j:Int}(hg:GO ds gd e)(he:DB P T=some ⟨el,size,bytes,zz⟩)(hx:St.ev ⟨n,e,st⟩ x=.sl (l.map enc))(h1:VP (lo.map (St.ev ⟨n,e,st⟩)) 0=some i)(h2:VP (hi.map (St.ev ⟨n,e,st⟩)) l.length=some j)(hs :∀a,(enc a).length=size)(hl:Sh.sl l i j=some l')
  (hk:AO P k ops Q (ds++[some t]) r ⟨n,DQ e t (.sl (l'.map enc)),st⟩):AO P k ops Q ds (⟨some t,.slice T x lo hi none,ty,ps,ed,gd⟩::r) ⟨n,e,st⟩:=by
 refine NX hg ?_;rw[Ut];simp only[sc];rw[hx];unfold Sh.sl at hl;split at hl
 .rename_i h;simp only[pD]at hl;subst hl;refine Aj _ he (Aj _ h1 (Aj _ (by rw[pR];exact h2) ⟨h.1,h.2.1,by simpa using h.2.2,λz hz=>?_,?_⟩))
  .obtain⟨q,_,rfl⟩:=pS.1 hz;exact hs q
  .rw[List.map_drop,List.map_take]at hk;exact hk
 .cases hl
theorem Wl (hg:GO ds gd e)(hs:DH P T=true)(hx:St.ev ⟨n,e,st⟩ x=.sl (l.map enc))(h1:l=[]->AO P k ops Q (ds++[some t]) r ⟨n,DQ e t (.bool true),st⟩)(h2:AO P k ops Q (ds++[some t]) r ⟨n,DQ e t (.bool false),st⟩){yT:TypeId}:
  AO P k ops Q ds (⟨some t,.binOp .eql T x (.const (.slice none 0 0)) yT,ty,ps,ed,gd⟩::r) ⟨n,e,st⟩:=by
 refine NX hg ?_;rw[br];refine⟨hs,?_⟩;rw[hx];exact⟨λh=>h1 (sG.1 h),h2⟩
def Xd:List Row->Prop
 | []=>True
 |row::r=>DG row.xs/\Xd r
theorem Xd.get:∀{l:List Row},Xd l->∀row∈l,DG row.xs
 |row::r,h,yE,hm=>by
  rcases pL.1 hm with rfl|hm
  .exact h.1
  .exact Xd.get h.2 yE hm
variable {f : FuncId} {vJ : Array Operand} {ts : Array TypeId} {args : List AV} {rows : List Row} {s : St}
theorem Bo (hg:GO ds gd e)(hb:Cp P f=true)(hc:BJ P f args [] λr st=>r=v/\st=rows)(ha:vJ.toList.map (St.ev ⟨n,e,st⟩)++[]=args)(hf:args.all flat=true)(hp:Xd rows)(hv:shift st.length v=v')(uW:st++rows=st')
  (hk:AO P k ops Q (ds++[d]) r (St.put ⟨n,e,st'⟩ d v')):AO P k ops Q ds (⟨d,.call ⟨.value (.func f),vJ,ts⟩,ty,ps,ed,gd⟩::r) ⟨n,e,st⟩:=by
 subst hv;subst uW;subst ha;refine NX hg ?_;rw[OQ];refine⟨hb,X1 hc hf ?_⟩;rintro r st' ⟨rfl,rfl⟩;exact⟨hp.get,hk⟩
theorem fZ {g:Nat}{vq:α->List AV}(hr:st[id]?=some ⟨g,el,size,l.map enc⟩)(hu :∀x,Ih (enc x)=vq x):TF st (.own id g l.length)=.sl (l.map vq):=by
 simp only[TF,hr,pt];rw[<- pR (f:=enc) (as:=l),qy,qK,Ia,rG];congr 1;exact ph λx _=>hu x
theorem Te {cs:List AV}(h:cs.all simple=true):Ih cs=cs:=by
 rw[Od];exact (ph (g:=id) λc hc=>V5 (pH.1 h c hc)).trans (qo _)
inductive BC (st:List Row):List AV->List AV->Prop
 |nil:BC st [] []
 |own {α:Type} {l:List α} {enc:α->List AV} {id g size m:Nat} {el:TypeId} {as bs:List AV} (hr:st[id]?=some ⟨g,el,size,l.map enc⟩) (hm:m=l.length) (hp :∀x,(enc x).all simple=true) (h:BC st as bs):BC st (.own id g m::as) (.sl (l.map enc)::bs)
 |ownD {α:Type} {l:List α} {enc vq:α->List AV} {id g size m:Nat} {el:TypeId} {as bs:List AV} (hr:st[id]?=some ⟨g,el,size,l.map enc⟩) (hm:m=l.length) (hp :∀x,(enc x).all E6=true) (hu :∀x,Ih (enc x)=vq x) (h:BC st as bs):BC st (.own id g m::as) (.sl (l.map vq)::bs)
 |val {v:AV} {as bs:List AV} (hv:simple v=true) (h:BC st as bs):BC st (v::as) (v::bs)
inductive BA (st:List Row):List AV->List AV->Prop
 |nil:BA st [] []
 |own {α:Type} {l:List α} {enc:α->List AV} {id g size m:Nat} {el:TypeId} {as bs:List AV} (hr:st[id]?=some ⟨g,el,size,l.map enc⟩) (hm:m=l.length) (hp :∀x,(enc x).all simple=true) (h:BA st as bs):BA st (.own id g m::as) (.sl (l.map enc)::bs)
 |ownD {α:Type} {l:List α} {enc vq:α->List AV} {id g size m:Nat} {el:TypeId} {as bs:List AV} (hr:st[id]?=some ⟨g,el,size,l.map enc⟩) (hm:m=l.length) (hp :∀x,(enc x).all E6=true) (hu :∀x,Ih (enc x)=vq x) (h:BA st as bs):BA st (.own id g m::as) (.sl (l.map vq)::bs)
 |agg {cs ds:List AV} {as bs:List AV} (hc:BC st cs ds) (h:BA st as bs):BA st (.agg cs::as) (.agg ds::bs)
 |val {v:AV} {as bs:List AV} (hv:flat v=true) (h:BA st as bs):BA st (v::as) (v::bs)
theorem Ud {v:AV}(h:simple v=true):TF st v=v:=by cases v<;>simp_all [simple,TF]
theorem BC.spec {as bs:List AV}(h:BC st as bs):as.map (TF st)=bs/\bs.all simple=true/\∀id g n,AV.own id g n∈as->∀row,st[id]?=some row->DG row.xs:=by
 induction h with
 |nil=>exact⟨rfl,rfl,by simp⟩
 |own hr hm hp h ih=>
  obtain⟨h1,h2,h3⟩:=ih;subst hm;refine⟨by rw[pd,fZ hr (λx=>Te (hp x)),h1],by simp[simple,h2],λvI g' n' hx row tw=>?_⟩;rcases pL.1 hx with hx|hx
  .cases hx;rw[hr]at tw;cases tw;exact (Ah hp).any
  .exact h3 vI g' n' hx row tw
 |ownD hr hm hp hu h ih=>
  obtain⟨h1,h2,h3⟩:=ih;subst hm;refine⟨by rw[pd,fZ hr hu,h1],by simp[simple,h2],λvI g' n' hx row tw=>?_⟩;rcases pL.1 hx with hx|hx
  .cases hx;rw[hr]at tw;cases tw;exact Aq hp
  .exact h3 vI g' n' hx row tw
 | @val v as bs hv h ih=>
  obtain⟨h1,h2,h3⟩:=ih;refine⟨by rw[pd,Ud hv,h1],by simp[hv,h2],λvI g' n' hx row tw=>?_⟩;rcases pL.1 hx with hx|hx
  .subst hx;simp[simple]at hv
  .exact h3 vI g' n' hx row tw
theorem BA.spec {as bs:List AV}(h:BA st as bs):as.map (IA st)=bs/\bs.all flat=true/\∀id g n,Rb as id g n->∀row,st[id]?=some row->DG row.xs:=by
 induction h with
 |nil=>exact⟨rfl,rfl,by rintro id g n (h|⟨_,h,_⟩)<;>simp at h⟩
 |own hr hm hp h ih=>
  obtain⟨h1,h2,h3⟩:=ih;subst hm;refine⟨by rw[pd,h1];congr 1;exact fZ hr (λx=>Te (hp x)),by simp[flat,h2],λvI g' n' hx row tw=>?_⟩;rcases hx with hx|⟨cs,hx,vR⟩
  .rcases pL.1 hx with hx|hx
   .cases hx;rw[hr]at tw;cases tw;exact (Ah hp).any
   .exact h3 vI g' n' (.inl hx) row tw
  .rcases pL.1 hx with hx|hx
   .cases hx
   .exact h3 vI g' n' (.inr ⟨cs,hx,vR⟩) row tw
 |ownD hr hm hp hu h ih=>
  obtain⟨h1,h2,h3⟩:=ih;subst hm;refine⟨by rw[pd,h1];congr 1;exact fZ hr hu,by simp[flat,h2],λvI g' n' hx row tw=>?_⟩;rcases hx with hx|⟨cs,hx,vR⟩
  .rcases pL.1 hx with hx|hx
   .cases hx;rw[hr]at tw;cases tw;exact Aq hp
   .exact h3 vI g' n' (.inl hx) row tw
  .rcases pL.1 hx with hx|hx
   .cases hx
   .exact h3 vI g' n' (.inr ⟨cs,hx,vR⟩) row tw
 |agg hc h ih=>
  obtain⟨h1,h2,h3⟩:=ih;obtain⟨g1,g2,g3⟩:=hc.spec;refine⟨by rw[pd,h1];simp only[IA,g1],by simp only[rR,h2,tA];simpa [flat] using g2,λvI g' n' hx row tw=>?_⟩;rcases hx with hx|⟨cs,hx,vR⟩
  .rcases pL.1 hx with hx|hx
   .cases hx
   .exact h3 vI g' n' (.inl hx) row tw
  .rcases pL.1 hx with hx|hx
   .cases hx;exact g3 vI g' n' vR row tw
   .exact h3 vI g' n' (.inr ⟨cs,hx,vR⟩) row tw
 | @val v as bs hv h ih=>
  obtain⟨h1,h2,h3⟩:=ih;have e1:IA st v=v:=by
   cases v<;>simp[flat]at hv<;>try rfl
   rename_i cs;simp only[IA];congr 1;exact (ph (g:=id) λc hc=>Ud (hv c hc)).trans (qo _)
  refine⟨by rw[pd,e1,h1],by simp[hv,h2],λvI g' n' hx row tw=>?_⟩;rcases hx with hx|⟨cs,hx,vR⟩
  .rcases pL.1 hx with hx|hx
   .subst hx;simp[flat]at hv
   .exact h3 vI g' n' (.inl hx) row tw
  .rcases pL.1 hx with hx|hx
   .subst hx;have:=pH.1 (show cs.all simple=true from hv) _ vR;simp[simple]at this
   .exact h3 vI g' n' (.inr ⟨cs,hx,vR⟩) row tw
def PE:List Row->Prop
 | []=>True
 |row::r=>(DG row.xs/\∀x∈row.xs,∀c∈x,OO c=true)/\PE r
theorem PE.get:∀{l:List Row},PE l->∀row∈l,DG row.xs/\∀x∈row.xs,∀c∈x,OO c=true
 |row::r,h,yE,hm=>by
  rcases pL.1 hm with rfl|hm
  .exact h.1
  .exact PE.get h.2 yE hm
theorem mY {g:Nat}(h :∀x,(enc x).all (λc=>E6 c&&OO c)=true)(hr:PE rows):PE (⟨g,el,size,l.map enc⟩::rows):=by
 refine⟨⟨λx hx c hc=>?_,λx hx c hc=>?_⟩,hr⟩ <;>
 .obtain⟨y,_,rfl⟩:=pS.1 hx;have:=pH.1 (h y) c hc;simp only[pb]at this;first|exact this.1|exact this.2
theorem mM {g:Nat}(h :∀x,(enc x).all (λc=>simple c&&OO c)=true)(hr:PE rows):PE (⟨g,el,size,l.map enc⟩::rows):=
 mY (λx=>pH.2 λc hc=>by
  have:=pH.1 (h x) c hc;simp only[pb]at this⊢;exact⟨Px this.1,this.2⟩) hr
theorem Lz {as:List AV}(hg:GO ds gd e)(hb:Cp P f=true)(hc:BJ P f args [] λr st=>r=v/\st=rows)(ha:vJ.toList.map (St.ev ⟨n,e,st⟩)++[]=as)(hba:BA st as args)(hsc:gA v=true)(hp:PE rows)(hv:shift st.length v=v')(uW:st++rows=st')
  (hk:AO P k ops Q (ds++[d]) r (St.put ⟨n,e,st'⟩ d v')):AO P k ops Q ds (⟨d,.call ⟨.value (.func f),vJ,ts⟩,ty,ps,ed,gd⟩::r) ⟨n,e,st⟩:=by
 subst hv;subst uW;subst ha;obtain⟨h1,h2,h3⟩:=hba.spec;refine NX hg ?_;rw[OQ];refine⟨hb,Oj (R:=λr st=>r=v/\st=rows) ?_ ?_ h3 ?_⟩
 .show BJ P f (List.map (IA st) _) [] _;rw[h1];exact hc
 .show (List.map (IA st) _).all flat=true;rw[h1];exact h2
 .rintro r st' ⟨rfl,rfl⟩;exact⟨⟨hsc,λrow tw=>(hp.get row tw).2⟩,λrow tw=>(hp.get row tw).1,hk⟩
theorem dG {as:List AV}{KS:St->Prop}{t:Tmp}(hg:GO ds gd e)(hb:Cp P f=true)(hc:BJ P f args [] λr st=>r=v/\st=[])(ha:vJ.toList.map (St.ev ⟨n,e,st⟩)++[]=as)(hba:BA st as args)(hsc:gA v=true)(hv:shift st.length v=v')
  (hk:EN P (ds++[some t]) r KS ⟨n,DQ e t v',st⟩):EN P ds (⟨some t,.call ⟨.value (.func f),vJ,ts⟩,ty,ps,ed,gd⟩::r) KS ⟨n,e,st⟩:=by
 subst hv;subst ha;obtain⟨h1,h2,h3⟩:=hba.spec;refine gM hg rfl (λs0 e1 e2 hd k F os a w hr next Q hn=>?_) hk;refine L3 (k:=k) (K:=(·=s0.put (some t) (shift st.length v))) hr hd ?_ hn;show Cp P f=true/\callThen P k s0 f (vJ.toList.map s0.ev++[]) (some t) _;rw[T5 e2];refine⟨hb,?_⟩;subst e1;refine Oj (R:=λr st'=>r=v/\st'=[]) ?_ ?_ h3 ?_
 .show BJ P f (List.map (IA s0.st) _) [] _;rw[h1];exact hc
 .show (List.map (IA s0.st) _).all flat=true;rw[h1];exact h2
 .rintro r st' ⟨rfl,rfl⟩;refine⟨⟨hsc,by simp⟩,by simp,?_⟩;rw[qS]
end
section
variable {P : Program} {k : Nat} {Q : Exit -> St -> Prop} {s s' : St} {x y c : Code}
theorem G3 {o:Operand}{b:Bool}(ho:s.ev o=.bool b)(h1:b=true->AW P k x Q s)(h2:b=false->AW P k y Q s):AW P k (.cond o x y) Q s:=
 AW.cond λK1 K2 e1 e2=>by rw[ho];exact⟨λh=>e1 (h1 h),λh=>e2 (h2 h)⟩
theorem Am {σ:Type}(I:Nat->σ->Prop)(canon:σ->St)(n0:Nat)(v0:σ)(h0:I n0 v0)(hw:Wk k s (canon v0))(hz :∀v,¬ I 0 v)
  (round :∀n v,I (n+1) v->AW P k c (LX (λs'=>∃v',I n v'/\Wk k s' (canon v')) Q) (canon v)):AW P k (.loop c) Q s:=by
 refine AG hw ?_;have key:∀n v,I n v->∀F os a w,Rel F os (canon v) a w->∀(b:Frame) (kk:List Item) (cs:List Frame),
   ∃e a' w',K0 k Q F os w e a' w'/\Arrives P (lone (b.at a (.code c::.inLoop c::kk)) cs w) b kk cs e a' w':=by
  intro n
  induction n with
  |zero=>intro v hI;exact absurd hI (hz v)
  |succ n ih=>
   intro v hI F os a w hr b kk cs;obtain⟨e,a₁,w₁,⟨s1,F1,vE,hq,hR1,hE1⟩,harr⟩:=round n v hI F os a w hr b (.inLoop c::kk) cs;cases e with
   |normal=>
    obtain⟨v2,hI2,hw2⟩:=hq;obtain⟨F2,os2,hR2,hE2⟩:=hw2 F1 vE a₁ w₁ hR1;obtain⟨e₂,a₂,w₂,hq₂,harr₂⟩:=ih v2 hI2 F2 os2 a₁ w₁ hR2 b kk cs;exact⟨e₂,a₂,w₂,hq₂.trans (hE1.trans hE2),.of_steps (Steps.trans harr (.one step_inLoop)) harr₂⟩
   |exit id=>exact⟨_,a₁,w₁,⟨s1,F1,vE,hq,hR1,hE1⟩,.pass (x:=.inLoop c) rfl (λ_ _=>.inl (by simp)) harr⟩
   |goto l=>exact⟨_,a₁,w₁,⟨s1,F1,vE,hq,hR1,hE1⟩,.pass (x:=.inLoop c) rfl (λ_ _=>.inl (by simp)) harr⟩
   |ret=>exact⟨_,a₁,w₁,⟨s1,F1,vE,hq,hR1,hE1⟩,.pass (x:=.inLoop c) rfl (λ_ _=>.inl (by simp)) harr⟩
   |panic ch=>exact⟨_,a₁,w₁,⟨s1,F1,vE,hq,hR1,hE1⟩,.pass (x:=.inLoop c) rfl (λ_ _=>.inl (by simp)) harr⟩
   |outgrown=>exact⟨_,a₁,w₁,⟨s1,F1,vE,hq,hR1,hE1⟩,.pass (x:=.inLoop c) rfl (λ_ _=>.inl (by simp)) harr⟩
 intro F os a w hr b kk cs;obtain⟨e,a',w',hq,harr⟩:=key n0 v0 h0 F os a w hr b kk cs;exact⟨e,a',w',hq,.of_steps (.one step_loop) harr⟩
end
end Go.Abs
