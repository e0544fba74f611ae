import Derived.Test.YtccficmcdkcpnaaGreatAbsO
set_option linter.all false
namespace Go.Abs
open Go
def AQ (P:Program)(s:St)(op:Op)(v:AV):Prop:=∀K:AV->Prop,K v->Is P s op K
def EL (st:List Row)(v:AV)(ys:List (List AV)):Prop:=∀K:List (List AV)->Prop,K ys->X6 st v K
section
variable {P : Program} {s : St} {x y z c : Operand} {v : AV} {t t' : TypeId} {kk : IntKind} {a b : Int} {p q : Bool}
theorem Lc (h:s.ev x=v):AQ P s (.move x) v:=λK hk=>by show K (s.ev x);rw[h];exact hk
theorem TC (h:s.ev x=v):AQ P s (.assign x) v:=λK hk=>by show K (s.ev x);rw[h];exact hk
theorem fB {x y:AV}{K:AV->Prop}(h:K x):PZ (.bool true) x y K:=by
 cases x<;>cases y<;>first|exact h|exact⟨λ_=>h,λh=>by cases h⟩
theorem ez {x y:AV}{K:AV->Prop}(h:K y):PZ (.bool false) x y K:=by
 cases x<;>cases y<;>first|exact h|exact⟨λh=>(by cases h),λ_=>h⟩
theorem Ee (hc:s.ev c=.bool p)(hp:p=true)(hx:s.ev x=v):AQ P s (.pick c x y) v:=λK hk=>by
 show PZ (s.ev c) (s.ev x) (s.ev y) K;rw[hc,hp,hx];exact fB hk
theorem D6 (hc:s.ev c=.bool p)(hp:p=false)(hy:s.ev y=v):AQ P s (.pick c x y) v:=λK hk=>by
 show PZ (s.ev c) (s.ev x) (s.ev y) K;rw[hc,hp,hy];exact ez hk
variable (hx : s.ev x = .int kk a) (hy : s.ev y = .int kk b)
include hx hy
theorem JS {op:BinOp}(h :∀K:AV->Prop,K v->Y7 op kk a b K):AQ P s (.binOp op t x y t') v:=λK hk=>by
 show VF P t op (s.ev x) (s.ev y) K;rw[hx,hy];exact⟨rfl,h K hk⟩
theorem fF:AQ P s (.binOp .add t x y t') (.int kk (Sh.wk kk (a+b))):=JS hx hy λ_ hk=>hk
theorem gT:AQ P s (.binOp .sub t x y t') (.int kk (Sh.wk kk (a-b))):=JS hx hy λ_ hk=>hk
theorem ek:AQ P s (.binOp .mul t x y t') (.int kk (Sh.wk kk (a*b))):=JS hx hy λ_ hk=>hk
theorem an:AQ P s (.binOp .lss t x y t') (.bool (decide (a<b))):=JS hx hy λ_ hk=>hk
theorem kQ:AQ P s (.binOp .leq t x y t') (.bool (decide (a<=b))):=JS hx hy λ_ hk=>hk
theorem jz:AQ P s (.binOp .gtr t x y t') (.bool (decide (b<a))):=JS hx hy λ_ hk=>hk
theorem kT:AQ P s (.binOp .geq t x y t') (.bool (decide (b<=a))):=JS hx hy λ_ hk=>hk
theorem kr:AQ P s (.binOp .eql t x y t') (.bool (decide (a=b))):=JS hx hy λ_ hk=>hk
theorem jb:AQ P s (.binOp .neq t x y t') (.bool (!decide (a=b))):=JS hx hy λ_ hk=>hk
end
section
variable {P : Program} {s : St} {x y z c : Operand} {v : AV} {t t' : TypeId} {kk : IntKind} {a b : Int} {p q : Bool}
variable (hx : s.ev x = i64 a) (hy : s.ev y = i64 b)
include hx hy
theorem Xc:AQ P s (.binOp .add t x y t') (i64 (Sh.w (a+b))):=JS hx hy λ_ hk=>hk
theorem gi:AQ P s (.binOp .sub t x y t') (i64 (Sh.w (a-b))):=JS hx hy λ_ hk=>hk
theorem jF:AQ P s (.binOp .mul t x y t') (i64 (Sh.w (a*b))):=JS hx hy λ_ hk=>hk
end
section
variable {P : Program} {s : St} {x y z c : Operand} {v : AV} {t t' : TypeId} {kk uz : IntKind} {a b : Int} {p q ag : Bool} {id g i off vA f size sz bytes m j : Nat} {cs vs : List AV} {xs : List (List AV)} {el : TypeId}
theorem gh (ht:Np P t=true)(hx:s.ev x=.bool p)(hy:s.ev y=.bool q):AQ P s (.binOp .eql t x y t') (.bool (p==q)):=λK hk=>by
 show VF P t .eql (s.ev x) (s.ev y) K;rw[hx,hy];exact⟨ht,hk⟩
theorem iB (ht:Np P t=true)(hx:s.ev x=.bool p)(hy:s.ev y=.bool q):AQ P s (.binOp .neq t x y t') (.bool (p != q)):=λK hk=>by
 show VF P t .neq (s.ev x) (s.ev y) K;rw[hx,hy];exact⟨ht,hk⟩
theorem iY (hx:s.ev x=.bool p):AQ P s (.unOp .not t x) (.bool (!p)):=λK hk=>by
 show cr .not (s.ev x) K;rw[hx];exact hk
theorem iC (hx:s.ev x=i64 a):AQ P s (.unOp .neg t x) (i64 (Sh.w (-a))):=λK hk=>by
 show cr .neg (s.ev x) K;rw[hx];exact hk
def YE (P:Program)(src dst:TypeId):Option IntKind:=
 match P.underlying src,P.underlying dst with
 | some _,some (.int k)=>some k
 | _,_=>none
theorem eW (hc:YE P t t'=some uz)(hx:s.ev x=.int kk a):AQ P s (.convert t t' x) (.int uz (Sh.wk uz a)):=λK hk=>by
 show U2 P t t' (s.ev x) K;rw[hx];unfold YE at hc;unfold U2;split at hc
 ·rename_i h1 h2;simp only[mU]at hc;subst hc;simp only[h1,h2];exact hk
 ·cases hc
theorem ko (hx:s.ev x=.C7 vs)(hv:vs[i]?=some v):AQ P s (.extract x i) v:=λK hk=>by
 show QI (s.ev x) i K;rw[hx];exact Ai v hv hk
theorem XV {fn:FuncId}{sM:Array Operand}(hc:sM.toList.map s.ev=cs):AQ P s (.makeFunc (.func fn) #[] sM) (.fn fn cs):=λK hk=>by
 subst hc;exact .inl ⟨rfl,hk⟩
theorem iQ (ht:CF P t=some (false,sz))(hx:s.ev x=.Bz cs off)(hv:cs[off]?=some v):AQ P s (.load t x) v:=λK hk=>by
 show PD P s.st t (s.ev x) K;rw[hx];exact Ai _ ht (Ai v hv hk)
theorem ZW (ht:CF P t=some (true,sz))(hx:s.ev x=.Bz cs off)(hl:off+sz<=cs.length)(hv:(cs.drop off).take sz=vs):AQ P s (.load t x) (.agg vs):=λK hk=>by
 show PD P s.st t (s.ev x) K;rw[hx];subst hv;exact Ai _ ht ⟨hl,hk⟩
theorem DH (ht:CF P t=some (false,sz))(hx:s.ev x=.ptr id g i off)(hr:s.st[id]?=some ⟨g,el,size,xs⟩)(hi:xs[i]?=some cs)(hv:cs[off]?=some v):AQ P s (.load t x) v:=λK hk=>by
 show PD P s.st t (s.ev x) K;rw[hx];exact Ai _ ht (Ai _ hr ⟨rfl,Ai cs hi (Ai v hv hk)⟩)
theorem Cz (ht:CF P t=some (true,sz))(hx:s.ev x=.ptr id g i off)(hr:s.st[id]?=some ⟨g,el,size,xs⟩)(hi:xs[i]?=some cs)(hl:off+sz<=cs.length)(hv:(cs.drop off).take sz=vs):AQ P s (.load t x) (.agg vs):=λK hk=>by
 show PD P s.st t (s.ev x) K;rw[hx];subst hv;exact Ai _ ht (Ai _ hr ⟨rfl,Ai cs hi ⟨hl,hk⟩⟩)
theorem ix (hf:Ic P t f=some j)(hx:s.ev x=.Bz cs off)(ho:off+j=vA):AQ P s (.fieldAddr t x f) (.Bz cs vA):=λK hk=>by
 show LH P t (s.ev x) f s.st K;rw[hx];subst ho;exact Ai _ hf hk
theorem Ie (hf:Ic P t f=some j)(hx:s.ev x=.ptr id g i off)(hr:s.st[id]?=some ⟨g,el,size,xs⟩)(hl:off+j<=size)(ho:off+j=vA):AQ P s (.fieldAddr t x f) (.ptr id g i vA):=λK hk=>by
 show LH P t (s.ev x) f s.st K;rw[hx];subst ho;exact Ai _ hf (Ai _ hr ⟨rfl,hl,hk⟩)
def Ti (P:Program)(t:TypeId)(f:Nat):Option (Nat×Bool×Nat):=
 match P.underlying t with
 | some (.struct fs)=>match fs[f]? with
  | some g=>match CF P g.type with
   | some ti=>some (g.offset,ti)
   | none=>none
  | none=>none
 | _=>none
theorem Up {f o:Nat}{ti:Bool×Nat}{K:AV->Prop}(h:Ti P t f=some (o,ti))(hk:KT ti.1 ti.2 cs o K):Mf P t (.agg cs) f K:=by
 unfold Ti at h;unfold Mf;split at h
 ·rename_i fs hu;split at h
  ·rename_i gg hg;split at h
   ·rename_i ti' ht;simp only[mU,qV]at h;obtain⟨rfl,rfl⟩:=h;rw[hu];exact Ai _ hg (Ai _ ht hk)
   ·cases h
  ·cases h
 ·cases h
theorem jq (hf:Ti P t f=some (off,false,sz))(hx:s.ev x=.agg cs)(hv:cs[off]?=some v):AQ P s (.field t x f) v:=λK hk=>by
 show Mf P t (s.ev x) f K;rw[hx];exact Up hf (Ai v hv hk)
theorem jK (hf:Ti P t f=some (off,true,sz))(hx:s.ev x=.agg cs)(hl:off+sz<=cs.length)(hv:(cs.drop off).take sz=vs):AQ P s (.field t x f) (.agg vs):=λK hk=>by
 show Mf P t (s.ev x) f K;rw[hx];subst hv;exact Up hf ⟨hl,hk⟩
variable {α : Type} {l l' : List α} {enc : α -> List AV} {n : Int} {zz : List AV} {u : α}
theorem GC (h:Sh.get l n=some u):(l.map enc)[n.toNat]?=some (enc u):=by
 rw[mX,(Sh.get_some h).2.1];rfl
theorem Bi (he:CH P t=some ⟨el,size,bytes,zz⟩)(hx:s.ev x=.sl (l.map enc))(hy:s.ev y=.int kk n)(hg:Sh.get l n=some u)(hs:(enc u).length=size):AQ P s (.indexAddr t x y) (.Bz (enc u) 0):=λK hk=>by
 show IX P s.st t (s.ev x) (s.ev y) K;rw[hx,hy];exact Ai _ he ⟨(Sh.get_some hg).1,Ai _ (GC hg) ⟨hs,hk⟩⟩
theorem Ca (he:CH P t=some ⟨el,size,bytes,zz⟩)(hx:s.ev x=.own id g m)(hy:s.ev y=.int kk n)(hr:s.st[id]?=some ⟨g,el,size,l.map enc⟩)(hm:m=l.length)(hg:Sh.get l n=some u):
  AQ P s (.indexAddr t x y) (.ptr id g n.toNat 0):=λK hk=>by
 show IX P s.st t (s.ev x) (s.ev y) K;rw[hx,hy];subst hm;exact Ai _ he ⟨(Sh.get_some hg).1,(Sh.get_some hg).2.2,Ai _ hr ⟨rfl,rfl,by simpa using hk⟩⟩
theorem Bo (hs:B1 P t=true)(hx:s.ev x=.sl (l.map enc)):AQ P s (.call ⟨.builtin .len,#[x],#[t]⟩) (i64 (Sh.len l)):=λK hk=>by
 refine⟨hs,?_⟩;rw[hx];simp only[cA,mf];exact hk
theorem E9 (hs:B1 P t=true)(hx:s.ev x=.own id g m)(hr:s.st[id]?=some ⟨g,el,size,l.map enc⟩)(hm:m=l.length):AQ P s (.call ⟨.builtin .len,#[x],#[t]⟩) (i64 (Sh.len l)):=λK hk=>by
 refine⟨hs,?_⟩;subst hm;rw[hx];exact Ai _ hr ⟨rfl,hk⟩
theorem ZP (hs:B1 P t=true)(hx:s.ev x=.zc):AQ P s (.call ⟨.builtin .len,#[x],#[t]⟩) (i64 0):=λK hk=>by
 refine⟨hs,?_⟩;rw[hx];exact hk
theorem jD (hx:s.ev x=.ptr id g i off)(hr:s.st[id]?=some ⟨g,el,size,xs⟩):AQ P s (.nilCheck x) (.ptr id g i off):=λK hk=>by
 show Wv s.st (s.ev x) K;rw[hx];exact Ai _ hr ⟨rfl,hk⟩
theorem gv (hx:s.ev x=.Bz cs off):AQ P s (.nilCheck x) (.Bz cs off):=λK hk=>by
 show Wv s.st (s.ev x) K;rw[hx];exact hk
theorem HU {parts:Array (Nat×Operand)}{fs:List (Nat×Nat)}{pv:List (Nat×AV)}(ha:G4 P t=true)(hf:Ij P t=some fs)(hz:Gz P t=some zz)(hp:(parts.toList.map λp=>(p.1,s.ev p.2))=pv)(hc:NB (fs[·]?) zz pv=some cs):
  AQ P s (.build t parts) (.agg cs):=λK hk=>by
 show YD P t (parts.toList.map λp=>(p.1,s.ev p.2)) K;rw[hp];exact⟨ha,Ai _ hf (Ai _ hz (Ai _ hc hk))⟩
variable {st : List Row} {ys : List (List AV)}
theorem OV:EL st (.sl ys) ys:=λ_ hk=>hk
theorem MQ (hr:st[id]?=some ⟨g,el,size,l.map enc⟩)(hm:m=l.length)(uP :∀x,(enc x).all AV.leaf=true:=by exact λ_=>rfl):EL st (.own id g m) (l.map enc):=λK hk=>by
 subst hm;refine Ai _ hr ⟨rfl,λy hy c hc=>?_,?_⟩
 ·obtain⟨x,_,rfl⟩:=mu.1 hy;exact ma.1 (uP x) c hc
 rw[<- mf (f:=enc) (as:=l),nT];exact⟨rfl,hk⟩
end
section
variable {P : Program} {k : Nat} {ops : Array Oper} {Q : Exit -> St -> Prop} {ds : List (Option Tmp)} {r : List Oper} {n : Nat} {e : Nat -> AV} {st st' : List Row} {op : Op} {ty : TypeId} {ps : String} {ed : Array Edge} {d : Option Tmp} {t : Tmp} {v v' : AV}
variable {jj : Nat} {want b : Bool} {tg : Tmp} {gd : Option (Nat × Bool)}
def GO (ds:List (Option Tmp))(gd:Option (Nat×Bool))(e:Nat->AV):Prop:=
 match gd with
 | none=>True
 | some (jj,want)=>∃tg,ds[jj]?=some (some tg)/\e tg=.bool want
theorem AN:GO ds none e:=mV
theorem BI (hj:ds[jj]?=some (some tg))(ht:e tg=.bool b)(hb:b=want):GO ds (some (jj,want)) e:=⟨tg,hj,by rw[ht,hb]⟩
theorem GO.guard {A B:Prop}(hg:GO ds gd e)(h:A):JJ ds ⟨d,op,ty,ps,ed,gd⟩ ⟨n,e,st⟩ A B:=by
 unfold GO at hg;unfold JJ;cases gd with
 | none=>exact h
 | some q=>
  obtain⟨jj,want⟩:=q;obtain⟨tg,hj,ht⟩:=hg;simp only[hj,ht,Yo];exact⟨λ_=>h,λhh=>absurd rfl hh⟩
theorem At (hg:GO ds gd e)(hl:KH op=false)(hq:AQ P ⟨n,e,st⟩ op v)(hk:AO P k ops Q (ds++[some t]) r ⟨n,Ew e t v,st⟩):AO P k ops Q ds (⟨some t,op,ty,ps,ed,gd⟩::r) ⟨n,e,st⟩:=by
 refine N3 (hg.guard ?_);unfold KR;simp only[hl,mW,my];exact hq _ hk
theorem LN (hg:GO ds gd e)(h:KR P k ⟨d,op,ty,ps,ed,gd⟩ ⟨n,e,st⟩ (AO P k ops Q (ds++[d]) r)):AO P k ops Q ds (⟨d,op,ty,ps,ed,gd⟩::r) ⟨n,e,st⟩:=
 N3 (hg.guard h)
theorem gM (hj:ds[jj]?=some (some tg))(ht:e tg=.bool b)(hb:b=!want)(h:AO P k ops Q (ds++[some t]) r ⟨n,Ew e t .un,st⟩):AO P k ops Q ds (⟨some t,op,ty,ps,ed,some (jj,want)⟩::r) ⟨n,e,st⟩:=by
 refine N3 ?_;subst hb;simp only[JJ,hj,ht,Yo];exact⟨λh=>(by cases want<;>cases h),λ_=>h⟩
theorem fu (hj:ds[jj]?=some (some tg))(ht:e tg=.un)(h:AO P k ops Q (ds++[some t]) r ⟨n,Ew e t .un,st⟩):AO P k ops Q ds (⟨some t,op,ty,ps,ed,some (jj,want)⟩::r) ⟨n,e,st⟩:=by
 refine N3 ?_;simp only[JJ,hj,ht,Yo];exact h
variable {KS : St -> Prop}
theorem JY (hg:GO ds gd e)(hl:KH op=false)(hq:AQ P ⟨n,e,st⟩ op v)(hk:DI P (ds++[some t]) r KS ⟨n,Ew e t v,st⟩):DI P ds (⟨some t,op,ty,ps,ed,gd⟩::r) KS ⟨n,e,st⟩:=by
 refine hg.guard ?_;unfold LZ;simp only[hl,mW,my];exact hq _ hk
theorem da (hg:GO ds gd e)(hl:KH op=true)(hq :∀s0:St,s0.st=st->(∀x∈op.operands,s0.ev x=St.ev ⟨n,e,st⟩ x)->Ce s0.n (some t)=true->Yl P ⟨some t,op,ty,ps,ed,gd⟩ s0 v)(hk:DI P (ds++[some t]) r KS ⟨n,Ew e t v,st⟩):DI P ds (⟨some t,op,ty,ps,ed,gd⟩::r) KS ⟨n,e,st⟩:=by
 refine hg.guard ?_;unfold LZ;simp only[hl,nL];exact⟨v,hq,hk⟩
theorem jJ (hj:ds[jj]?=some (some tg))(ht:e tg=.bool b)(hb:b=!want)(h:DI P (ds++[some t]) r KS ⟨n,Ew e t .un,st⟩):DI P ds (⟨some t,op,ty,ps,ed,some (jj,want)⟩::r) KS ⟨n,e,st⟩:=by
 subst hb;simp only[DI,JJ,hj,ht,Yo];exact⟨λh=>(by cases want<;>cases h),λ_=>h⟩
theorem jM (hj:ds[jj]?=some (some tg))(ht:e tg=.un)(h:DI P (ds++[some t]) r KS ⟨n,Ew e t .un,st⟩):DI P ds (⟨some t,op,ty,ps,ed,some (jj,want)⟩::r) KS ⟨n,e,st⟩:=by
 simp only[DI,JJ,hj,ht,Yo];exact h
theorem BG {s:St}(h:KS s):DI P ds [] KS s:=h
theorem Zw {sx:Array Operand}{f:FuncId}{ts:Array TypeId}{s0 s1:St}(h :∀x∈(Op.call ⟨.value (.func f),sx,ts⟩).operands,s0.ev x=s1.ev x):sx.toList.map s0.ev=sx.toList.map s1.ev:=
 nD λx hx=>h x (by simp[Op.operands,Call.operands];right;simpa using hx)
theorem CU {f:FuncId}{sx:Array Operand}{ts:Array TypeId}{args:List AV}(hg:GO ds gd e)(hb:Dy P f=true)(hc:BJ P f args [] λr st=>r=v/\st=[])(ha:sx.toList.map (St.ev ⟨n,e,st⟩)++[]=args)(hf:args.all flat=true)(hv:flat v=true)
  (hk:DI P (ds++[some t]) r KS ⟨n,Ew e t v,st⟩):DI P ds (⟨some t,.call ⟨.value (.func f),sx,ts⟩,ty,ps,ed,gd⟩::r) KS ⟨n,e,st⟩:=by
 refine da hg rfl (λs0 e1 e2 hd k F os a w hr next Q hn=>?_) hk;refine P1 (k:=k) (K:=(·=s0.put (some t) v)) hr hd ?_ hn;show Dy P f=true/\callThen P k s0 f (sx.toList.map s0.ev++[]) (some t) _;rw[Zw e2,ha];exact⟨hb,UR hc hf hv rfl⟩
variable {α : Type} {l l' l2 : List α} {enc : α -> List AV} {kk uz : IntKind} {j : Int} {el T : TypeId} {size bytes sz id g i m off : Nat} {zz cs us : List AV} {x y : Operand} {xs : List (List AV)} {ag : Bool} {u u' : α}
theorem Aj (hg:GO ds gd e)(hz:Gz P T=some zz)(hm:st.length=m)(ra:st++[⟨0,T,zz.length,[zz]⟩]=st')(hk:AO P k ops Q (ds++[some t]) r ⟨n,Ew e t (.ptr m 0 0 0),st'⟩):AO P k ops Q ds (⟨some t,.alloc T,ty,ps,ed,gd⟩::r) ⟨n,e,st⟩:=by
 subst hm;subst ra;exact LN hg (Ai _ hz hk)
theorem Az (hg:GO ds gd e)(hx:St.ev ⟨n,e,st⟩ x=v)(hc:Jq v=some cs)(sB:cs.isEmpty=false)(hm:st.length=m)(ra:st++[⟨0,T,cs.length,[cs]⟩]=st')(hk:AO P k ops Q (ds++[some t]) r ⟨n,Ew e t (.ptr m 0 0 0),st'⟩):AO P k ops Q ds (⟨some t,.box T x,ty,ps,ed,gd⟩::r) ⟨n,e,st⟩:=by
 subst hm;subst ra;subst hx;exact LN hg (Ai _ hc ⟨(by intro h;rw[h]at sB;cases sB),hk⟩)
theorem Al (hg:GO ds gd e)(ht:CF P T=some (ag,sz))(hx:St.ev ⟨n,e,st⟩ x=.ptr id g i off)(hr:st[id]?=some ⟨g,el,size,xs⟩)(hi:xs[i]?=some zz)(hv:St.ev ⟨n,e,st⟩ y=v)(hc:Jq v=some cs)(hn:cs.length=sz)(hle:off+cs.length<=size)
  (ra:st.set id ⟨g,el,size,xs.set i (Gf zz off cs)⟩=st') (hk:AO P k ops Q (ds++[none]) r ⟨n,e,st'⟩):AO P k ops Q ds (⟨none,.store T x y,ty,ps,ed,gd⟩::r) ⟨n,e,st⟩:=by
 subst ra;subst hv;refine LN hg ?_;rw[du,hx];exact Ai _ ht (Ai _ hr ⟨rfl,Ai _ hi (Ai _ hc ⟨hn,hle,hk⟩)⟩)
theorem Zs {j:Int}:(l.map enc).set j.toNat (enc u)=(Sh.put l j u).map enc:=by simp[Sh.put,oR]
theorem J4 (hg:GO ds gd e)(ht:CF P T=some (ag,sz))(hx:St.ev ⟨n,e,st⟩ x=.ptr id g j.toNat off)(hr:st[id]?=some ⟨g,el,size,l.map enc⟩)(hi:Sh.get l j=some u)(hv:St.ev ⟨n,e,st⟩ y=v)(hc:Jq v=some cs)(hn:cs.length=sz)(hle:off+cs.length<=size)
  (zH:Gf (enc u) off cs=enc u') (ra:st.set id ⟨g,el,size,(Sh.put l j u').map enc⟩=st') (hk:AO P k ops Q (ds++[none]) r ⟨n,e,st'⟩):AO P k ops Q ds (⟨none,.store T x y,ty,ps,ed,gd⟩::r) ⟨n,e,st⟩:=
 Al hg ht hx hr (GC hi) hv hc hn hle (by rw[zH,Zs];exact ra) hk
theorem Zi (hg:GO ds gd e)(he:CH P T=some ⟨el,size,bytes,zz⟩)(hx:St.ev ⟨n,e,st⟩ x=.int kk j)(hy:St.ev ⟨n,e,st⟩ y=.int uz j)(hz:enc u=zz)(hl:Sh.mk u j bytes=some l)(hm:st.length=m)(ra:st++[⟨0,el,size,l.map enc⟩]=st')
  (hk:AO P k ops Q (ds++[some t]) r ⟨n,Ew e t (.own m 0 l.length),st'⟩):AO P k ops Q ds (⟨some t,.makeSlice T x y,ty,ps,ed,gd⟩::r) ⟨n,e,st⟩:=by
 subst hm;subst ra;subst hz;refine LN hg ?_;rw[Wh];unfold Sh.mk at hl;split at hl
 ·rename_i h;simp only[mU]at hl;subst hl;rw[hx,hy];simp only[pf,List.length_replicate]at hk;exact Ai _ he ⟨rfl,h.1,h.2.1,h.2.2,hk⟩
 ·cases hl
theorem Cn {len:Nat}{parts:Array (Nat×Operand)}{pv:List (Nat×AV)}(hg:GO ds gd e)(he:CH P T=some ⟨el,size,bytes,zz⟩)(hle:len*size<=16777216)(hp:(parts.toList.map λp=>(p.1,St.ev ⟨n,e,st⟩ p.2))=pv)
  (hc:NB (λi=>some (i*size,size)) ((List.replicate len zz).flatten) pv=some cs) (hck:chunk size len cs=l.map enc) (zI:len=l.length) (hm:st.length=m) (ra:st++[⟨0,el,size,l.map enc⟩]=st') (hk:AO P k ops Q (ds++[some t]) r ⟨n,Ew e t (.own m 0 l.length),st'⟩) :
  AO P k ops Q ds (⟨some t,.buildSlice T len parts,ty,ps,ed,gd⟩::r) ⟨n,e,st⟩:=by
 subst hm;subst ra;subst zI;refine LN hg ?_;rw[VG,hp];exact Ai _ he ⟨hle,Ai _ hc (by rw[hck];exact hk)⟩
theorem EI {ys:AV}(hg:GO ds gd e)(he:CH P T=some ⟨el,size,bytes,zz⟩)(hx:St.ev ⟨n,e,st⟩ x=.own id g m)(hr:st[id]?=some ⟨g,el,size,l.map enc⟩)(hm:m=l.length)(hy:St.ev ⟨n,e,st⟩ y=ys)(yE:EL st ys (l2.map enc))(hs :∀a,(enc a).length=size)(ha:Sh.app l l2 bytes=some l')
  (ra:st.set id ⟨g+1,el,size,l'.map enc⟩=st') (hk:AO P k ops Q (ds++[some t]) r ⟨n,Ew e t (.own id (g+1) l'.length),st'⟩):AO P k ops Q ds (⟨some t,.call ⟨.builtin .append,#[x,y],#[T,T]⟩,ty,ps,ed,gd⟩::r) ⟨n,e,st⟩:=by
 subst ra;subst hy;subst hm;refine LN hg ?_;rw[VJ];refine⟨rfl,?_⟩;rw[hx];unfold Sh.app at ha;split at ha
 ·rename_i h;simp only[mU]at ha;subst ha;refine Ai _ he (yE _ ⟨λz hz=>?_,Ai _ hr ⟨rfl,(mf _).symm,rfl,rfl,by simpa using h.1,by simpa using h.2,?_⟩⟩)
  ·obtain⟨q,_,rfl⟩:=mu.1 hz;exact hs q
  ·have e1:(l.map enc).take l.length=l.map enc:=by rw[<- mf (f:=enc) (as:=l),nT]
   have e2:l.length+(l2.map enc).length=(l++l2).length:=by simp
   simp only[e1,e2,<- oF];exact hk
 ·cases ha
theorem iA {hop:Operand}(hg:GO ds gd e)(he:CH P T=some ⟨el,size,bytes,zz⟩)(hx:St.ev ⟨n,e,st⟩ x=.own id g m)(hr:st[id]?=some ⟨g,el,size,l.map enc⟩)(hm:m=l.length)(hh:St.ev ⟨n,e,st⟩ hop=.int kk j)(hl:Sh.hi l j=some l')
  (ra:st.set id ⟨g+1,el,size,l'.map enc⟩=st') (hk:AO P k ops Q (ds++[some t]) r ⟨n,Ew e t (.own id (g+1) l'.length),st'⟩):AO P k ops Q ds (⟨some t,.slice T x none (some hop) none,ty,ps,ed,gd⟩::r) ⟨n,e,st⟩:=by
 subst ra;subst hm;refine LN hg ?_;rw[Tg];simp only[nS,qe];rw[hx,hh];unfold Sh.hi at hl;split at hl
 ·rename_i h;simp only[mU]at hl;subst hl;refine Ai _ he (Ai _ hr ⟨rfl,(mf _).symm,rfl,Ai _ rfl ⟨h.1,h.2,?_⟩⟩);have e1:(l.take j.toNat).length=j.toNat:=by rw[nw];omega
  rw[e1,List.map_take]at hk;exact hk
 ·cases hl
theorem Xh {lo hi:Option Operand}{i j:Int}(hg:GO ds gd e)(he:CH P T=some ⟨el,size,bytes,zz⟩)(hx:St.ev ⟨n,e,st⟩ x=.sl (l.map enc))(h1:S5 (lo.map (St.ev ⟨n,e,st⟩)) 0=some i)(h2:S5 (hi.map (St.ev ⟨n,e,st⟩)) l.length=some j)(hs :∀a,(enc a).length=size)(hl:Sh.sl l i j=some l')
  (hk:AO P k ops Q (ds++[some t]) r ⟨n,Ew e t (.sl (l'.map enc)),st⟩):AO P k ops Q ds (⟨some t,.slice T x lo hi none,ty,ps,ed,gd⟩::r) ⟨n,e,st⟩:=by
 refine LN hg ?_;rw[Tg];simp only[qe];rw[hx];unfold Sh.sl at hl;split at hl
 ·rename_i h;simp only[mU]at hl;subst hl;refine Ai _ he (Ai _ h1 (Ai _ (by rw[mf];exact h2) ⟨h.1,h.2.1,by simpa using h.2.2,λz hz=>?_,?_⟩))
  ·obtain⟨q,_,rfl⟩:=mu.1 hz;exact hs q
  ·rw[List.map_drop,List.map_take]at hk;exact hk
 ·cases hl
theorem SJ (hg:GO ds gd e)(hs:B1 P T=true)(hx:St.ev ⟨n,e,st⟩ x=.sl (l.map enc))(h1:l=[]->AO P k ops Q (ds++[some t]) r ⟨n,Ew e t (.bool true),st⟩)(h2:AO P k ops Q (ds++[some t]) r ⟨n,Ew e t (.bool false),st⟩){yT:TypeId}:
  AO P k ops Q ds (⟨some t,.binOp .eql T x (.const (.slice none 0 0)) yT,ty,ps,ed,gd⟩::r) ⟨n,e,st⟩:=by
 refine LN hg ?_;rw[ZQ];refine⟨hs,?_⟩;rw[hx];exact⟨λh=>h1 (List.map_eq_nil_iff.1 h),h2⟩
def TK:List Row->Prop
 | []=>True
 | row::r=>B8 row.xs/\TK r
theorem TK.get:∀{l:List Row},TK l->∀row∈l,B8 row.xs
 | row::r,h,row',hm=>by
  rcases mr.1 hm with rfl|hm
  ·exact h.1
  ·exact TK.get h.2 row' hm
variable {f : FuncId} {sx : Array Operand} {ts : Array TypeId} {args : List AV} {rows : List Row} {s : St}
theorem A8 (hg:GO ds gd e)(hb:Dy P f=true)(hc:BJ P f args [] λr st=>r=v/\st=rows)(ha:sx.toList.map (St.ev ⟨n,e,st⟩)++[]=args)(hf:args.all flat=true)(hp:TK rows)(hv:shift st.length v=v')(ra:st++rows=st')
  (hk:AO P k ops Q (ds++[d]) r (St.put ⟨n,e,st'⟩ d v')):AO P k ops Q ds (⟨d,.call ⟨.value (.func f),sx,ts⟩,ty,ps,ed,gd⟩::r) ⟨n,e,st⟩:=by
 subst hv;subst ra;subst ha;refine LN hg ?_;rw[Kl];refine⟨hb,PS hc hf ?_⟩;rintro r st' ⟨rfl,rfl⟩;exact⟨hp.get,hk⟩
theorem QB {tf:Tmp}{sM:List AV}(hg:GO ds gd e)(zB:e tf=.fn f sM)(hb:Dy P f=true)(hc:BJ P f args [] λr st=>r=v/\st=rows)(ha:sx.toList.map (St.ev ⟨n,e,st⟩)++sM=args)(hf:args.all flat=true)(hp:TK rows)(hv:shift st.length v=v')(ra:st++rows=st')
  (hk:AO P k ops Q (ds++[d]) r (St.put ⟨n,e,st'⟩ d v')):AO P k ops Q ds (⟨d,.call ⟨.value (.tmp tf),sx,ts⟩,ty,ps,ed,gd⟩::r) ⟨n,e,st⟩:=by
 subst hv;subst ra;subst ha;refine LN hg ?_;rw[Rq,show (St.mk n e st).env tf=e tf from rfl,zB];refine⟨hb,PS hc hf ?_⟩;rintro r st' ⟨rfl,rfl⟩;exact⟨hp.get,hk⟩
theorem cN {g:Nat}{sU:α->List AV}(hr:st[id]?=some ⟨g,el,size,l.map enc⟩)(hu :∀x,GB (enc x)=sU x):Rz st (.own id g l.length)=.sl (l.map sU):=by
 simp only[Rz,hr,nL];rw[<- mf (f:=enc) (as:=l),oo,nP,Gp,oC];congr 1;exact nD λx _=>hu x
theorem N9 {cs:List AV}(h:cs.all simple=true):GB cs=cs:=by
 rw[Ib];exact (nD (g:=id) λc hc=>Kz (ma.1 h c hc)).trans (nt _)
inductive BC (st:List Row):List AV->List AV->Prop
 | nil:BC st [] []
 | own {α:Type} {l:List α} {enc:α->List AV} {id g size m:Nat} {el:TypeId} {as bs:List AV} (hr:st[id]?=some ⟨g,el,size,l.map enc⟩) (hm:m=l.length) (hp :∀x,(enc x).all simple=true) (h:BC st as bs):BC st (.own id g m::as) (.sl (l.map enc)::bs)
 | ownD {α:Type} {l:List α} {enc sU:α->List AV} {id g size m:Nat} {el:TypeId} {as bs:List AV} (hr:st[id]?=some ⟨g,el,size,l.map enc⟩) (hm:m=l.length) (hp :∀x,(enc x).all Dd=true) (hu :∀x,GB (enc x)=sU x) (h:BC st as bs):BC st (.own id g m::as) (.sl (l.map sU)::bs)
 | val {v:AV} {as bs:List AV} (hv:simple v=true) (h:BC st as bs):BC st (v::as) (v::bs)
inductive BA (st:List Row):List AV->List AV->Prop
 | nil:BA st [] []
 | own {α:Type} {l:List α} {enc:α->List AV} {id g size m:Nat} {el:TypeId} {as bs:List AV} (hr:st[id]?=some ⟨g,el,size,l.map enc⟩) (hm:m=l.length) (hp :∀x,(enc x).all simple=true) (h:BA st as bs):BA st (.own id g m::as) (.sl (l.map enc)::bs)
 | ownD {α:Type} {l:List α} {enc sU:α->List AV} {id g size m:Nat} {el:TypeId} {as bs:List AV} (hr:st[id]?=some ⟨g,el,size,l.map enc⟩) (hm:m=l.length) (hp :∀x,(enc x).all Dd=true) (hu :∀x,GB (enc x)=sU x) (h:BA st as bs):BA st (.own id g m::as) (.sl (l.map sU)::bs)
 | agg {cs ds:List AV} {as bs:List AV} (hc:BC st cs ds) (h:BA st as bs):BA st (.agg cs::as) (.agg ds::bs)
 | val {v:AV} {as bs:List AV} (hv:flat v=true) (h:BA st as bs):BA st (v::as) (v::bs)
theorem Se {v:AV}(h:simple v=true):Rz st v=v:=by cases v<;>simp_all [simple,Rz]
theorem BC.spec {as bs:List AV}(h:BC st as bs):as.map (Rz st)=bs/\bs.all simple=true/\∀id g n,AV.own id g n∈as->∀row,st[id]?=some row->B8 row.xs:=by
 induction h with
 | nil=>exact⟨rfl,rfl,by simp⟩
 | own hr hm hp h ih=>
  obtain⟨h1,h2,h3⟩:=ih;subst hm;refine⟨by rw[mz,cN hr (λx=>N9 (hp x)),h1],by simp[simple,h2],λsm g' n' hx row rK=>?_⟩;rcases mr.1 hx with hx|hx
  ·cases hx;rw[hr]at rK;cases rK;exact (Ac hp).any
  ·exact h3 sm g' n' hx row rK
 | ownD hr hm hp hu h ih=>
  obtain⟨h1,h2,h3⟩:=ih;subst hm;refine⟨by rw[mz,cN hr hu,h1],by simp[simple,h2],λsm g' n' hx row rK=>?_⟩;rcases mr.1 hx with hx|hx
  ·cases hx;rw[hr]at rK;cases rK;exact AS hp
  ·exact h3 sm g' n' hx row rK
 | @val v as bs hv h ih=>
  obtain⟨h1,h2,h3⟩:=ih;refine⟨by rw[mz,Se hv,h1],by simp[hv,h2],λsm g' n' hx row rK=>?_⟩;rcases mr.1 hx with hx|hx
  ·subst hx;simp[simple]at hv
  ·exact h3 sm g' n' hx row rK
theorem BA.spec {as bs:List AV}(h:BA st as bs):as.map (Gm st)=bs/\bs.all flat=true/\∀id g n,QH as id g n->∀row,st[id]?=some row->B8 row.xs:=by
 induction h with
 | nil=>exact⟨rfl,rfl,by rintro id g n (h|⟨_,h,_⟩)<;>simp at h⟩
 | own hr hm hp h ih=>
  obtain⟨h1,h2,h3⟩:=ih;subst hm;refine⟨by rw[mz,h1];congr 1;exact cN hr (λx=>N9 (hp x)),by simp[flat,h2],λsm g' n' hx row rK=>?_⟩;rcases hx with hx|⟨cs,hx,tE⟩
  ·rcases mr.1 hx with hx|hx
   ·cases hx;rw[hr]at rK;cases rK;exact (Ac hp).any
   ·exact h3 sm g' n' (.inl hx) row rK
  ·rcases mr.1 hx with hx|hx
   ·cases hx
   ·exact h3 sm g' n' (.inr ⟨cs,hx,tE⟩) row rK
 | ownD hr hm hp hu h ih=>
  obtain⟨h1,h2,h3⟩:=ih;subst hm;refine⟨by rw[mz,h1];congr 1;exact cN hr hu,by simp[flat,h2],λsm g' n' hx row rK=>?_⟩;rcases hx with hx|⟨cs,hx,tE⟩
  ·rcases mr.1 hx with hx|hx
   ·cases hx;rw[hr]at rK;cases rK;exact AS hp
   ·exact h3 sm g' n' (.inl hx) row rK
  ·rcases mr.1 hx with hx|hx
   ·cases hx
   ·exact h3 sm g' n' (.inr ⟨cs,hx,tE⟩) row rK
 | agg hc h ih=>
  obtain⟨h1,h2,h3⟩:=ih;obtain⟨g1,g2,g3⟩:=hc.spec;refine⟨by rw[mz,h1];simp only[Gm,g1],by simp only[pM,h2,qC];simpa [flat] using g2,λsm g' n' hx row rK=>?_⟩;rcases hx with hx|⟨cs,hx,tE⟩
  ·rcases mr.1 hx with hx|hx
   ·cases hx
   ·exact h3 sm g' n' (.inl hx) row rK
  ·rcases mr.1 hx with hx|hx
   ·cases hx;exact g3 sm g' n' tE row rK
   ·exact h3 sm g' n' (.inr ⟨cs,hx,tE⟩) row rK
 | @val v as bs hv h ih=>
  obtain⟨h1,h2,h3⟩:=ih;have e1:Gm st v=v:=by
   cases v<;>simp[flat]at hv<;>try rfl
   rename_i cs;simp only[Gm];congr 1;exact (nD (g:=id) λc hc=>Se (hv c hc)).trans (nt _)
  refine⟨by rw[mz,e1,h1],by simp[hv,h2],λsm g' n' hx row rK=>?_⟩;rcases hx with hx|⟨cs,hx,tE⟩
  ·rcases mr.1 hx with hx|hx
   ·subst hx;simp[flat]at hv
   ·exact h3 sm g' n' (.inl hx) row rK
  ·rcases mr.1 hx with hx|hx
   ·subst hx;have:=ma.1 (show cs.all simple=true from hv) _ tE;simp[simple]at this
   ·exact h3 sm g' n' (.inr ⟨cs,hx,tE⟩) row rK
def NF:List Row->Prop
 | []=>True
 | row::r=>(B8 row.xs/\∀x∈row.xs,∀c∈x,Ly c=true)/\NF r
theorem NF.get:∀{l:List Row},NF l->∀row∈l,B8 row.xs/\∀x∈row.xs,∀c∈x,Ly c=true
 | row::r,h,row',hm=>by
  rcases mr.1 hm with rfl|hm
  ·exact h.1
  ·exact NF.get h.2 row' hm
theorem V6 {g:Nat}(h :∀x,(enc x).all (λc=>Dd c&&Ly c)=true)(hr:NF rows):NF (⟨g,el,size,l.map enc⟩::rows):=by
 refine⟨⟨λx hx c hc=>?_,λx hx c hc=>?_⟩,hr⟩ <;>
 ·obtain⟨y,_,rfl⟩:=mu.1 hx;have:=ma.1 (h y) c hc;simp only[mh]at this;first|exact this.1|exact this.2
theorem jY {g:Nat}(h :∀x,(enc x).all (λc=>simple c&&Ly c)=true)(hr:NF rows):NF (⟨g,el,size,l.map enc⟩::rows):=
 V6 (λx=>ma.2 λc hc=>by
  have:=ma.1 (h x) c hc;simp only[mh]at this⊢;exact⟨LW this.1,this.2⟩) hr
theorem Kf {as:List AV}(hg:GO ds gd e)(hb:Dy P f=true)(hc:BJ P f args [] λr st=>r=v/\st=rows)(ha:sx.toList.map (St.ev ⟨n,e,st⟩)++[]=as)(hba:BA st as args)(xc:XC v=true)(hp:NF rows)(hv:shift st.length v=v')(ra:st++rows=st')
  (hk:AO P k ops Q (ds++[d]) r (St.put ⟨n,e,st'⟩ d v')):AO P k ops Q ds (⟨d,.call ⟨.value (.func f),sx,ts⟩,ty,ps,ed,gd⟩::r) ⟨n,e,st⟩:=by
 subst hv;subst ra;subst ha;obtain⟨h1,h2,h3⟩:=hba.spec;refine LN hg ?_;rw[Kl];refine⟨hb,Nb (R:=λr st=>r=v/\st=rows) ?_ ?_ h3 ?_⟩
 ·show BJ P f (List.map (Gm st) _) [] _;rw[h1];exact hc
 ·show (List.map (Gm st) _).all flat=true;rw[h1];exact h2
 ·rintro r st' ⟨rfl,rfl⟩;exact⟨⟨xc,λrow rK=>(hp.get row rK).2⟩,λrow rK=>(hp.get row rK).1,hk⟩
theorem U0 {as:List AV}{KS:St->Prop}{t:Tmp}(hg:GO ds gd e)(hb:Dy P f=true)(hc:BJ P f args [] λr st=>r=v/\st=[])(ha:sx.toList.map (St.ev ⟨n,e,st⟩)++[]=as)(hba:BA st as args)(xc:XC v=true)(hv:shift st.length v=v')
  (hk:DI P (ds++[some t]) r KS ⟨n,Ew e t v',st⟩):DI P ds (⟨some t,.call ⟨.value (.func f),sx,ts⟩,ty,ps,ed,gd⟩::r) KS ⟨n,e,st⟩:=by
 subst hv;subst ha;obtain⟨h1,h2,h3⟩:=hba.spec;refine da hg rfl (λs0 e1 e2 hd k F os a w hr next Q hn=>?_) hk;refine P1 (k:=k) (K:=(·=s0.put (some t) (shift st.length v))) hr hd ?_ hn;show Dy P f=true/\callThen P k s0 f (sx.toList.map s0.ev++[]) (some t) _;rw[Zw e2];refine⟨hb,?_⟩;subst e1;refine Nb (R:=λr st'=>r=v/\st'=[]) ?_ ?_ h3 ?_
 ·show BJ P f (List.map (Gm s0.st) _) [] _;rw[h1];exact hc
 ·show (List.map (Gm s0.st) _).all flat=true;rw[h1];exact h2
 ·rintro r st' ⟨rfl,rfl⟩;refine⟨⟨xc,by simp⟩,by simp,?_⟩;rw[oE]
end
section
variable {P : Program} {k : Nat} {Q : Exit -> St -> Prop} {s s' : St} {x y c : Code}
theorem FC {o:Operand}{b:Bool}(ho:s.ev o=.bool b)(h1:b=true->AW P k x Q s)(h2:b=false->AW P k y Q s):AW P k (.cond o x y) Q s:=
 AW.cond λK1 K2 e1 e2=>by rw[ho];exact⟨λh=>e1 (h1 h),λh=>e2 (h2 h)⟩
theorem AT {σ:Type}(I:Nat->σ->Prop)(canon:σ->St)(n0:Nat)(v0:σ)(h0:I n0 v0)(hw:Wk k s (canon v0))(hz :∀v,¬ I 0 v)
  (round :∀n v,I (n+1) v->AW P k c (Xe (λs'=>∃v',I n v'/\Wk k s' (canon v')) Q) (canon v)):AW P k (.loop c) Q s:=by
 refine AJ hw ?_;have key:∀n v,I n v->∀F os a w,Rel F os (canon v) a w->∀(b:Frame) (kk:List Item) (cs:List Frame),
   ∃e a' w',OY k Q F os w e a' w'/\Arrives P (lone (b.at a (.code c::.inLoop c::kk)) cs w) b kk cs e a' w':=by
  intro n
  induction n with
  | zero=>intro v hI;exact absurd hI (hz v)
  | succ n ih=>
   intro v hI F os a w hr b kk cs;obtain⟨e,a₁,w₁,⟨s1,F1,sC,hq,hR1,yL⟩,harr⟩:=round n v hI F os a w hr b (.inLoop c::kk) cs;cases e with
   | normal=>
    obtain⟨v2,hI2,hw2⟩:=hq;obtain⟨F2,os2,hR2,xb⟩:=hw2 F1 sC a₁ w₁ hR1;obtain⟨e₂,a₂,w₂,hq₂,harr₂⟩:=ih v2 hI2 F2 os2 a₁ w₁ hR2 b kk cs;exact⟨e₂,a₂,w₂,hq₂.trans (yL.trans xb),.of_steps (Steps.trans harr (.one step_inLoop)) harr₂⟩
   | exit id=>exact⟨_,a₁,w₁,⟨s1,F1,sC,hq,hR1,yL⟩,.pass (x:=.inLoop c) rfl (λ_ _=>.inl (by simp)) harr⟩
   | goto l=>exact⟨_,a₁,w₁,⟨s1,F1,sC,hq,hR1,yL⟩,.pass (x:=.inLoop c) rfl (λ_ _=>.inl (by simp)) harr⟩
   | ret=>exact⟨_,a₁,w₁,⟨s1,F1,sC,hq,hR1,yL⟩,.pass (x:=.inLoop c) rfl (λ_ _=>.inl (by simp)) harr⟩
   | panic ch=>exact⟨_,a₁,w₁,⟨s1,F1,sC,hq,hR1,yL⟩,.pass (x:=.inLoop c) rfl (λ_ _=>.inl (by simp)) harr⟩
   | outgrown=>exact⟨_,a₁,w₁,⟨s1,F1,sC,hq,hR1,yL⟩,.pass (x:=.inLoop c) rfl (λ_ _=>.inl (by simp)) harr⟩
 intro F os a w hr b kk cs;obtain⟨e,a',w',hq,harr⟩:=key n0 v0 h0 F os a w hr b kk cs;exact⟨e,a',w',hq,.of_steps (.one step_loop) harr⟩
end
end Go.Abs
