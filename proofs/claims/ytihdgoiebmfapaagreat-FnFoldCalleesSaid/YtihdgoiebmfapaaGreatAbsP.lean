import Derived.Test.YtihdgoiebmfapaaGreatAbsO
namespace Go.Abs
open Go
def AQ (P:Program)(s:St)(op:Op)(v:AV):Prop:=∀K:AV->Prop,K v->Jd P s op K
def EL (st:List Row)(v:AV)(ys:List (List AV)):Prop:=∀K:List (List AV)->Prop,K ys->Yg st v K
section
variable {P : Program} {s : St} {x y z c : Operand} {v : AV} {t t' : TypeId} {kk : IntKind} {a b : Int} {p q : Bool}
theorem BT (h:s.ev x=v):AQ P s (.move x) v:=λK hk=>by show K (s.ev x);rw[h];exact hk
theorem TN (h:s.ev x=v):AQ P s (.assign x) v:=λK hk=>by show K (s.ev x);rw[h];exact hk
theorem gB {x y:AV}{K:AV->Prop}(h:K x):Pb (.bool true) x y K:=by
 cases x<;>cases y<;>first|exact h|exact⟨λ_=>h,λh=>by cases h⟩
theorem gY {x y:AV}{K:AV->Prop}(h:K y):Pb (.bool false) x y K:=by
 cases x<;>cases y<;>first|exact h|exact⟨λh=>(by cases h),λ_=>h⟩
theorem Kf (hc:s.ev c=.bool p)(hp:p=true)(hx:s.ev x=v):AQ P s (.pick c x y) v:=λK hk=>by
 show Pb (s.ev c) (s.ev x) (s.ev y) K;rw[hc,hp,hx];exact gB hk
theorem LM (hc:s.ev c=.bool p)(hp:p=false)(hy:s.ev y=v):AQ P s (.pick c x y) v:=λK hk=>by
 show Pb (s.ev c) (s.ev x) (s.ev y) K;rw[hc,hp,hy];exact gY hk
variable (hx : s.ev x = .int kk a) (hy : s.ev y = .int kk b)
include hx hy
theorem Hw {op:BinOp}(h :∀K:AV->Prop,K v->Z5 op kk a b K):AQ P s (.binOp op t x y t') v:=λK hk=>by
 show Vc P t op (s.ev x) (s.ev y) K;rw[hx,hy];exact⟨rfl,h K hk⟩
theorem eh:AQ P s (.binOp .add t x y t') (.int kk (Sh.wk kk (a+b))):=Hw hx hy λ_ hk=>hk
theorem fr:AQ P s (.binOp .sub t x y t') (.int kk (Sh.wk kk (a-b))):=Hw hx hy λ_ hk=>hk
theorem fw:AQ P s (.binOp .mul t x y t') (.int kk (Sh.wk kk (a*b))):=Hw hx hy λ_ hk=>hk
theorem Sd {q:Int}(h:Sh.rem a b=some q):AQ P s (.binOp .rem t x y t') (.int kk q):=Hw hx hy λ_ hk=>by
 obtain⟨h1,rfl⟩:=Sh.da h;exact⟨h1,hk⟩
theorem bN:AQ P s (.binOp .lss t x y t') (.bool (decide (a<b))):=Hw hx hy λ_ hk=>hk
theorem jr:AQ P s (.binOp .leq t x y t') (.bool (decide (a<=b))):=Hw hx hy λ_ hk=>hk
theorem jW:AQ P s (.binOp .gtr t x y t') (.bool (decide (b<a))):=Hw hx hy λ_ hk=>hk
theorem jv:AQ P s (.binOp .geq t x y t') (.bool (decide (b<=a))):=Hw hx hy λ_ hk=>hk
theorem jM:AQ P s (.binOp .eql t x y t') (.bool (decide (a=b))):=Hw hx hy λ_ hk=>hk
theorem jg:AQ P s (.binOp .neq t x y t') (.bool (!decide (a=b))):=Hw hx hy λ_ hk=>hk
end
section
variable {P : Program} {s : St} {x y z c : Operand} {v : AV} {t t' : TypeId} {kk : IntKind} {a b : Int} {p q : Bool}
variable (hx : s.ev x = i64 a) (hy : s.ev y = i64 b)
include hx hy
theorem R5:AQ P s (.binOp .add t x y t') (i64 (Sh.w (a+b))):=Hw hx hy λ_ hk=>hk
theorem O6:AQ P s (.binOp .sub t x y t') (i64 (Sh.w (a-b))):=Hw hx hy λ_ hk=>hk
theorem iD:AQ P s (.binOp .mul t x y t') (i64 (Sh.w (a*b))):=Hw hx hy λ_ hk=>hk
theorem iq:AQ P s (.binOp .xor t x y t') (i64 (Sh.xor a b)):=Hw hx hy λ_ hk=>hk
theorem WB {q:Int}(h:Sh.quo a b=some q):AQ P s (.binOp .quo t x y t') (i64 q):=Hw hx hy λ_ hk=>by
 obtain⟨h1,rfl⟩:=Sh.dk h;exact⟨h1,hk⟩
theorem U2 (h:b≠0):AQ P s (.binOp .quo t x y t') (i64 (Sh.w (a.tdiv b))):=Hw hx hy λ_ hk=>⟨h,hk⟩
end
section
variable {P : Program} {s : St} {x y z c : Operand} {v : AV} {t t' : TypeId} {kk uT : IntKind} {a b : Int} {p q ag : Bool} {id g i off tp f size sz bytes m j : Nat} {cs vs : List AV} {xs : List (List AV)} {el : TypeId}
theorem iF (ht:N5 P t=true)(hx:s.ev x=.bool p)(hy:s.ev y=.bool q):AQ P s (.binOp .eql t x y t') (.bool (p==q)):=λK hk=>by
 show Vc P t .eql (s.ev x) (s.ev y) K;rw[hx,hy];exact⟨ht,hk⟩
theorem gu (ht:N5 P t=true)(hx:s.ev x=.bool p)(hy:s.ev y=.bool q):AQ P s (.binOp .neq t x y t') (.bool (p != q)):=λK hk=>by
 show Vc P t .neq (s.ev x) (s.ev y) K;rw[hx,hy];exact⟨ht,hk⟩
theorem iZ (hx:s.ev x=.bool p):AQ P s (.unOp .not t x) (.bool (!p)):=λK hk=>by
 show eP .not (s.ev x) K;rw[hx];exact hk
theorem il (hx:s.ev x=i64 a):AQ P s (.unOp .neg t x) (i64 (Sh.w (-a))):=λK hk=>by
 show eP .neg (s.ev x) K;rw[hx];exact hk
def cL (P:Program)(src dst:TypeId):Option IntKind:=
 match P.underlying src,P.underlying dst with
 | some _,some (.int k)=>some k
 | _,_=>none
theorem ao (hc:cL P t t'=some uT)(hx:s.ev x=.int kk a):AQ P s (.convert t t' x) (.int uT (Sh.wk uT a)):=λK hk=>by
 show WJ P t t' (s.ev x) K;rw[hx];unfold cL at hc;unfold WJ;split at hc
 ·rename_i h1 h2;simp only[lX]at hc;subst hc;simp only[h1,h2];exact hk
 ·cases hc
theorem jd (hx:s.ev x=.Dd vs)(hv:vs[i]?=some v):AQ P s (.extract x i) v:=λK hk=>by
 show QW (s.ev x) i K;rw[hx];exact Aq v hv hk
theorem cj (hx:s.ev x=.int kk a)(hy:s.ev y=.int kk b){ts:Array TypeId}:AQ P s (.call ⟨.builtin .max,#[x,y],ts⟩) (.int kk (if b > a then b else a)):=λK hk=>by
 show cr (s.ev x) (s.ev y) K;rw[hx,hy];exact hk
theorem cZ (hx:s.ev x=.int kk a)(hy:s.ev y=.int kk b){ts:Array TypeId}:AQ P s (.call ⟨.builtin .min,#[x,y],ts⟩) (.int kk (if b<a then b else a)):=λK hk=>by
 show cm (s.ev x) (s.ev y) K;rw[hx,hy];exact hk
theorem bE {fn:FuncId}{rR:Array Operand}(hc:rR.toList.map s.ev=cs):AQ P s (.makeFunc (.func fn) #[] rR) (.fn fn cs):=λK hk=>by
 subst hc;exact⟨rfl,hk⟩
theorem Hu (ht:Dr P t=some (false,sz))(hx:s.ev x=.Bo cs off)(hv:cs[off]?=some v):AQ P s (.load t x) v:=λK hk=>by
 show Pa P s.st t (s.ev x) K;rw[hx];exact Aq _ ht (Aq v hv hk)
theorem Hi (ht:Dr P t=some (true,sz))(hx:s.ev x=.Bo cs off)(hl:off+sz<=cs.length)(hv:(cs.drop off).take sz=vs):AQ P s (.load t x) (.agg vs):=λK hk=>by
 show Pa P s.st t (s.ev x) K;rw[hx];subst hv;exact Aq _ ht ⟨hl,hk⟩
theorem CB (ht:Dr P t=some (false,sz))(hx:s.ev x=.ptr id g i off)(hr:s.st[id]?=some ⟨g,el,size,xs⟩)(hi:xs[i]?=some cs)(hv:cs[off]?=some v):AQ P s (.load t x) v:=λK hk=>by
 show Pa P s.st t (s.ev x) K;rw[hx];exact Aq _ ht (Aq _ hr ⟨rfl,Aq cs hi (Aq v hv hk)⟩)
theorem As (ht:Dr P t=some (true,sz))(hx:s.ev x=.ptr id g i off)(hr:s.st[id]?=some ⟨g,el,size,xs⟩)(hi:xs[i]?=some cs)(hl:off+sz<=cs.length)(hv:(cs.drop off).take sz=vs):AQ P s (.load t x) (.agg vs):=λK hk=>by
 show Pa P s.st t (s.ev x) K;rw[hx];subst hv;exact Aq _ ht (Aq _ hr ⟨rfl,Aq cs hi ⟨hl,hk⟩⟩)
theorem IT (hf:Hq P t f=some j)(hx:s.ev x=.Bo cs off)(ho:off+j=tp):AQ P s (.fieldAddr t x f) (.Bo cs tp):=λK hk=>by
 show LS P t (s.ev x) f s.st K;rw[hx];subst ho;exact Aq _ hf hk
theorem E0 (hf:Hq P t f=some j)(hx:s.ev x=.ptr id g i off)(hr:s.st[id]?=some ⟨g,el,size,xs⟩)(hl:off+j<=size)(ho:off+j=tp):AQ P s (.fieldAddr t x f) (.ptr id g i tp):=λK hk=>by
 show LS P t (s.ev x) f s.st K;rw[hx];subst ho;exact Aq _ hf (Aq _ hr ⟨rfl,hl,hk⟩)
def TL (P:Program)(t:TypeId)(f:Nat):Option (Nat×Bool×Nat):=
 match P.underlying t with
 | some (.struct fs)=>match fs[f]? with
  | some g=>match Dr P g.type with
   | some ti=>some (g.offset,ti)
   | none=>none
  | none=>none
 | _=>none
theorem Vz {f o:Nat}{ti:Bool×Nat}{K:AV->Prop}(h:TL P t f=some (o,ti))(hk:LJ ti.1 ti.2 cs o K):NJ P t (.agg cs) f K:=by
 unfold TL at h;unfold NJ;split at h
 ·rename_i fs hu;split at h
  ·rename_i gg hg;split at h
   ·rename_i ti' ht;simp only[lX,pA]at h;obtain⟨rfl,rfl⟩:=h;rw[hu];exact Aq _ hg (Aq _ ht hk)
   ·cases h
  ·cases h
 ·cases h
theorem ja (hf:TL P t f=some (off,false,sz))(hx:s.ev x=.agg cs)(hv:cs[off]?=some v):AQ P s (.field t x f) v:=λK hk=>by
 show NJ P t (s.ev x) f K;rw[hx];exact Vz hf (Aq v hv hk)
theorem iQ (hf:TL P t f=some (off,true,sz))(hx:s.ev x=.agg cs)(hl:off+sz<=cs.length)(hv:(cs.drop off).take sz=vs):AQ P s (.field t x f) (.agg vs):=λK hk=>by
 show NJ P t (s.ev x) f K;rw[hx];subst hv;exact Vz hf ⟨hl,hk⟩
variable {α : Type} {l l' : List α} {enc : α -> List AV} {n : Int} {zz : List AV} {u : α}
theorem CW (h:Sh.get l n=some u):(l.map enc)[n.toNat]?=some (enc u):=by
 rw[lW,(Sh.get_some h).2.1];rfl
theorem Cg (he:Ds P t=some ⟨el,size,bytes,zz⟩)(hx:s.ev x=.sl (l.map enc))(hy:s.ev y=.int kk n)(hg:Sh.get l n=some u)(hs:(enc u).length=size):AQ P s (.indexAddr t x y) (.Bo (enc u) 0):=λK hk=>by
 show JP P s.st t (s.ev x) (s.ev y) K;rw[hx,hy];exact Aq _ he ⟨(Sh.get_some hg).1,Aq _ (CW hg) ⟨hs,hk⟩⟩
theorem CA (he:Ds P t=some ⟨el,size,bytes,zz⟩)(hx:s.ev x=.own id g m)(hy:s.ev y=.int kk n)(hr:s.st[id]?=some ⟨g,el,size,l.map enc⟩)(hm:m=l.length)(hg:Sh.get l n=some u):
  AQ P s (.indexAddr t x y) (.ptr id g n.toNat 0):=λK hk=>by
 show JP P s.st t (s.ev x) (s.ev y) K;rw[hx,hy];subst hm;exact Aq _ he ⟨(Sh.get_some hg).1,(Sh.get_some hg).2.2,Aq _ hr ⟨rfl,rfl,by simpa using hk⟩⟩
theorem Cd (hs:DV P t=true)(hx:s.ev x=.sl (l.map enc)):AQ P s (.call ⟨.builtin .len,#[x],#[t]⟩) (i64 (Sh.len l)):=λK hk=>by
 refine⟨hs,?_⟩;rw[hx];simp only[cT,ly];exact hk
theorem Cv (hs:DV P t=true)(hx:s.ev x=.own id g m)(hr:s.st[id]?=some ⟨g,el,size,l.map enc⟩)(hm:m=l.length):AQ P s (.call ⟨.builtin .len,#[x],#[t]⟩) (i64 (Sh.len l)):=λK hk=>by
 refine⟨hs,?_⟩;subst hm;rw[hx];exact Aq _ hr ⟨rfl,hk⟩
theorem aJ (hs:DV P t=true)(hx:s.ev x=.zc):AQ P s (.call ⟨.builtin .len,#[x],#[t]⟩) (i64 0):=λK hk=>by
 refine⟨hs,?_⟩;rw[hx];exact hk
theorem hH (hx:s.ev x=.ptr id g i off)(hr:s.st[id]?=some ⟨g,el,size,xs⟩):AQ P s (.nilCheck x) (.ptr id g i off):=λK hk=>by
 show Xw s.st (s.ev x) K;rw[hx];exact Aq _ hr ⟨rfl,hk⟩
theorem iM (hx:s.ev x=.Bo cs off):AQ P s (.nilCheck x) (.Bo cs off):=λK hk=>by
 show Xw s.st (s.ev x) K;rw[hx];exact hk
theorem DC {parts:Array (Nat×Operand)}{fs:List (Nat×Nat)}{pv:List (Nat×AV)}(ha:Ig P t=true)(hf:J9 P t=some fs)(hz:Hx P t=some zz)(hp:(parts.toList.map λp=>(p.1,s.ev p.2))=pv)(hc:Ms (fs[·]?) zz pv=some cs):
  AQ P s (.build t parts) (.agg cs):=λK hk=>by
 show YR P t (parts.toList.map λp=>(p.1,s.ev p.2)) K;rw[hp];exact⟨ha,Aq _ hf (Aq _ hz (Aq _ hc hk))⟩
variable {st : List Row} {ys : List (List AV)}
theorem L5:EL st (.sl ys) ys:=λ_ hk=>hk
theorem HI (hr:st[id]?=some ⟨g,el,size,l.map enc⟩)(hm:m=l.length)(rZ :∀x,(enc x).all AV.leaf=true:=by exact λ_=>rfl):EL st (.own id g m) (l.map enc):=λK hk=>by
 subst hm;refine Aq _ hr ⟨rfl,λy hy c hc=>?_,?_⟩
 ·obtain⟨x,_,rfl⟩:=mA.1 hy;exact lh.1 (rZ x) c hc
 rw[<- ly (f:=enc) (as:=l),nL];exact⟨rfl,hk⟩
end
section
variable {P : Program} {k : Nat} {ops : Array Oper} {Q : Exit -> St -> Prop} {ds : List (Option Tmp)} {r : List Oper} {n : Nat} {e : Nat -> AV} {st st' : List Row} {op : Op} {ty : TypeId} {ps : String} {ed : Array Edge} {d : Option Tmp} {t : Tmp} {v v' : AV}
variable {jj : Nat} {want b : Bool} {tg : Tmp} {gd : Option (Nat × Bool)}
def GO (ds:List (Option Tmp))(gd:Option (Nat×Bool))(e:Nat->AV):Prop:=
 match gd with
 | none=>True
 | some (jj,want)=>∃tg,ds[jj]?=some (some tg)/\e tg=.bool want
theorem AI:GO ds none e:=lU
theorem CT (hj:ds[jj]?=some (some tg))(ht:e tg=.bool b)(hb:b=want):GO ds (some (jj,want)) e:=⟨tg,hj,by rw[ht,hb]⟩
theorem GO.guard {A B:Prop}(hg:GO ds gd e)(h:A):I4 ds ⟨d,op,ty,ps,ed,gd⟩ ⟨n,e,st⟩ A B:=by
 unfold GO at hg;unfold I4;cases gd with
 | none=>exact h
 | some q=>
  obtain⟨jj,want⟩:=q;obtain⟨tg,hj,ht⟩:=hg;simp only[hj,ht,aE];exact⟨λ_=>h,λhh=>absurd rfl hh⟩
theorem Ba (hg:GO ds gd e)(hl:J5 op=false)(hq:AQ P ⟨n,e,st⟩ op v)(hk:AO P k ops Q (ds++[some t]) r ⟨n,EE e t v,st⟩):AO P k ops Q ds (⟨some t,op,ty,ps,ed,gd⟩::r) ⟨n,e,st⟩:=by
 refine O0 (hg.guard ?_);unfold LD;simp only[hl,lY,mC];exact hq _ hk
theorem My (hg:GO ds gd e)(h:LD P k ⟨d,op,ty,ps,ed,gd⟩ ⟨n,e,st⟩ (AO P k ops Q (ds++[d]) r)):AO P k ops Q ds (⟨d,op,ty,ps,ed,gd⟩::r) ⟨n,e,st⟩:=
 O0 (hg.guard h)
theorem gN (hj:ds[jj]?=some (some tg))(ht:e tg=.bool b)(hb:b=!want)(h:AO P k ops Q (ds++[some t]) r ⟨n,EE e t .un,st⟩):AO P k ops Q ds (⟨some t,op,ty,ps,ed,some (jj,want)⟩::r) ⟨n,e,st⟩:=by
 refine O0 ?_;subst hb;simp only[I4,hj,ht,aE];exact⟨λh=>(by cases want<;>cases h),λ_=>h⟩
theorem fU (hj:ds[jj]?=some (some tg))(ht:e tg=.un)(h:AO P k ops Q (ds++[some t]) r ⟨n,EE e t .un,st⟩):AO P k ops Q ds (⟨some t,op,ty,ps,ed,some (jj,want)⟩::r) ⟨n,e,st⟩:=by
 refine O0 ?_;simp only[I4,hj,ht,aE];exact h
variable {KS : St -> Prop}
theorem IN (hg:GO ds gd e)(hl:J5 op=false)(hq:AQ P ⟨n,e,st⟩ op v)(hk:D7 P (ds++[some t]) r KS ⟨n,EE e t v,st⟩):D7 P ds (⟨some t,op,ty,ps,ed,gd⟩::r) KS ⟨n,e,st⟩:=by
 refine hg.guard ?_;unfold LC;simp only[hl,lY,mC];exact hq _ hk
theorem dS (hg:GO ds gd e)(hl:J5 op=true)(hq :∀s0:St,s0.st=st->(∀x∈op.operands,s0.ev x=St.ev ⟨n,e,st⟩ x)->DH s0.n (some t)=true->Yl P ⟨some t,op,ty,ps,ed,gd⟩ s0 v)(hk:D7 P (ds++[some t]) r KS ⟨n,EE e t v,st⟩):D7 P ds (⟨some t,op,ty,ps,ed,gd⟩::r) KS ⟨n,e,st⟩:=by
 refine hg.guard ?_;unfold LC;simp only[hl,mL];exact⟨v,hq,hk⟩
theorem iE (hj:ds[jj]?=some (some tg))(ht:e tg=.bool b)(hb:b=!want)(h:D7 P (ds++[some t]) r KS ⟨n,EE e t .un,st⟩):D7 P ds (⟨some t,op,ty,ps,ed,some (jj,want)⟩::r) KS ⟨n,e,st⟩:=by
 subst hb;simp only[D7,I4,hj,ht,aE];exact⟨λh=>(by cases want<;>cases h),λ_=>h⟩
theorem Aw {s:St}(h:KS s):D7 P ds [] KS s:=h
theorem Sy {rf:Array Operand}{f:FuncId}{ts:Array TypeId}{s0 s1:St}(h :∀x∈(Op.call ⟨.value (.func f),rf,ts⟩).operands,s0.ev x=s1.ev x):rf.toList.map s0.ev=rf.toList.map s1.ev:=
 mH λx hx=>h x (by simp[Op.operands,Call.operands];right;simpa using hx)
theorem BV {f:FuncId}{rf:Array Operand}{ts:Array TypeId}{args:List AV}(hg:GO ds gd e)(hb:Dp P f=true)(hc:Ab P f args [] λr st=>r=v/\st=[])(ha:rf.toList.map (St.ev ⟨n,e,st⟩)++[]=args)(hf:args.all flat=true)(hv:flat v=true)
  (hk:D7 P (ds++[some t]) r KS ⟨n,EE e t v,st⟩):D7 P ds (⟨some t,.call ⟨.value (.func f),rf,ts⟩,ty,ps,ed,gd⟩::r) KS ⟨n,e,st⟩:=by
 refine dS hg rfl (λs0 e1 e2 hd k F os a w hr next Q hn=>?_) hk;refine K0 (k:=k) (K:=(·=s0.put (some t) v)) hr hd ?_ hn;show Dp P f=true/\callThen P k s0 f (rf.toList.map s0.ev++[]) (some t) _;rw[Sy e2,ha];exact⟨hb,Uf hc hf hv rfl⟩
variable {α : Type} {l l' l2 : List α} {enc : α -> List AV} {kk uT : IntKind} {j : Int} {el T : TypeId} {size bytes sz id g i m off : Nat} {zz cs us : List AV} {x y : Operand} {xs : List (List AV)} {ag : Bool} {u u' : α}
theorem Av (hg:GO ds gd e)(hz:Hx P T=some zz)(hm:st.length=m)(qx:st++[⟨0,T,zz.length,[zz]⟩]=st')(hk:AO P k ops Q (ds++[some t]) r ⟨n,EE e t (.ptr m 0 0 0),st'⟩):AO P k ops Q ds (⟨some t,.alloc T,ty,ps,ed,gd⟩::r) ⟨n,e,st⟩:=by
 subst hm;subst qx;exact My hg (Aq _ hz hk)
theorem Bd (hg:GO ds gd e)(hx:St.ev ⟨n,e,st⟩ x=v)(hc:Kb v=some cs)(rC:cs.isEmpty=false)(hm:st.length=m)(qx:st++[⟨0,T,cs.length,[cs]⟩]=st')(hk:AO P k ops Q (ds++[some t]) r ⟨n,EE e t (.ptr m 0 0 0),st'⟩):AO P k ops Q ds (⟨some t,.box T x,ty,ps,ed,gd⟩::r) ⟨n,e,st⟩:=by
 subst hm;subst qx;subst hx;exact My hg (Aq _ hc ⟨(by intro h;rw[h]at rC;cases rC),hk⟩)
theorem Am (hg:GO ds gd e)(ht:Dr P T=some (ag,sz))(hx:St.ev ⟨n,e,st⟩ x=.ptr id g i off)(hr:st[id]?=some ⟨g,el,size,xs⟩)(hi:xs[i]?=some zz)(hv:St.ev ⟨n,e,st⟩ y=v)(hc:Kb v=some cs)(hn:cs.length=sz)(hle:off+cs.length<=size)
  (qx:st.set id ⟨g,el,size,xs.set i (HG zz off cs)⟩=st') (hk:AO P k ops Q (ds++[none]) r ⟨n,e,st'⟩):AO P k ops Q ds (⟨none,.store T x y,ty,ps,ed,gd⟩::r) ⟨n,e,st⟩:=by
 subst qx;subst hv;refine My hg ?_;rw[dX,hx];exact Aq _ ht (Aq _ hr ⟨rfl,Aq _ hi (Aq _ hc ⟨hn,hle,hk⟩)⟩)
theorem Zf {j:Int}:(l.map enc).set j.toNat (enc u)=(Sh.put l j u).map enc:=by simp[Sh.put,nj]
theorem J4 (hg:GO ds gd e)(ht:Dr P T=some (ag,sz))(hx:St.ev ⟨n,e,st⟩ x=.ptr id g j.toNat off)(hr:st[id]?=some ⟨g,el,size,l.map enc⟩)(hi:Sh.get l j=some u)(hv:St.ev ⟨n,e,st⟩ y=v)(hc:Kb v=some cs)(hn:cs.length=sz)(hle:off+cs.length<=size)
  (hsp:HG (enc u) off cs=enc u') (qx:st.set id ⟨g,el,size,(Sh.put l j u').map enc⟩=st') (hk:AO P k ops Q (ds++[none]) r ⟨n,e,st'⟩):AO P k ops Q ds (⟨none,.store T x y,ty,ps,ed,gd⟩::r) ⟨n,e,st⟩:=
 Am hg ht hx hr (CW hi) hv hc hn hle (by rw[hsp,Zf];exact qx) hk
theorem V3 (hg:GO ds gd e)(he:Ds P T=some ⟨el,size,bytes,zz⟩)(hx:St.ev ⟨n,e,st⟩ x=.int kk j)(hy:St.ev ⟨n,e,st⟩ y=.int uT j)(hz:enc u=zz)(hl:Sh.mk u j bytes=some l)(hm:st.length=m)(qx:st++[⟨0,el,size,l.map enc⟩]=st')
  (hk:AO P k ops Q (ds++[some t]) r ⟨n,EE e t (.own m 0 l.length),st'⟩):AO P k ops Q ds (⟨some t,.makeSlice T x y,ty,ps,ed,gd⟩::r) ⟨n,e,st⟩:=by
 subst hm;subst qx;subst hz;refine My hg ?_;rw[XL];unfold Sh.mk at hl;split at hl
 ·rename_i h;simp only[lX]at hl;subst hl;rw[hx,hy];simp only[pM,om]at hk;exact Aq _ he ⟨rfl,h.1,h.2.1,h.2.2,hk⟩
 ·cases hl
theorem BF {len:Nat}{parts:Array (Nat×Operand)}{pv:List (Nat×AV)}(hg:GO ds gd e)(he:Ds P T=some ⟨el,size,bytes,zz⟩)(hle:len*size<=16777216)(hp:(parts.toList.map λp=>(p.1,St.ev ⟨n,e,st⟩ p.2))=pv)
  (hc:Ms (λi=>some (i*size,size)) ((List.replicate len zz).flatten) pv=some cs) (hck:chunk size len cs=l.map enc) (yY:len=l.length) (hm:st.length=m) (qx:st++[⟨0,el,size,l.map enc⟩]=st') (hk:AO P k ops Q (ds++[some t]) r ⟨n,EE e t (.own m 0 l.length),st'⟩) :
  AO P k ops Q ds (⟨some t,.buildSlice T len parts,ty,ps,ed,gd⟩::r) ⟨n,e,st⟩:=by
 subst hm;subst qx;subst yY;refine My hg ?_;rw[Wy,hp];exact Aq _ he ⟨hle,Aq _ hc (by rw[hck];exact hk)⟩
theorem Cz {ys:AV}(hg:GO ds gd e)(he:Ds P T=some ⟨el,size,bytes,zz⟩)(hx:St.ev ⟨n,e,st⟩ x=.own id g m)(hr:st[id]?=some ⟨g,el,size,l.map enc⟩)(hm:m=l.length)(hy:St.ev ⟨n,e,st⟩ y=ys)(wM:EL st ys (l2.map enc))(hs :∀a,(enc a).length=size)(ha:Sh.app l l2 bytes=some l')
  (qx:st.set id ⟨g+1,el,size,l'.map enc⟩=st') (hk:AO P k ops Q (ds++[some t]) r ⟨n,EE e t (.own id (g+1) l'.length),st'⟩):AO P k ops Q ds (⟨some t,.call ⟨.builtin .append,#[x,y],#[T,T]⟩,ty,ps,ed,gd⟩::r) ⟨n,e,st⟩:=by
 subst qx;subst hy;subst hm;refine My hg ?_;rw[V0];refine⟨rfl,?_⟩;rw[hx];unfold Sh.app at ha;split at ha
 ·rename_i h;simp only[lX]at ha;subst ha;refine Aq _ he (wM _ ⟨λz hz=>?_,Aq _ hr ⟨rfl,(ly _).symm,rfl,rfl,by simpa using h.1,by simpa using h.2,?_⟩⟩)
  ·obtain⟨q,_,rfl⟩:=mA.1 hz;exact hs q
  ·have e1:(l.map enc).take l.length=l.map enc:=by rw[<- ly (f:=enc) (as:=l),nL]
   have e2:l.length+(l2.map enc).length=(l++l2).length:=by simp
   simp only[e1,e2,<- nI];exact hk
 ·cases ha
theorem cf {yZ:Operand}(hg:GO ds gd e)(he:Ds P T=some ⟨el,size,bytes,zz⟩)(hx:St.ev ⟨n,e,st⟩ x=.own id g m)(hr:st[id]?=some ⟨g,el,size,l.map enc⟩)(hm:m=l.length)(hh:St.ev ⟨n,e,st⟩ yZ=.int kk j)(hl:Sh.hi l j=some l')
  (qx:st.set id ⟨g+1,el,size,l'.map enc⟩=st') (hk:AO P k ops Q (ds++[some t]) r ⟨n,EE e t (.own id (g+1) l'.length),st'⟩):AO P k ops Q ds (⟨some t,.slice T x none (some yZ) none,ty,ps,ed,gd⟩::r) ⟨n,e,st⟩:=by
 subst qx;subst hm;refine My hg ?_;rw[Tg];simp only[mZ,ph];rw[hx,hh];unfold Sh.hi at hl;split at hl
 ·rename_i h;simp only[lX]at hl;subst hl;refine Aq _ he (Aq _ hr ⟨rfl,(ly _).symm,rfl,Aq _ rfl ⟨h.1,h.2,?_⟩⟩);have e1:(l.take j.toNat).length=j.toNat:=by rw[nq];omega
  rw[e1,List.map_take]at hk;exact hk
 ·cases hl
theorem Sl {lo hi:Option Operand}{i j:Int}(hg:GO ds gd e)(he:Ds P T=some ⟨el,size,bytes,zz⟩)(hx:St.ev ⟨n,e,st⟩ x=.sl (l.map enc))(h1:Tk (lo.map (St.ev ⟨n,e,st⟩)) 0=some i)(h2:Tk (hi.map (St.ev ⟨n,e,st⟩)) l.length=some j)(hs :∀a,(enc a).length=size)(hl:Sh.sl l i j=some l')
  (hk:AO P k ops Q (ds++[some t]) r ⟨n,EE e t (.sl (l'.map enc)),st⟩):AO P k ops Q ds (⟨some t,.slice T x lo hi none,ty,ps,ed,gd⟩::r) ⟨n,e,st⟩:=by
 refine My hg ?_;rw[Tg];simp only[ph];rw[hx];unfold Sh.sl at hl;split at hl
 ·rename_i h;simp only[lX]at hl;subst hl;refine Aq _ he (Aq _ h1 (Aq _ (by rw[ly];exact h2) ⟨h.1,h.2.1,by simpa using h.2.2,λz hz=>?_,?_⟩))
  ·obtain⟨q,_,rfl⟩:=mA.1 hz;exact hs q
  ·rw[List.map_drop,List.map_take]at hk;exact hk
 ·cases hl
theorem U6 (hg:GO ds gd e)(hs:DV P T=true)(hx:St.ev ⟨n,e,st⟩ x=.sl (l.map enc))(h1:l=[]->AO P k ops Q (ds++[some t]) r ⟨n,EE e t (.bool true),st⟩)(h2:AO P k ops Q (ds++[some t]) r ⟨n,EE e t (.bool false),st⟩){yT:TypeId}:
  AO P k ops Q ds (⟨some t,.binOp .eql T x (.const (.slice none 0 0)) yT,ty,ps,ed,gd⟩::r) ⟨n,e,st⟩:=by
 refine My hg ?_;rw[aO];refine⟨hs,?_⟩;rw[hx];exact⟨λh=>h1 (oT.1 h),h2⟩
def VV:List Row->Prop
 | []=>True
 | row::r=>DG row.xs/\VV r
theorem VV.get:∀{l:List Row},VV l->∀row∈l,DG row.xs
 | row::r,h,tn,hm=>by
  rcases lk.1 hm with rfl|hm
  ·exact h.1
  ·exact VV.get h.2 tn hm
variable {f : FuncId} {rf : Array Operand} {ts : Array TypeId} {args : List AV} {rows : List Row} {s : St}
theorem CH (hg:GO ds gd e)(hb:Dp P f=true)(hc:Ab P f args [] λr st=>r=v/\st=rows)(ha:rf.toList.map (St.ev ⟨n,e,st⟩)++[]=args)(hf:args.all flat=true)(hp:VV rows)(hv:shift st.length v=v')(qx:st++rows=st')
  (hk:AO P k ops Q (ds++[d]) r (St.put ⟨n,e,st'⟩ d v')):AO P k ops Q ds (⟨d,.call ⟨.value (.func f),rf,ts⟩,ty,ps,ed,gd⟩::r) ⟨n,e,st⟩:=by
 subst hv;subst qx;subst ha;refine My hg ?_;rw[Nj];refine⟨hb,V2 hc hf ?_⟩;rintro r st' ⟨rfl,rfl⟩;exact⟨hp.get,hk⟩
theorem dC {g:Nat}{rz:α->List AV}(hr:st[id]?=some ⟨g,el,size,l.map enc⟩)(hu :∀x,Hz (enc x)=rz x):Sk st (.own id g l.length)=.sl (l.map rz):=by
 simp only[Sk,hr,mL];rw[<- ly (f:=enc) (as:=l),nW,nQ,ID,nU];congr 1;exact mH λx _=>hu x
theorem Sn {cs:List AV}(h:cs.all simple=true):Hz cs=cs:=by
 rw[OE];exact (mH (g:=id) λc hc=>UC (lh.1 h c hc)).trans (nH _)
inductive BC (st:List Row):List AV->List AV->Prop
 | nil:BC st [] []
 | own {α:Type} {l:List α} {enc:α->List AV} {id g size m:Nat} {el:TypeId} {as bs:List AV} (hr:st[id]?=some ⟨g,el,size,l.map enc⟩) (hm:m=l.length) (hp :∀x,(enc x).all simple=true) (h:BC st as bs):BC st (.own id g m::as) (.sl (l.map enc)::bs)
 | ownD {α:Type} {l:List α} {enc rz:α->List AV} {id g size m:Nat} {el:TypeId} {as bs:List AV} (hr:st[id]?=some ⟨g,el,size,l.map enc⟩) (hm:m=l.length) (hp :∀x,(enc x).all Ee=true) (hu :∀x,Hz (enc x)=rz x) (h:BC st as bs):BC st (.own id g m::as) (.sl (l.map rz)::bs)
 | val {v:AV} {as bs:List AV} (hv:simple v=true) (h:BC st as bs):BC st (v::as) (v::bs)
inductive BA (st:List Row):List AV->List AV->Prop
 | nil:BA st [] []
 | own {α:Type} {l:List α} {enc:α->List AV} {id g size m:Nat} {el:TypeId} {as bs:List AV} (hr:st[id]?=some ⟨g,el,size,l.map enc⟩) (hm:m=l.length) (hp :∀x,(enc x).all simple=true) (h:BA st as bs):BA st (.own id g m::as) (.sl (l.map enc)::bs)
 | ownD {α:Type} {l:List α} {enc rz:α->List AV} {id g size m:Nat} {el:TypeId} {as bs:List AV} (hr:st[id]?=some ⟨g,el,size,l.map enc⟩) (hm:m=l.length) (hp :∀x,(enc x).all Ee=true) (hu :∀x,Hz (enc x)=rz x) (h:BA st as bs):BA st (.own id g m::as) (.sl (l.map rz)::bs)
 | agg {cs ds:List AV} {as bs:List AV} (hc:BC st cs ds) (h:BA st as bs):BA st (.agg cs::as) (.agg ds::bs)
 | val {v:AV} {as bs:List AV} (hv:flat v=true) (h:BA st as bs):BA st (v::as) (v::bs)
theorem SD {v:AV}(h:simple v=true):Sk st v=v:=by cases v<;>simp_all [simple,Sk]
theorem BC.spec {as bs:List AV}(h:BC st as bs):as.map (Sk st)=bs/\bs.all simple=true/\∀id g n,AV.own id g n∈as->∀row,st[id]?=some row->DG row.xs:=by
 induction h with
 | nil=>exact⟨rfl,rfl,by simp⟩
 | own hr hm hp h ih=>
  obtain⟨h1,h2,h3⟩:=ih;subst hm;refine⟨by rw[mF,dC hr (λx=>Sn (hp x)),h1],by simp[simple,h2],λrL g' n' hx row qa=>?_⟩;rcases lk.1 hx with hx|hx
  ·cases hx;rw[hr]at qa;cases qa;exact (AD hp).any
  ·exact h3 rL g' n' hx row qa
 | ownD hr hm hp hu h ih=>
  obtain⟨h1,h2,h3⟩:=ih;subst hm;refine⟨by rw[mF,dC hr hu,h1],by simp[simple,h2],λrL g' n' hx row qa=>?_⟩;rcases lk.1 hx with hx|hx
  ·cases hx;rw[hr]at qa;cases qa;exact Ai hp
  ·exact h3 rL g' n' hx row qa
 | @val v as bs hv h ih=>
  obtain⟨h1,h2,h3⟩:=ih;refine⟨by rw[mF,SD hv,h1],by simp[hv,h2],λrL g' n' hx row qa=>?_⟩;rcases lk.1 hx with hx|hx
  ·subst hx;simp[simple]at hv
  ·exact h3 rL g' n' hx row qa
theorem BA.spec {as bs:List AV}(h:BA st as bs):as.map (HZ st)=bs/\bs.all flat=true/\∀id g n,QP as id g n->∀row,st[id]?=some row->DG row.xs:=by
 induction h with
 | nil=>exact⟨rfl,rfl,by rintro id g n (h|⟨_,h,_⟩)<;>simp at h⟩
 | own hr hm hp h ih=>
  obtain⟨h1,h2,h3⟩:=ih;subst hm;refine⟨by rw[mF,h1];congr 1;exact dC hr (λx=>Sn (hp x)),by simp[flat,h2],λrL g' n' hx row qa=>?_⟩;rcases hx with hx|⟨cs,hx,rY⟩
  ·rcases lk.1 hx with hx|hx
   ·cases hx;rw[hr]at qa;cases qa;exact (AD hp).any
   ·exact h3 rL g' n' (.inl hx) row qa
  ·rcases lk.1 hx with hx|hx
   ·cases hx
   ·exact h3 rL g' n' (.inr ⟨cs,hx,rY⟩) row qa
 | ownD hr hm hp hu h ih=>
  obtain⟨h1,h2,h3⟩:=ih;subst hm;refine⟨by rw[mF,h1];congr 1;exact dC hr hu,by simp[flat,h2],λrL g' n' hx row qa=>?_⟩;rcases hx with hx|⟨cs,hx,rY⟩
  ·rcases lk.1 hx with hx|hx
   ·cases hx;rw[hr]at qa;cases qa;exact Ai hp
   ·exact h3 rL g' n' (.inl hx) row qa
  ·rcases lk.1 hx with hx|hx
   ·cases hx
   ·exact h3 rL g' n' (.inr ⟨cs,hx,rY⟩) row qa
 | agg hc h ih=>
  obtain⟨h1,h2,h3⟩:=ih;obtain⟨g1,g2,g3⟩:=hc.spec;refine⟨by rw[mF,h1];simp only[HZ,g1],by simp only[ns,h2,Bool.and_true];simpa [flat] using g2,λrL g' n' hx row qa=>?_⟩;rcases hx with hx|⟨cs,hx,rY⟩
  ·rcases lk.1 hx with hx|hx
   ·cases hx
   ·exact h3 rL g' n' (.inl hx) row qa
  ·rcases lk.1 hx with hx|hx
   ·cases hx;exact g3 rL g' n' rY row qa
   ·exact h3 rL g' n' (.inr ⟨cs,hx,rY⟩) row qa
 | @val v as bs hv h ih=>
  obtain⟨h1,h2,h3⟩:=ih;have e1:HZ st v=v:=by
   cases v<;>simp[flat]at hv<;>try rfl
   rename_i cs;simp only[HZ];congr 1;exact (mH (g:=id) λc hc=>SD (hv c hc)).trans (nH _)
  refine⟨by rw[mF,e1,h1],by simp[hv,h2],λrL g' n' hx row qa=>?_⟩;rcases hx with hx|⟨cs,hx,rY⟩
  ·rcases lk.1 hx with hx|hx
   ·subst hx;simp[flat]at hv
   ·exact h3 rL g' n' (.inl hx) row qa
  ·rcases lk.1 hx with hx|hx
   ·subst hx;have:=lh.1 (show cs.all simple=true from hv) _ rY;simp[simple]at this
   ·exact h3 rL g' n' (.inr ⟨cs,hx,rY⟩) row qa
def OW:List Row->Prop
 | []=>True
 | row::r=>(DG row.xs/\∀x∈row.xs,∀c∈x,Nc c=true)/\OW r
theorem OW.get:∀{l:List Row},OW l->∀row∈l,DG row.xs/\∀x∈row.xs,∀c∈x,Nc c=true
 | row::r,h,tn,hm=>by
  rcases lk.1 hm with rfl|hm
  ·exact h.1
  ·exact OW.get h.2 tn hm
theorem jY {g:Nat}(h :∀x,(enc x).all (λc=>Ee c&&Nc c)=true)(hr:OW rows):OW (⟨g,el,size,l.map enc⟩::rows):=by
 refine⟨⟨λx hx c hc=>?_,λx hx c hc=>?_⟩,hr⟩ <;>
 ·obtain⟨y,_,rfl⟩:=mA.1 hx;have:=lh.1 (h y) c hc;simp only[mE]at this;first|exact this.1|exact this.2
theorem iz {g:Nat}(h :∀x,(enc x).all (λc=>simple c&&Nc c)=true)(hr:OW rows):OW (⟨g,el,size,l.map enc⟩::rows):=
 jY (λx=>lh.2 λc hc=>by
  have:=lh.1 (h x) c hc;simp only[mE]at this⊢;exact⟨PH this.1,this.2⟩) hr
theorem MN {as:List AV}(hg:GO ds gd e)(hb:Dp P f=true)(hc:Ab P f args [] λr st=>r=v/\st=rows)(ha:rf.toList.map (St.ev ⟨n,e,st⟩)++[]=as)(hba:BA st as args)(hsc:dB v=true)(hp:OW rows)(hv:shift st.length v=v')(qx:st++rows=st')
  (hk:AO P k ops Q (ds++[d]) r (St.put ⟨n,e,st'⟩ d v')):AO P k ops Q ds (⟨d,.call ⟨.value (.func f),rf,ts⟩,ty,ps,ed,gd⟩::r) ⟨n,e,st⟩:=by
 subst hv;subst qx;subst ha;obtain⟨h1,h2,h3⟩:=hba.spec;refine My hg ?_;rw[Nj];refine⟨hb,N4 (R:=λr st=>r=v/\st=rows) ?_ ?_ h3 ?_⟩
 ·show Ab P f (List.map (HZ st) _) [] _;rw[h1];exact hc
 ·show (List.map (HZ st) _).all flat=true;rw[h1];exact h2
 ·rintro r st' ⟨rfl,rfl⟩;exact⟨⟨hsc,λrow qa=>(hp.get row qa).2⟩,λrow qa=>(hp.get row qa).1,hk⟩
theorem Zd {as:List AV}{KS:St->Prop}{t:Tmp}(hg:GO ds gd e)(hb:Dp P f=true)(hc:Ab P f args [] λr st=>r=v/\st=[])(ha:rf.toList.map (St.ev ⟨n,e,st⟩)++[]=as)(hba:BA st as args)(hsc:dB v=true)(hv:shift st.length v=v')
  (hk:D7 P (ds++[some t]) r KS ⟨n,EE e t v',st⟩):D7 P ds (⟨some t,.call ⟨.value (.func f),rf,ts⟩,ty,ps,ed,gd⟩::r) KS ⟨n,e,st⟩:=by
 subst hv;subst ha;obtain⟨h1,h2,h3⟩:=hba.spec;refine dS hg rfl (λs0 e1 e2 hd k F os a w hr next Q hn=>?_) hk;refine K0 (k:=k) (K:=(·=s0.put (some t) (shift st.length v))) hr hd ?_ hn;show Dp P f=true/\callThen P k s0 f (rf.toList.map s0.ev++[]) (some t) _;rw[Sy e2];refine⟨hb,?_⟩;subst e1;refine N4 (R:=λr st'=>r=v/\st'=[]) ?_ ?_ h3 ?_
 ·show Ab P f (List.map (HZ s0.st) _) [] _;rw[h1];exact hc
 ·show (List.map (HZ s0.st) _).all flat=true;rw[h1];exact h2
 ·rintro r st' ⟨rfl,rfl⟩;refine⟨⟨hsc,by simp⟩,by simp,?_⟩;rw[mn]
end
section
variable {P : Program} {k : Nat} {Q : Exit -> St -> Prop} {s s' : St} {x y c : Code}
theorem GW {o:Operand}{b:Bool}(ho:s.ev o=.bool b)(h1:b=true->AW P k x Q s)(h2:b=false->AW P k y Q s):AW P k (.cond o x y) Q s:=
 AW.cond λK1 K2 e1 e2=>by rw[ho];exact⟨λh=>e1 (h1 h),λh=>e2 (h2 h)⟩
theorem Ax {σ:Type}(I:Nat->σ->Prop)(canon:σ->St)(n0:Nat)(v0:σ)(h0:I n0 v0)(hw:Wk k s (canon v0))(hz :∀v,¬ I 0 v)
  (round :∀n v,I (n+1) v->AW P k c (Ka (λs'=>∃v',I n v'/\Wk k s' (canon v')) Q) (canon v)):AW P k (.loop c) Q s:=by
 refine AK hw ?_;have key:∀n v,I n v->∀F os a w,Rel F os (canon v) a w->∀(b:Frame) (kk:List Item) (cs:List Frame),
   ∃e a' w',KO k Q F os w e a' w'/\Arrives P (lone (b.at a (.code c::.inLoop c::kk)) cs w) b kk cs e a' w':=by
  intro n
  induction n with
  | zero=>intro v hI;exact absurd hI (hz v)
  | succ n ih=>
   intro v hI F os a w hr b kk cs;obtain⟨e,a₁,w₁,⟨s1,F1,rJ,hq,hR1,hE1⟩,harr⟩:=round n v hI F os a w hr b (.inLoop c::kk) cs;cases e with
   | normal=>
    obtain⟨v2,hI2,hw2⟩:=hq;obtain⟨F2,os2,hR2,hE2⟩:=hw2 F1 rJ a₁ w₁ hR1;obtain⟨e₂,a₂,w₂,hq₂,harr₂⟩:=ih v2 hI2 F2 os2 a₁ w₁ hR2 b kk cs;exact⟨e₂,a₂,w₂,hq₂.trans (hE1.trans hE2),.of_steps (Steps.trans harr (.one step_inLoop)) harr₂⟩
   | exit id=>exact⟨_,a₁,w₁,⟨s1,F1,rJ,hq,hR1,hE1⟩,.pass (x:=.inLoop c) rfl (λ_ _=>.inl (by simp)) harr⟩
   | goto l=>exact⟨_,a₁,w₁,⟨s1,F1,rJ,hq,hR1,hE1⟩,.pass (x:=.inLoop c) rfl (λ_ _=>.inl (by simp)) harr⟩
   | ret=>exact⟨_,a₁,w₁,⟨s1,F1,rJ,hq,hR1,hE1⟩,.pass (x:=.inLoop c) rfl (λ_ _=>.inl (by simp)) harr⟩
   | panic ch=>exact⟨_,a₁,w₁,⟨s1,F1,rJ,hq,hR1,hE1⟩,.pass (x:=.inLoop c) rfl (λ_ _=>.inl (by simp)) harr⟩
   | outgrown=>exact⟨_,a₁,w₁,⟨s1,F1,rJ,hq,hR1,hE1⟩,.pass (x:=.inLoop c) rfl (λ_ _=>.inl (by simp)) harr⟩
 intro F os a w hr b kk cs;obtain⟨e,a',w',hq,harr⟩:=key n0 v0 h0 F os a w hr b kk cs;exact⟨e,a',w',hq,.of_steps (.one step_loop) harr⟩
end
end Go.Abs
