import Derived.Test.YtihdgoiebmfapaaGreatAbsO
set_option linter.all false
namespace Go.Abs
open Go
def AQ (P:Program)(s:St)(op:Op)(v:AV):Prop:=∀K:AV->Prop,K v->I2 P s op K
def EL (st:List Row)(v:AV)(ys:List (List AV)):Prop:=∀K:List (List AV)->Prop,K ys->WL st v K
section
variable {P : Program} {s : St} {x y z c : Operand} {v : AV} {t t' : TypeId} {kk : IntKind} {a b : Int} {p q : Bool}
theorem BN (h:s.ev x=v):AQ P s (.move x) v:=λK hk=>by show K (s.ev x);rw[h];exact hk
theorem Ry (h:s.ev x=v):AQ P s (.assign x) v:=λK hk=>by show K (s.ev x);rw[h];exact hk
theorem bJ {x y:AV}{K:AV->Prop}(h:K x):OW (.bool true) x y K:=by
 cases x<;>cases y<;>first|exact h|exact⟨λ_=>h,λh=>by cases h⟩
theorem bA {x y:AV}{K:AV->Prop}(h:K y):OW (.bool false) x y K:=by
 cases x<;>cases y<;>first|exact h|exact⟨λh=>(by cases h),λ_=>h⟩
theorem J3 (hc:s.ev c=.bool p)(hp:p=true)(hx:s.ev x=v):AQ P s (.pick c x y) v:=λK hk=>by
 show OW (s.ev c) (s.ev x) (s.ev y) K;rw[hc,hp,hx];exact bJ hk
theorem Ka (hc:s.ev c=.bool p)(hp:p=false)(hy:s.ev y=v):AQ P s (.pick c x y) v:=λK hk=>by
 show OW (s.ev c) (s.ev x) (s.ev y) K;rw[hc,hp,hy];exact bA hk
variable (hx : s.ev x = .int kk a) (hy : s.ev y = .int kk b)
include hx hy
theorem HR {op:BinOp}(h :∀K:AV->Prop,K v->XI op kk a b K):AQ P s (.binOp op t x y t') v:=λK hk=>by
 show UL P t op (s.ev x) (s.ev y) K;rw[hx,hy];exact⟨rfl,h K hk⟩
theorem bg:AQ P s (.binOp .add t x y t') (.int kk (Sh.wk kk (a+b))):=HR hx hy λ_ hk=>hk
theorem aj:AQ P s (.binOp .sub t x y t') (.int kk (Sh.wk kk (a-b))):=HR hx hy λ_ hk=>hk
theorem bb:AQ P s (.binOp .mul t x y t') (.int kk (Sh.wk kk (a*b))):=HR hx hy λ_ hk=>hk
theorem Q4 {q:Int}(h:Sh.rem a b=some q):AQ P s (.binOp .rem t x y t') (.int kk q):=HR hx hy λ_ hk=>by
 obtain⟨h1,rfl⟩:=Sh.Zv h;exact⟨h1,hk⟩
theorem Ye:AQ P s (.binOp .lss t x y t') (.bool (decide (a<b))):=HR hx hy λ_ hk=>hk
theorem eA:AQ P s (.binOp .leq t x y t') (.bool (decide (a<=b))):=HR hx hy λ_ hk=>hk
theorem eD:AQ P s (.binOp .gtr t x y t') (.bool (decide (b<a))):=HR hx hy λ_ hk=>hk
theorem eK:AQ P s (.binOp .geq t x y t') (.bool (decide (b<=a))):=HR hx hy λ_ hk=>hk
theorem dM:AQ P s (.binOp .eql t x y t') (.bool (decide (a=b))):=HR hx hy λ_ hk=>hk
theorem dm:AQ P s (.binOp .neq t x y t') (.bool (!decide (a=b))):=HR hx hy λ_ hk=>hk
end
section
variable {P : Program} {s : St} {x y z c : Operand} {v : AV} {t t' : TypeId} {kk : IntKind} {a b : Int} {p q : Bool}
variable (hx : s.ev x = i64 a) (hy : s.ev y = i64 b)
include hx hy
theorem Qi:AQ P s (.binOp .add t x y t') (i64 (Sh.w (a+b))):=HR hx hy λ_ hk=>hk
theorem NP:AQ P s (.binOp .sub t x y t') (i64 (Sh.w (a-b))):=HR hx hy λ_ hk=>hk
theorem bx:AQ P s (.binOp .mul t x y t') (i64 (Sh.w (a*b))):=HR hx hy λ_ hk=>hk
theorem cO:AQ P s (.binOp .xor t x y t') (i64 (Sh.xor a b)):=HR hx hy λ_ hk=>hk
theorem Tt {q:Int}(h:Sh.quo a b=some q):AQ P s (.binOp .quo t x y t') (i64 q):=HR hx hy λ_ hk=>by
 obtain⟨h1,rfl⟩:=Sh.aI h;exact⟨h1,hk⟩
theorem TH (h:b≠0):AQ P s (.binOp .quo t x y t') (i64 (Sh.w (a.tdiv b))):=HR hx hy λ_ hk=>⟨h,hk⟩
end
section
variable {P : Program} {s : St} {x y z c : Operand} {v : AV} {t t' : TypeId} {kk pL : IntKind} {a b : Int} {p q ag : Bool} {id g i off oZ f size sz bytes m j : Nat} {cs vs : List AV} {xs : List (List AV)} {el : TypeId}
theorem bl (ht:NL P t=true)(hx:s.ev x=.bool p)(hy:s.ev y=.bool q):AQ P s (.binOp .eql t x y t') (.bool (p==q)):=λK hk=>by
 show UL P t .eql (s.ev x) (s.ev y) K;rw[hx,hy];exact⟨ht,hk⟩
theorem cg (ht:NL P t=true)(hx:s.ev x=.bool p)(hy:s.ev y=.bool q):AQ P s (.binOp .neq t x y t') (.bool (p != q)):=λK hk=>by
 show UL P t .neq (s.ev x) (s.ev y) K;rw[hx,hy];exact⟨ht,hk⟩
theorem bz (hx:s.ev x=.bool p):AQ P s (.unOp .not t x) (.bool (!p)):=λK hk=>by
 show Zz .not (s.ev x) K;rw[hx];exact hk
theorem cP (hx:s.ev x=i64 a):AQ P s (.unOp .neg t x) (i64 (Sh.w (-a))):=λK hk=>by
 show Zz .neg (s.ev x) K;rw[hx];exact hk
def YV (P:Program)(src dst:TypeId):Option IntKind:=
 match P.underlying src,P.underlying dst with
 | some _,some (.int k)=>some k
 | _,_=>none
theorem YD (hc:YV P t t'=some pL)(hx:s.ev x=.int kk a):AQ P s (.convert t t' x) (.int pL (Sh.wk pL a)):=λK hk=>by
 show Ti P t t' (s.ev x) K;rw[hx];unfold YV at hc;unfold Ti;split at hc
 ·rename_i h1 h2;simp only[ff]at hc;subst hc;simp only[h1,h2];exact hk
 ·cases hc
theorem dH (hx:s.ev x=.Dm vs)(hv:vs[i]?=some v):AQ P s (.extract x i) v:=λK hk=>by
 show PJ (s.ev x) i K;rw[hx];exact Am v hv hk
theorem HT (ht:EN P t=some (false,sz))(hx:s.ev x=.Bc cs off)(hv:cs[off]?=some v):AQ P s (.load t x) v:=λK hk=>by
 show Ot P s.st t (s.ev x) K;rw[hx];exact Am _ ht (Am v hv hk)
theorem HH (ht:EN P t=some (true,sz))(hx:s.ev x=.Bc cs off)(hl:off+sz<=cs.length)(hv:(cs.drop off).take sz=vs):AQ P s (.load t x) (.agg vs):=λK hk=>by
 show Ot P s.st t (s.ev x) K;rw[hx];subst hv;exact Am _ ht ⟨hl,hk⟩
theorem Bp (ht:EN P t=some (false,sz))(hx:s.ev x=.ptr id g i off)(hr:s.st[id]?=some ⟨g,el,size,xs⟩)(hi:xs[i]?=some cs)(hv:cs[off]?=some v):AQ P s (.load t x) v:=λK hk=>by
 show Ot P s.st t (s.ev x) K;rw[hx];exact Am _ ht (Am _ hr ⟨rfl,Am cs hi (Am v hv hk)⟩)
theorem Ar (ht:EN P t=some (true,sz))(hx:s.ev x=.ptr id g i off)(hr:s.st[id]?=some ⟨g,el,size,xs⟩)(hi:xs[i]?=some cs)(hl:off+sz<=cs.length)(hv:(cs.drop off).take sz=vs):AQ P s (.load t x) (.agg vs):=λK hk=>by
 show Ot P s.st t (s.ev x) K;rw[hx];subst hv;exact Am _ ht (Am _ hr ⟨rfl,Am cs hi ⟨hl,hk⟩⟩)
theorem Hy (hf:HM P t f=some j)(hx:s.ev x=.Bc cs off)(ho:off+j=oZ):AQ P s (.fieldAddr t x f) (.Bc cs oZ):=λK hk=>by
 show Kr P t (s.ev x) f s.st K;rw[hx];subst ho;exact Am _ hf hk
theorem Es (hf:HM P t f=some j)(hx:s.ev x=.ptr id g i off)(hr:s.st[id]?=some ⟨g,el,size,xs⟩)(hl:off+j<=size)(ho:off+j=oZ):AQ P s (.fieldAddr t x f) (.ptr id g i oZ):=λK hk=>by
 show Kr P t (s.ev x) f s.st K;rw[hx];subst ho;exact Am _ hf (Am _ hr ⟨rfl,hl,hk⟩)
def R5 (P:Program)(t:TypeId)(f:Nat):Option (Nat×Bool×Nat):=
 match P.underlying t with
 | some (.struct fs)=>match fs[f]? with
  | some g=>match EN P g.type with
   | some ti=>some (g.offset,ti)
   | none=>none
  | none=>none
 | _=>none
theorem Tf {f o:Nat}{ti:Bool×Nat}{K:AV->Prop}(h:R5 P t f=some (o,ti))(hk:KU ti.1 ti.2 cs o K):MG P t (.agg cs) f K:=by
 unfold R5 at h;unfold MG;split at h
 ·rename_i fs hu;split at h
  ·rename_i gg hg;split at h
   ·rename_i ti' ht;simp only[ff,kF]at h;obtain⟨rfl,rfl⟩:=h;rw[hu];exact Am _ hg (Am _ ht hk)
   ·cases h
  ·cases h
 ·cases h
theorem dP (hf:R5 P t f=some (off,false,sz))(hx:s.ev x=.agg cs)(hv:cs[off]?=some v):AQ P s (.field t x f) v:=λK hk=>by
 show MG P t (s.ev x) f K;rw[hx];exact Tf hf (Am v hv hk)
theorem cK (hf:R5 P t f=some (off,true,sz))(hx:s.ev x=.agg cs)(hl:off+sz<=cs.length)(hv:(cs.drop off).take sz=vs):AQ P s (.field t x f) (.agg vs):=λK hk=>by
 show MG P t (s.ev x) f K;rw[hx];subst hv;exact Tf hf ⟨hl,hk⟩
variable {α : Type} {l l' : List α} {enc : α -> List AV} {n : Int} {zz : List AV} {u : α}
theorem CS (h:Sh.get l n=some u):(l.map enc)[n.toNat]?=some (enc u):=by
 rw[fg,(Sh.get_some h).2.1];rfl
theorem CZ (he:Dt P t=some ⟨el,size,bytes,zz⟩)(hx:s.ev x=.sl (l.map enc))(hy:s.ev y=.int kk n)(hg:Sh.get l n=some u)(hs:(enc u).length=size):AQ P s (.indexAddr t x y) (.Bc (enc u) 0):=λK hk=>by
 show Hr P s.st t (s.ev x) (s.ev y) K;rw[hx,hy];exact Am _ he ⟨(Sh.get_some hg).1,Am _ (CS hg) ⟨hs,hk⟩⟩
theorem CC (he:Dt P t=some ⟨el,size,bytes,zz⟩)(hx:s.ev x=.own id g m)(hy:s.ev y=.int kk n)(hr:s.st[id]?=some ⟨g,el,size,l.map enc⟩)(hm:m=l.length)(hg:Sh.get l n=some u):
  AQ P s (.indexAddr t x y) (.ptr id g n.toNat 0):=λK hk=>by
 show Hr P s.st t (s.ev x) (s.ev y) K;rw[hx,hy];subst hm;exact Am _ he ⟨(Sh.get_some hg).1,(Sh.get_some hg).2.2,Am _ hr ⟨rfl,rfl,by simpa using hk⟩⟩
theorem Ch (hs:DI P t=true)(hx:s.ev x=.sl (l.map enc)):AQ P s (.call ⟨.builtin .len,#[x],#[t]⟩) (i64 (Sh.len l)):=λK hk=>by
 refine⟨hs,?_⟩;rw[hx];simp only[ZC,gI];exact hk
theorem Cq (hs:DI P t=true)(hx:s.ev x=.own id g m)(hr:s.st[id]?=some ⟨g,el,size,l.map enc⟩)(hm:m=l.length):AQ P s (.call ⟨.builtin .len,#[x],#[t]⟩) (i64 (Sh.len l)):=λK hk=>by
 refine⟨hs,?_⟩;subst hm;rw[hx];exact Am _ hr ⟨rfl,hk⟩
theorem XS (hs:DI P t=true)(hx:s.ev x=.zc):AQ P s (.call ⟨.builtin .len,#[x],#[t]⟩) (i64 0):=λK hk=>by
 refine⟨hs,?_⟩;rw[hx];exact hk
theorem ca (hx:s.ev x=.ptr id g i off)(hr:s.st[id]?=some ⟨g,el,size,xs⟩):AQ P s (.nilCheck x) (.ptr id g i off):=λK hk=>by
 show Vm s.st (s.ev x) K;rw[hx];exact Am _ hr ⟨rfl,hk⟩
theorem cF (hx:s.ev x=.Bc cs off):AQ P s (.nilCheck x) (.Bc cs off):=λK hk=>by
 show Vm s.st (s.ev x) K;rw[hx];exact hk
theorem DL {parts:Array (Nat×Operand)}{fs:List (Nat×Nat)}{pv:List (Nat×AV)}(ha:Ie P t=true)(hf:Jt P t=some fs)(hz:IL P t=some zz)(hp:(parts.toList.map λp=>(p.1,s.ev p.2))=pv)(hc:L3 (fs[·]?) zz pv=some cs):
  AQ P s (.build t parts) (.agg cs):=λK hk=>by
 show WY P t (parts.toList.map λp=>(p.1,s.ev p.2)) K;rw[hp];exact⟨ha,Am _ hf (Am _ hz (Am _ hc hk))⟩
variable {st : List Row} {ys : List (List AV)}
theorem MJ:EL st (.sl ys) ys:=λ_ hk=>hk
theorem Gr (hr:st[id]?=some ⟨g,el,size,l.map enc⟩)(hm:m=l.length)(mQ :∀x,(enc x).all AV.leaf=true:=by exact λ_=>rfl):EL st (.own id g m) (l.map enc):=λK hk=>by
 subst hm;refine Am _ hr ⟨rfl,λy hy c hc=>?_,?_⟩
 ·obtain⟨x,_,rfl⟩:=gC.1 hy;exact fk.1 (mQ x) c hc
 rw[<- gI (f:=enc) (as:=l),iR];exact⟨rfl,hk⟩
end
section
variable {P : Program} {k : Nat} {ops : Array Oper} {Q : Exit -> St -> Prop} {ds : List (Option Tmp)} {r : List Oper} {n : Nat} {e : Nat -> AV} {st st' : List Row} {op : Op} {ty : TypeId} {ps : String} {ed : Array Edge} {d : Option Tmp} {t : Tmp} {v v' : AV}
variable {jj : Nat} {want b : Bool} {tg : Tmp} {gd : Option (Nat × Bool)}
def GO (ds:List (Option Tmp))(gd:Option (Nat×Bool))(e:Nat->AV):Prop:=
 match gd with
 | none=>True
 | some (jj,want)=>∃tg,ds[jj]?=some (some tg)/\e tg=.bool want
theorem AH:GO ds none e:=fa
theorem CM (hj:ds[jj]?=some (some tg))(ht:e tg=.bool b)(hb:b=want):GO ds (some (jj,want)) e:=⟨tg,hj,by rw[ht,hb]⟩
theorem GO.guard {A B:Prop}(hg:GO ds gd e)(h:A):IT ds ⟨d,op,ty,ps,ed,gd⟩ ⟨n,e,st⟩ A B:=by
 unfold GO at hg;unfold IT;cases gd with
 | none=>exact h
 | some q=>
  obtain⟨jj,want⟩:=q;obtain⟨tg,hj,ht⟩:=hg;simp only[hj,ht,Xd];exact⟨λ_=>h,λhh=>absurd rfl hh⟩
theorem BV (hg:GO ds gd e)(hl:JU op=false)(hq:AQ P ⟨n,e,st⟩ op v)(hk:AO P k ops Q (ds++[some t]) r ⟨n,Em e t v,st⟩):AO P k ops Q ds (⟨some t,op,ty,ps,ed,gd⟩::r) ⟨n,e,st⟩:=by
 refine N5 (hg.guard ?_);unfold KN;simp only[hl,fh,gM];exact hq _ hk
theorem Lz (hg:GO ds gd e)(h:KN P k ⟨d,op,ty,ps,ed,gd⟩ ⟨n,e,st⟩ (AO P k ops Q (ds++[d]) r)):AO P k ops Q ds (⟨d,op,ty,ps,ed,gd⟩::r) ⟨n,e,st⟩:=
 N5 (hg.guard h)
theorem bh (hj:ds[jj]?=some (some tg))(ht:e tg=.bool b)(hb:b=!want)(h:AO P k ops Q (ds++[some t]) r ⟨n,Em e t .un,st⟩):AO P k ops Q ds (⟨some t,op,ty,ps,ed,some (jj,want)⟩::r) ⟨n,e,st⟩:=by
 refine N5 ?_;subst hb;simp only[IT,hj,ht,Xd];exact⟨λh=>(by cases want<;>cases h),λ_=>h⟩
theorem aT (hj:ds[jj]?=some (some tg))(ht:e tg=.un)(h:AO P k ops Q (ds++[some t]) r ⟨n,Em e t .un,st⟩):AO P k ops Q ds (⟨some t,op,ty,ps,ed,some (jj,want)⟩::r) ⟨n,e,st⟩:=by
 refine N5 ?_;simp only[IT,hj,ht,Xd];exact h
variable {KS : St -> Prop}
theorem HQ (hg:GO ds gd e)(hl:JU op=false)(hq:AQ P ⟨n,e,st⟩ op v)(hk:Dy P (ds++[some t]) r KS ⟨n,Em e t v,st⟩):Dy P ds (⟨some t,op,ty,ps,ed,gd⟩::r) KS ⟨n,e,st⟩:=by
 refine hg.guard ?_;unfold KT;simp only[hl,fh,gM];exact hq _ hk
theorem aE (hg:GO ds gd e)(hl:JU op=true)(hq :∀s0:St,s0.st=st->(∀x∈op.operands,s0.ev x=St.ev ⟨n,e,st⟩ x)->DM s0.n (some t)=true->Yl P ⟨some t,op,ty,ps,ed,gd⟩ s0 v)(hk:Dy P (ds++[some t]) r KS ⟨n,Em e t v,st⟩):Dy P ds (⟨some t,op,ty,ps,ed,gd⟩::r) KS ⟨n,e,st⟩:=by
 refine hg.guard ?_;unfold KT;simp only[hl,gb];exact⟨v,hq,hk⟩
theorem cJ (hj:ds[jj]?=some (some tg))(ht:e tg=.bool b)(hb:b=!want)(h:Dy P (ds++[some t]) r KS ⟨n,Em e t .un,st⟩):Dy P ds (⟨some t,op,ty,ps,ed,some (jj,want)⟩::r) KS ⟨n,e,st⟩:=by
 subst hb;simp only[Dy,IT,hj,ht,Xd];exact⟨λh=>(by cases want<;>cases h),λ_=>h⟩
theorem As {s:St}(h:KS s):Dy P ds [] KS s:=h
theorem Qt {mT:Array Operand}{f:FuncId}{ts:Array TypeId}{s0 s1:St}(h :∀x∈(Op.call ⟨.value (.func f),mT,ts⟩).operands,s0.ev x=s1.ev x):mT.toList.map s0.ev=mT.toList.map s1.ev:=
 gO λx hx=>h x (by simp[Op.operands,Call.operands];right;simpa using hx)
theorem BX {f:FuncId}{mT:Array Operand}{ts:Array TypeId}{args:List AV}(hg:GO ds gd e)(hb:D1 P f=true)(hc:Ac P f args [] λr st=>r=v/\st=[])(ha:mT.toList.map (St.ev ⟨n,e,st⟩)++[]=args)(hf:args.all flat=true)(hv:flat v=true)
  (hk:Dy P (ds++[some t]) r KS ⟨n,Em e t v,st⟩):Dy P ds (⟨some t,.call ⟨.value (.func f),mT,ts⟩,ty,ps,ed,gd⟩::r) KS ⟨n,e,st⟩:=by
 refine aE hg rfl (λs0 e1 e2 hd k F os a w hr next Q hn=>?_) hk;refine KH (k:=k) (K:=(·=s0.put (some t) v)) hr hd ?_ hn;show D1 P f=true/\callThen P k s0 f (mT.toList.map s0.ev++[]) (some t) _;rw[Qt e2,ha];exact⟨hb,Sz hc hf hv rfl⟩
variable {α : Type} {l l' l2 : List α} {enc : α -> List AV} {kk pL : IntKind} {j : Int} {el T : TypeId} {size bytes sz id g i m off : Nat} {zz cs us : List AV} {x y : Operand} {xs : List (List AV)} {ag : Bool} {u u' : α}
theorem Au (hg:GO ds gd e)(hz:IL P T=some zz)(hm:st.length=m)(lp:st++[⟨0,T,zz.length,[zz]⟩]=st')(hk:AO P k ops Q (ds++[some t]) r ⟨n,Em e t (.ptr m 0 0 0),st'⟩):AO P k ops Q ds (⟨some t,.alloc T,ty,ps,ed,gd⟩::r) ⟨n,e,st⟩:=by
 subst hm;subst lp;exact Lz hg (Am _ hz hk)
theorem Bt (hg:GO ds gd e)(hx:St.ev ⟨n,e,st⟩ x=v)(hc:J6 v=some cs)(lv:cs.isEmpty=false)(hm:st.length=m)(lp:st++[⟨0,T,cs.length,[cs]⟩]=st')(hk:AO P k ops Q (ds++[some t]) r ⟨n,Em e t (.ptr m 0 0 0),st'⟩):AO P k ops Q ds (⟨some t,.box T x,ty,ps,ed,gd⟩::r) ⟨n,e,st⟩:=by
 subst hm;subst lp;subst hx;exact Lz hg (Am _ hc ⟨(by intro h;rw[h]at lv;cases lv),hk⟩)
theorem Ao (hg:GO ds gd e)(ht:EN P T=some (ag,sz))(hx:St.ev ⟨n,e,st⟩ x=.ptr id g i off)(hr:st[id]?=some ⟨g,el,size,xs⟩)(hi:xs[i]?=some zz)(hv:St.ev ⟨n,e,st⟩ y=v)(hc:J6 v=some cs)(hn:cs.length=sz)(hle:off+cs.length<=size)
  (lp:st.set id ⟨g,el,size,xs.set i (Gw zz off cs)⟩=st') (hk:AO P k ops Q (ds++[none]) r ⟨n,e,st'⟩):AO P k ops Q ds (⟨none,.store T x y,ty,ps,ed,gd⟩::r) ⟨n,e,st⟩:=by
 subst lp;subst hv;refine Lz hg ?_;rw[aA,hx];exact Am _ ht (Am _ hr ⟨rfl,Am _ hi (Am _ hc ⟨hn,hle,hk⟩)⟩)
theorem W2 {j:Int}:(l.map enc).set j.toNat (enc u)=(Sh.put l j u).map enc:=by simp[Sh.put,iX]
theorem J5 (hg:GO ds gd e)(ht:EN P T=some (ag,sz))(hx:St.ev ⟨n,e,st⟩ x=.ptr id g j.toNat off)(hr:st[id]?=some ⟨g,el,size,l.map enc⟩)(hi:Sh.get l j=some u)(hv:St.ev ⟨n,e,st⟩ y=v)(hc:J6 v=some cs)(hn:cs.length=sz)(hle:off+cs.length<=size)
  (hsp:Gw (enc u) off cs=enc u') (lp:st.set id ⟨g,el,size,(Sh.put l j u').map enc⟩=st') (hk:AO P k ops Q (ds++[none]) r ⟨n,e,st'⟩):AO P k ops Q ds (⟨none,.store T x y,ty,ps,ed,gd⟩::r) ⟨n,e,st⟩:=
 Ao hg ht hx hr (CS hi) hv hc hn hle (by rw[hsp,W2];exact lp) hk
theorem XT (hg:GO ds gd e)(he:Dt P T=some ⟨el,size,bytes,zz⟩)(hx:St.ev ⟨n,e,st⟩ x=.int kk j)(hy:St.ev ⟨n,e,st⟩ y=.int pL j)(hz:enc u=zz)(hl:Sh.mk u j bytes=some l)(hm:st.length=m)(lp:st++[⟨0,el,size,l.map enc⟩]=st')
  (hk:AO P k ops Q (ds++[some t]) r ⟨n,Em e t (.own m 0 l.length),st'⟩):AO P k ops Q ds (⟨some t,.makeSlice T x y,ty,ps,ed,gd⟩::r) ⟨n,e,st⟩:=by
 subst hm;subst lp;subst hz;refine Lz hg ?_;rw[U0];unfold Sh.mk at hl;split at hl
 ·rename_i h;simp only[ff]at hl;subst hl;rw[hx,hy];simp only[kA,List.length_replicate]at hk;exact Am _ he ⟨rfl,h.1,h.2.1,h.2.2,hk⟩
 ·cases hl
theorem BD {len:Nat}{parts:Array (Nat×Operand)}{pv:List (Nat×AV)}(hg:GO ds gd e)(he:Dt P T=some ⟨el,size,bytes,zz⟩)(hle:len*size<=16777216)(hp:(parts.toList.map λp=>(p.1,St.ev ⟨n,e,st⟩ p.2))=pv)
  (hc:L3 (λi=>some (i*size,size)) ((List.replicate len zz).flatten) pv=some cs) (wu:chunk size len cs=l.map enc) (sS:len=l.length) (hm:st.length=m) (lp:st++[⟨0,el,size,l.map enc⟩]=st') (hk:AO P k ops Q (ds++[some t]) r ⟨n,Em e t (.own m 0 l.length),st'⟩) :
  AO P k ops Q ds (⟨some t,.buildSlice T len parts,ty,ps,ed,gd⟩::r) ⟨n,e,st⟩:=by
 subst hm;subst lp;subst sS;refine Lz hg ?_;rw[Uh,hp];exact Am _ he ⟨hle,Am _ hc (by rw[wu];exact hk)⟩
theorem Cv {ys:AV}(hg:GO ds gd e)(he:Dt P T=some ⟨el,size,bytes,zz⟩)(hx:St.ev ⟨n,e,st⟩ x=.own id g m)(hr:st[id]?=some ⟨g,el,size,l.map enc⟩)(hm:m=l.length)(hy:St.ev ⟨n,e,st⟩ y=ys)(rV:EL st ys (l2.map enc))(hs :∀a,(enc a).length=size)(ha:Sh.app l l2 bytes=some l')
  (lp:st.set id ⟨g+1,el,size,l'.map enc⟩=st') (hk:AO P k ops Q (ds++[some t]) r ⟨n,Em e t (.own id (g+1) l'.length),st'⟩):AO P k ops Q ds (⟨some t,.call ⟨.builtin .append,#[x,y],#[T,T]⟩,ty,ps,ed,gd⟩::r) ⟨n,e,st⟩:=by
 subst lp;subst hy;subst hm;refine Lz hg ?_;rw[UZ];refine⟨rfl,?_⟩;rw[hx];unfold Sh.app at ha;split at ha
 ·rename_i h;simp only[ff]at ha;subst ha;refine Am _ he (rV _ ⟨λz hz=>?_,Am _ hr ⟨rfl,(gI _).symm,rfl,rfl,by simpa using h.1,by simpa using h.2,?_⟩⟩)
  ·obtain⟨q,_,rfl⟩:=gC.1 hz;exact hs q
  ·have e1:(l.map enc).take l.length=l.map enc:=by rw[<- gI (f:=enc) (as:=l),iR]
   have e2:l.length+(l2.map enc).length=(l++l2).length:=by simp
   simp only[e1,e2,<- iD];exact hk
 ·cases ha
theorem ZN {zK:Operand}(hg:GO ds gd e)(he:Dt P T=some ⟨el,size,bytes,zz⟩)(hx:St.ev ⟨n,e,st⟩ x=.own id g m)(hr:st[id]?=some ⟨g,el,size,l.map enc⟩)(hm:m=l.length)(hh:St.ev ⟨n,e,st⟩ zK=.int kk j)(hl:Sh.hi l j=some l')
  (lp:st.set id ⟨g+1,el,size,l'.map enc⟩=st') (hk:AO P k ops Q (ds++[some t]) r ⟨n,Em e t (.own id (g+1) l'.length),st'⟩):AO P k ops Q ds (⟨some t,.slice T x none (some zK) none,ty,ps,ed,gd⟩::r) ⟨n,e,st⟩:=by
 subst lp;subst hm;refine Lz hg ?_;rw[Rv];simp only[gu,kR];rw[hx,hh];unfold Sh.hi at hl;split at hl
 ·rename_i h;simp only[ff]at hl;subst hl;refine Am _ he (Am _ hr ⟨rfl,(gI _).symm,rfl,Am _ rfl ⟨h.1,h.2,?_⟩⟩);have e1:(l.take j.toNat).length=j.toNat:=by rw[iz];omega
  rw[e1,List.map_take]at hk;exact hk
 ·cases hl
theorem Qx {lo hi:Option Operand}{i j:Int}(hg:GO ds gd e)(he:Dt P T=some ⟨el,size,bytes,zz⟩)(hx:St.ev ⟨n,e,st⟩ x=.sl (l.map enc))(h1:R6 (lo.map (St.ev ⟨n,e,st⟩)) 0=some i)(h2:R6 (hi.map (St.ev ⟨n,e,st⟩)) l.length=some j)(hs :∀a,(enc a).length=size)(hl:Sh.sl l i j=some l')
  (hk:AO P k ops Q (ds++[some t]) r ⟨n,Em e t (.sl (l'.map enc)),st⟩):AO P k ops Q ds (⟨some t,.slice T x lo hi none,ty,ps,ed,gd⟩::r) ⟨n,e,st⟩:=by
 refine Lz hg ?_;rw[Rv];simp only[kR];rw[hx];unfold Sh.sl at hl;split at hl
 ·rename_i h;simp only[ff]at hl;subst hl;refine Am _ he (Am _ h1 (Am _ (by rw[gI];exact h2) ⟨h.1,h.2.1,by simpa using h.2.2,λz hz=>?_,?_⟩))
  ·obtain⟨q,_,rfl⟩:=gC.1 hz;exact hs q
  ·rw[List.map_drop,List.map_take]at hk;exact hk
 ·cases hl
theorem TR (hg:GO ds gd e)(hs:DI P T=true)(hx:St.ev ⟨n,e,st⟩ x=.sl (l.map enc))(h1:l=[]->AO P k ops Q (ds++[some t]) r ⟨n,Em e t (.bool true),st⟩)(h2:AO P k ops Q (ds++[some t]) r ⟨n,Em e t (.bool false),st⟩){yT:TypeId}:
  AO P k ops Q ds (⟨some t,.binOp .eql T x (.const (.slice none 0 0)) yT,ty,ps,ed,gd⟩::r) ⟨n,e,st⟩:=by
 refine Lz hg ?_;rw[XU];refine⟨hs,?_⟩;rw[hx];exact⟨λh=>h1 (List.map_eq_nil_iff.1 h),h2⟩
def To:List Row->Prop
 | []=>True
 | row::r=>Cp row.xs/\To r
theorem To.get:∀{l:List Row},To l->∀row∈l,Cp row.xs
 | row::r,h,oY,hm=>by
  rcases fu.1 hm with rfl|hm
  ·exact h.1
  ·exact To.get h.2 oY hm
variable {f : FuncId} {mT : Array Operand} {ts : Array TypeId} {args : List AV} {rows : List Row} {s : St}
theorem CD (hg:GO ds gd e)(hb:D1 P f=true)(hc:Ac P f args [] λr st=>r=v/\st=rows)(ha:mT.toList.map (St.ev ⟨n,e,st⟩)++[]=args)(hf:args.all flat=true)(hp:To rows)(hv:shift st.length v=v')(lp:st++rows=st')
  (hk:AO P k ops Q (ds++[d]) r (St.put ⟨n,e,st'⟩ d v')):AO P k ops Q ds (⟨d,.call ⟨.value (.func f),mT,ts⟩,ty,ps,ed,gd⟩::r) ⟨n,e,st⟩:=by
 subst hv;subst lp;subst ha;refine Lz hg ?_;rw[Mh];refine⟨hb,Ue hc hf ?_⟩;rintro r st' ⟨rfl,rfl⟩;exact⟨hp.get,hk⟩
theorem ZJ {g:Nat}{nG:α->List AV}(hr:st[id]?=some ⟨g,el,size,l.map enc⟩)(hu :∀x,Hs (enc x)=nG x):RW st (.own id g l.length)=.sl (l.map nG):=by
 simp only[RW,hr,gb];rw[<- gI (f:=enc) (as:=l),iS,ir,Hb,iP];congr 1;exact gO λx _=>hu x
theorem Ql {cs:List AV}(h:cs.all simple=true):Hs cs=cs:=by
 rw[NN];exact (gO (g:=id) λc hc=>SP (fk.1 h c hc)).trans (hZ _)
inductive BC (st:List Row):List AV->List AV->Prop
 | nil:BC st [] []
 | own {α:Type} {l:List α} {enc:α->List AV} {id g size m:Nat} {el:TypeId} {as bs:List AV} (hr:st[id]?=some ⟨g,el,size,l.map enc⟩) (hm:m=l.length) (hp :∀x,(enc x).all simple=true) (h:BC st as bs):BC st (.own id g m::as) (.sl (l.map enc)::bs)
 | ownD {α:Type} {l:List α} {enc nG:α->List AV} {id g size m:Nat} {el:TypeId} {as bs:List AV} (hr:st[id]?=some ⟨g,el,size,l.map enc⟩) (hm:m=l.length) (hp :∀x,(enc x).all EY=true) (hu :∀x,Hs (enc x)=nG x) (h:BC st as bs):BC st (.own id g m::as) (.sl (l.map nG)::bs)
 | val {v:AV} {as bs:List AV} (hv:simple v=true) (h:BC st as bs):BC st (v::as) (v::bs)
inductive BA (st:List Row):List AV->List AV->Prop
 | nil:BA st [] []
 | own {α:Type} {l:List α} {enc:α->List AV} {id g size m:Nat} {el:TypeId} {as bs:List AV} (hr:st[id]?=some ⟨g,el,size,l.map enc⟩) (hm:m=l.length) (hp :∀x,(enc x).all simple=true) (h:BA st as bs):BA st (.own id g m::as) (.sl (l.map enc)::bs)
 | ownD {α:Type} {l:List α} {enc nG:α->List AV} {id g size m:Nat} {el:TypeId} {as bs:List AV} (hr:st[id]?=some ⟨g,el,size,l.map enc⟩) (hm:m=l.length) (hp :∀x,(enc x).all EY=true) (hu :∀x,Hs (enc x)=nG x) (h:BA st as bs):BA st (.own id g m::as) (.sl (l.map nG)::bs)
 | agg {cs ds:List AV} {as bs:List AV} (hc:BC st cs ds) (h:BA st as bs):BA st (.agg cs::as) (.agg ds::bs)
 | val {v:AV} {as bs:List AV} (hv:flat v=true) (h:BA st as bs):BA st (v::as) (v::bs)
theorem Qo {v:AV}(h:simple v=true):RW st v=v:=by cases v<;>simp_all [simple,RW]
theorem BC.spec {as bs:List AV}(h:BC st as bs):as.map (RW st)=bs/\bs.all simple=true/\∀id g n,AV.own id g n∈as->∀row,st[id]?=some row->Cp row.xs:=by
 induction h with
 | nil=>exact⟨rfl,rfl,by simp⟩
 | own hr hm hp h ih=>
  obtain⟨h1,h2,h3⟩:=ih;subst hm;refine⟨by rw[gP,ZJ hr (λx=>Ql (hp x)),h1],by simp[simple,h2],λmG g' n' hx row lQ=>?_⟩;rcases fu.1 hx with hx|hx
  ·cases hx;rw[hr]at lQ;cases lQ;exact (AB hp).any
  ·exact h3 mG g' n' hx row lQ
 | ownD hr hm hp hu h ih=>
  obtain⟨h1,h2,h3⟩:=ih;subst hm;refine⟨by rw[gP,ZJ hr hu,h1],by simp[simple,h2],λmG g' n' hx row lQ=>?_⟩;rcases fu.1 hx with hx|hx
  ·cases hx;rw[hr]at lQ;cases lQ;exact Ah hp
  ·exact h3 mG g' n' hx row lQ
 | @val v as bs hv h ih=>
  obtain⟨h1,h2,h3⟩:=ih;refine⟨by rw[gP,Qo hv,h1],by simp[hv,h2],λmG g' n' hx row lQ=>?_⟩;rcases fu.1 hx with hx|hx
  ·subst hx;simp[simple]at hv
  ·exact h3 mG g' n' hx row lQ
theorem BA.spec {as bs:List AV}(h:BA st as bs):as.map (G4 st)=bs/\bs.all flat=true/\∀id g n,PI as id g n->∀row,st[id]?=some row->Cp row.xs:=by
 induction h with
 | nil=>exact⟨rfl,rfl,by rintro id g n (h|⟨_,h,_⟩)<;>simp at h⟩
 | own hr hm hp h ih=>
  obtain⟨h1,h2,h3⟩:=ih;subst hm;refine⟨by rw[gP,h1];congr 1;exact ZJ hr (λx=>Ql (hp x)),by simp[flat,h2],λmG g' n' hx row lQ=>?_⟩;rcases hx with hx|⟨cs,hx,mX⟩
  ·rcases fu.1 hx with hx|hx
   ·cases hx;rw[hr]at lQ;cases lQ;exact (AB hp).any
   ·exact h3 mG g' n' (.inl hx) row lQ
  ·rcases fu.1 hx with hx|hx
   ·cases hx
   ·exact h3 mG g' n' (.inr ⟨cs,hx,mX⟩) row lQ
 | ownD hr hm hp hu h ih=>
  obtain⟨h1,h2,h3⟩:=ih;subst hm;refine⟨by rw[gP,h1];congr 1;exact ZJ hr hu,by simp[flat,h2],λmG g' n' hx row lQ=>?_⟩;rcases hx with hx|⟨cs,hx,mX⟩
  ·rcases fu.1 hx with hx|hx
   ·cases hx;rw[hr]at lQ;cases lQ;exact Ah hp
   ·exact h3 mG g' n' (.inl hx) row lQ
  ·rcases fu.1 hx with hx|hx
   ·cases hx
   ·exact h3 mG g' n' (.inr ⟨cs,hx,mX⟩) row lQ
 | agg hc h ih=>
  obtain⟨h1,h2,h3⟩:=ih;obtain⟨g1,g2,g3⟩:=hc.spec;refine⟨by rw[gP,h1];simp only[G4,g1],by simp only[jX,h2,Bool.and_true];simpa [flat] using g2,λmG g' n' hx row lQ=>?_⟩;rcases hx with hx|⟨cs,hx,mX⟩
  ·rcases fu.1 hx with hx|hx
   ·cases hx
   ·exact h3 mG g' n' (.inl hx) row lQ
  ·rcases fu.1 hx with hx|hx
   ·cases hx;exact g3 mG g' n' mX row lQ
   ·exact h3 mG g' n' (.inr ⟨cs,hx,mX⟩) row lQ
 | @val v as bs hv h ih=>
  obtain⟨h1,h2,h3⟩:=ih;have e1:G4 st v=v:=by
   cases v<;>simp[flat]at hv<;>try rfl
   rename_i cs;simp only[G4];congr 1;exact (gO (g:=id) λc hc=>Qo (hv c hc)).trans (hZ _)
  refine⟨by rw[gP,e1,h1],by simp[hv,h2],λmG g' n' hx row lQ=>?_⟩;rcases hx with hx|⟨cs,hx,mX⟩
  ·rcases fu.1 hx with hx|hx
   ·subst hx;simp[flat]at hv
   ·exact h3 mG g' n' (.inl hx) row lQ
  ·rcases fu.1 hx with hx|hx
   ·subst hx;have:=fk.1 (show cs.all simple=true from hv) _ mX;simp[simple]at this
   ·exact h3 mG g' n' (.inr ⟨cs,hx,mX⟩) row lQ
def Na:List Row->Prop
 | []=>True
 | row::r=>(Cp row.xs/\∀x∈row.xs,∀c∈x,Mg c=true)/\Na r
theorem Na.get:∀{l:List Row},Na l->∀row∈l,Cp row.xs/\∀x∈row.xs,∀c∈x,Mg c=true
 | row::r,h,oY,hm=>by
  rcases fu.1 hm with rfl|hm
  ·exact h.1
  ·exact Na.get h.2 oY hm
theorem dZ {g:Nat}(h :∀x,(enc x).all (λc=>EY c&&Mg c)=true)(hr:Na rows):Na (⟨g,el,size,l.map enc⟩::rows):=by
 refine⟨⟨λx hx c hc=>?_,λx hx c hc=>?_⟩,hr⟩ <;>
 ·obtain⟨y,_,rfl⟩:=gC.1 hx;have:=fk.1 (h y) c hc;simp only[gN]at this;first|exact this.1|exact this.2
theorem dA {g:Nat}(h :∀x,(enc x).all (λc=>simple c&&Mg c)=true)(hr:Na rows):Na (⟨g,el,size,l.map enc⟩::rows):=
 dZ (λx=>fk.2 λc hc=>by
  have:=fk.1 (h x) c hc;simp only[gN]at this⊢;exact⟨OB this.1,this.2⟩) hr
theorem LZ {as:List AV}(hg:GO ds gd e)(hb:D1 P f=true)(hc:Ac P f args [] λr st=>r=v/\st=rows)(ha:mT.toList.map (St.ev ⟨n,e,st⟩)++[]=as)(wv:BA st as args)(ru:ZQ v=true)(hp:Na rows)(hv:shift st.length v=v')(lp:st++rows=st')
  (hk:AO P k ops Q (ds++[d]) r (St.put ⟨n,e,st'⟩ d v')):AO P k ops Q ds (⟨d,.call ⟨.value (.func f),mT,ts⟩,ty,ps,ed,gd⟩::r) ⟨n,e,st⟩:=by
 subst hv;subst lp;subst ha;obtain⟨h1,h2,h3⟩:=wv.spec;refine Lz hg ?_;rw[Mh];refine⟨hb,Mx (R:=λr st=>r=v/\st=rows) ?_ ?_ h3 ?_⟩
 ·show Ac P f (List.map (G4 st) _) [] _;rw[h1];exact hc
 ·show (List.map (G4 st) _).all flat=true;rw[h1];exact h2
 ·rintro r st' ⟨rfl,rfl⟩;exact⟨⟨ru,λrow lQ=>(hp.get row lQ).2⟩,λrow lQ=>(hp.get row lQ).1,hk⟩
theorem Xa {as:List AV}{KS:St->Prop}{t:Tmp}(hg:GO ds gd e)(hb:D1 P f=true)(hc:Ac P f args [] λr st=>r=v/\st=[])(ha:mT.toList.map (St.ev ⟨n,e,st⟩)++[]=as)(wv:BA st as args)(ru:ZQ v=true)(hv:shift st.length v=v')
  (hk:Dy P (ds++[some t]) r KS ⟨n,Em e t v',st⟩):Dy P ds (⟨some t,.call ⟨.value (.func f),mT,ts⟩,ty,ps,ed,gd⟩::r) KS ⟨n,e,st⟩:=by
 subst hv;subst ha;obtain⟨h1,h2,h3⟩:=wv.spec;refine aE hg rfl (λs0 e1 e2 hd k F os a w hr next Q hn=>?_) hk;refine KH (k:=k) (K:=(·=s0.put (some t) (shift st.length v))) hr hd ?_ hn;show D1 P f=true/\callThen P k s0 f (mT.toList.map s0.ev++[]) (some t) _;rw[Qt e2];refine⟨hb,?_⟩;subst e1;refine Mx (R:=λr st'=>r=v/\st'=[]) ?_ ?_ h3 ?_
 ·show Ac P f (List.map (G4 s0.st) _) [] _;rw[h1];exact hc
 ·show (List.map (G4 s0.st) _).all flat=true;rw[h1];exact h2
 ·rintro r st' ⟨rfl,rfl⟩;refine⟨⟨ru,by simp⟩,by simp,?_⟩;rw[iK]
end
section
variable {P : Program} {k : Nat} {Q : Exit -> St -> Prop} {s s' : St} {x y c : Code}
theorem GC {o:Operand}{b:Bool}(ho:s.ev o=.bool b)(h1:b=true->AW P k x Q s)(h2:b=false->AW P k y Q s):AW P k (.cond o x y) Q s:=
 AW.cond λK1 K2 e1 e2=>by rw[ho];exact⟨λh=>e1 (h1 h),λh=>e2 (h2 h)⟩
theorem Av {σ:Type}(I:Nat->σ->Prop)(canon:σ->St)(n0:Nat)(v0:σ)(h0:I n0 v0)(hw:Wk k s (canon v0))(hz :∀v,¬ I 0 v)
  (round :∀n v,I (n+1) v->AW P k c (WM (λs'=>∃v',I n v'/\Wk k s' (canon v')) Q) (canon v)):AW P k (.loop c) Q s:=by
 refine AJ hw ?_;have key:∀n v,I n v->∀F os a w,Rel F os (canon v) a w->∀(b:Frame) (kk:List Item) (cs:List Frame),
   ∃e a' w',KF k Q F os w e a' w'/\Arrives P (lone (b.at a (.code c::.inLoop c::kk)) cs w) b kk cs e a' w':=by
  intro n
  induction n with
  | zero=>intro v hI;exact absurd hI (hz v)
  | succ n ih=>
   intro v hI F os a w hr b kk cs;obtain⟨e,a₁,w₁,⟨s1,F1,mF,hq,hR1,hE1⟩,harr⟩:=round n v hI F os a w hr b (.inLoop c::kk) cs;cases e with
   | normal=>
    obtain⟨v2,hI2,hw2⟩:=hq;obtain⟨F2,os2,hR2,hE2⟩:=hw2 F1 mF a₁ w₁ hR1;obtain⟨e₂,a₂,w₂,hq₂,harr₂⟩:=ih v2 hI2 F2 os2 a₁ w₁ hR2 b kk cs;exact⟨e₂,a₂,w₂,hq₂.trans (hE1.trans hE2),.of_steps (Steps.trans harr (.one step_inLoop)) harr₂⟩
   | exit id=>exact⟨_,a₁,w₁,⟨s1,F1,mF,hq,hR1,hE1⟩,.pass (x:=.inLoop c) rfl (λ_ _=>.inl (by simp)) harr⟩
   | goto l=>exact⟨_,a₁,w₁,⟨s1,F1,mF,hq,hR1,hE1⟩,.pass (x:=.inLoop c) rfl (λ_ _=>.inl (by simp)) harr⟩
   | ret=>exact⟨_,a₁,w₁,⟨s1,F1,mF,hq,hR1,hE1⟩,.pass (x:=.inLoop c) rfl (λ_ _=>.inl (by simp)) harr⟩
   | panic ch=>exact⟨_,a₁,w₁,⟨s1,F1,mF,hq,hR1,hE1⟩,.pass (x:=.inLoop c) rfl (λ_ _=>.inl (by simp)) harr⟩
   | outgrown=>exact⟨_,a₁,w₁,⟨s1,F1,mF,hq,hR1,hE1⟩,.pass (x:=.inLoop c) rfl (λ_ _=>.inl (by simp)) harr⟩
 intro F os a w hr b kk cs;obtain⟨e,a',w',hq,harr⟩:=key n0 v0 h0 F os a w hr b kk cs;exact⟨e,a',w',hq,.of_steps (.one step_loop) harr⟩
end
end Go.Abs
