import Derived.Test.YtgiajkaabnbieaaGreatAbsO
set_option linter.all false
namespace Go.Abs
open Go
def AQ (P:Program)(s:St)(op:Op)(v:AV):Prop:=∀K:AV->Prop,K v->Jt P s op K
def EL (st:List Row)(v:AV)(ys:List (List AV)):Prop:=∀K:List (List AV)->Prop,K ys->YR st v K
section
variable {P : Program} {s : St} {x y z c : Operand} {v : AV} {t t' : TypeId} {kk : IntKind} {a b : Int} {p q : Bool}
theorem MV (h:s.ev x=v):AQ P s (.move x) v:=λK hk=>by show K (s.ev x);rw[h];exact hk
theorem T9 (h:s.ev x=v):AQ P s (.assign x) v:=λK hk=>by show K (s.ev x);rw[h];exact hk
theorem fh {x y:AV}{K:AV->Prop}(h:K x):QA (.bool true) x y K:=by
 cases x<;>cases y<;>first|exact h|exact⟨λ_=>h,λh=>by cases h⟩
theorem fE {x y:AV}{K:AV->Prop}(h:K y):QA (.bool false) x y K:=by
 cases x<;>cases y<;>first|exact h|exact⟨λh=>(by cases h),λ_=>h⟩
theorem Cc (hc:s.ev c=.bool p)(hp:p=true)(hx:s.ev x=v):AQ P s (.pick c x y) v:=λK hk=>by
 show QA (s.ev c) (s.ev x) (s.ev y) K;rw[hc,hp,hx];exact fh hk
theorem CO (hc:s.ev c=.bool p)(hp:p=false)(hy:s.ev y=v):AQ P s (.pick c x y) v:=λK hk=>by
 show QA (s.ev c) (s.ev x) (s.ev y) K;rw[hc,hp,hy];exact fE hk
variable (hx : s.ev x = .int kk a) (hy : s.ev y = .int kk b)
include hx hy
theorem KB {op:BinOp}(h :∀K:AV->Prop,K v->aF op kk a b K):AQ P s (.binOp op t x y t') v:=λK hk=>by
 show WV P t op (s.ev x) (s.ev y) K;rw[hx,hy];exact⟨rfl,h K hk⟩
theorem fb:AQ P s (.binOp .add t x y t') (.int kk (Sh.wk kk (a+b))):=KB hx hy λ_ hk=>hk
theorem fa:AQ P s (.binOp .sub t x y t') (.int kk (Sh.wk kk (a-b))):=KB hx hy λ_ hk=>hk
theorem fY:AQ P s (.binOp .mul t x y t') (.int kk (Sh.wk kk (a*b))):=KB hx hy λ_ hk=>hk
theorem bE:AQ P s (.binOp .lss t x y t') (.bool (decide (a<b))):=KB hx hy λ_ hk=>hk
theorem ju:AQ P s (.binOp .leq t x y t') (.bool (decide (a<=b))):=KB hx hy λ_ hk=>hk
theorem jr:AQ P s (.binOp .gtr t x y t') (.bool (decide (b<a))):=KB hx hy λ_ hk=>hk
theorem jl:AQ P s (.binOp .geq t x y t') (.bool (decide (b<=a))):=KB hx hy λ_ hk=>hk
theorem ky:AQ P s (.binOp .eql t x y t') (.bool (decide (a=b))):=KB hx hy λ_ hk=>hk
theorem jk:AQ P s (.binOp .neq t x y t') (.bool (!decide (a=b))):=KB hx hy λ_ hk=>hk
end
section
variable {P : Program} {s : St} {x y z c : Operand} {v : AV} {t t' : TypeId} {kk : IntKind} {a b : Int} {p q : Bool}
variable (hx : s.ev x = i64 a) (hy : s.ev y = i64 b)
include hx hy
theorem YC:AQ P s (.binOp .add t x y t') (i64 (Sh.w (a+b))):=KB hx hy λ_ hk=>hk
theorem iY:AQ P s (.binOp .sub t x y t') (i64 (Sh.w (a-b))):=KB hx hy λ_ hk=>hk
theorem hU:AQ P s (.binOp .mul t x y t') (i64 (Sh.w (a*b))):=KB hx hy λ_ hk=>hk
end
section
variable {P : Program} {s : St} {x y z c : Operand} {v : AV} {t t' : TypeId} {kk tz : IntKind} {a b : Int} {p q ag : Bool} {id g i off uC f size sz bytes m j : Nat} {cs vs : List AV} {xs : List (List AV)} {el : TypeId}
theorem gx (ht:ON P t=true)(hx:s.ev x=.bool p)(hy:s.ev y=.bool q):AQ P s (.binOp .eql t x y t') (.bool (p==q)):=λK hk=>by
 show WV P t .eql (s.ev x) (s.ev y) K;rw[hx,hy];exact⟨ht,hk⟩
theorem iC (ht:ON P t=true)(hx:s.ev x=.bool p)(hy:s.ev y=.bool q):AQ P s (.binOp .neq t x y t') (.bool (p != q)):=λK hk=>by
 show WV P t .neq (s.ev x) (s.ev y) K;rw[hx,hy];exact⟨ht,hk⟩
theorem iw (hx:s.ev x=.bool p):AQ P s (.unOp .not t x) (.bool (!p)):=λK hk=>by
 show ee .not (s.ev x) K;rw[hx];exact hk
theorem iZ (hx:s.ev x=i64 a):AQ P s (.unOp .neg t x) (i64 (Sh.w (-a))):=λK hk=>by
 show ee .neg (s.ev x) K;rw[hx];exact hk
def X7 (P:Program)(src dst:TypeId):Option IntKind:=
 match P.underlying src,P.underlying dst with
 | some _,some (.int k)=>some k
 | _,_=>none
theorem fV (hc:X7 P t t'=some tz)(hx:s.ev x=.int kk a):AQ P s (.convert t t' x) (.int tz (Sh.wk tz a)):=λK hk=>by
 show Wo P t t' (s.ev x) K;rw[hx];unfold X7 at hc;unfold Wo;split at hc
 ·rename_i h1 h2;simp only[mE]at hc;subst hc;simp only[h1,h2];exact hk
 ·cases hc
theorem jo (hx:s.ev x=.DX vs)(hv:vs[i]?=some v):AQ P s (.extract x i) v:=λK hk=>by
 show Qd (s.ev x) i K;rw[hx];exact Ak v hv hk
theorem fm {fn:FuncId}{rp:Array Operand}(hc:rp.toList.map s.ev=cs):AQ P s (.makeFunc (.func fn) #[] rp) (.fn fn cs):=λK hk=>by
 subst hc;exact⟨rfl,hk⟩
theorem iF (ht:DS P t=some (false,sz))(hx:s.ev x=.Bt cs off)(hv:cs[off]?=some v):AQ P s (.load t x) v:=λK hk=>by
 show P4 P s.st t (s.ev x) K;rw[hx];exact Ak _ ht (Ak v hv hk)
theorem ZU (ht:DS P t=some (true,sz))(hx:s.ev x=.Bt cs off)(hl:off+sz<=cs.length)(hv:(cs.drop off).take sz=vs):AQ P s (.load t x) (.agg vs):=λK hk=>by
 show P4 P s.st t (s.ev x) K;rw[hx];subst hv;exact Ak _ ht ⟨hl,hk⟩
theorem DQ (ht:DS P t=some (false,sz))(hx:s.ev x=.ptr id g i off)(hr:s.st[id]?=some ⟨g,el,size,xs⟩)(hi:xs[i]?=some cs)(hv:cs[off]?=some v):AQ P s (.load t x) v:=λK hk=>by
 show P4 P s.st t (s.ev x) K;rw[hx];exact Ak _ ht (Ak _ hr ⟨rfl,Ak cs hi (Ak v hv hk)⟩)
theorem Ch (ht:DS P t=some (true,sz))(hx:s.ev x=.ptr id g i off)(hr:s.st[id]?=some ⟨g,el,size,xs⟩)(hi:xs[i]?=some cs)(hl:off+sz<=cs.length)(hv:(cs.drop off).take sz=vs):AQ P s (.load t x) (.agg vs):=λK hk=>by
 show P4 P s.st t (s.ev x) K;rw[hx];subst hv;exact Ak _ ht (Ak _ hr ⟨rfl,Ak cs hi ⟨hl,hk⟩⟩)
theorem jH (hf:Hm P t f=some j)(hx:s.ev x=.Bt cs off)(ho:off+j=uC):AQ P s (.fieldAddr t x f) (.Bt cs uC):=λK hk=>by
 show L5 P t (s.ev x) f s.st K;rw[hx];subst ho;exact Ak _ hf hk
theorem Jr (hf:Hm P t f=some j)(hx:s.ev x=.ptr id g i off)(hr:s.st[id]?=some ⟨g,el,size,xs⟩)(hl:off+j<=size)(ho:off+j=uC):AQ P s (.fieldAddr t x f) (.ptr id g i uC):=λK hk=>by
 show L5 P t (s.ev x) f s.st K;rw[hx];subst ho;exact Ak _ hf (Ak _ hr ⟨rfl,hl,hk⟩)
def TN (P:Program)(t:TypeId)(f:Nat):Option (Nat×Bool×Nat):=
 match P.underlying t with
 | some (.struct fs)=>match fs[f]? with
  | some g=>match DS P g.type with
   | some ti=>some (g.offset,ti)
   | none=>none
  | none=>none
 | _=>none
theorem Vm {f o:Nat}{ti:Bool×Nat}{K:AV->Prop}(h:TN P t f=some (o,ti))(hk:Ld ti.1 ti.2 cs o K):Nj P t (.agg cs) f K:=by
 unfold TN at h;unfold Nj;split at h
 ·rename_i fs hu;split at h
  ·rename_i gg hg;split at h
   ·rename_i ti' ht;simp only[mE,pn]at h;obtain⟨rfl,rfl⟩:=h;rw[hu];exact Ak _ hg (Ak _ ht hk)
   ·cases h
  ·cases h
 ·cases h
theorem kZ (hf:TN P t f=some (off,false,sz))(hx:s.ev x=.agg cs)(hv:cs[off]?=some v):AQ P s (.field t x f) v:=λK hk=>by
 show Nj P t (s.ev x) f K;rw[hx];exact Vm hf (Ak v hv hk)
theorem hZ (hf:TN P t f=some (off,true,sz))(hx:s.ev x=.agg cs)(hl:off+sz<=cs.length)(hv:(cs.drop off).take sz=vs):AQ P s (.field t x f) (.agg vs):=λK hk=>by
 show Nj P t (s.ev x) f K;rw[hx];subst hv;exact Vm hf ⟨hl,hk⟩
variable {α : Type} {l l' : List α} {enc : α -> List AV} {n : Int} {zz : List AV} {u : α}
theorem Ed (h:Sh.get l n=some u):(l.map enc)[n.toNat]?=some (enc u):=by
 rw[mG,(Sh.get_some h).2.1];rfl
theorem Bc (he:Cj P t=some ⟨el,size,bytes,zz⟩)(hx:s.ev x=.sl (l.map enc))(hy:s.ev y=.int kk n)(hg:Sh.get l n=some u)(hs:(enc u).length=size):AQ P s (.indexAddr t x y) (.Bt (enc u) 0):=λK hk=>by
 show KP P s.st t (s.ev x) (s.ev y) K;rw[hx,hy];exact Ak _ he ⟨(Sh.get_some hg).1,Ak _ (Ed hg) ⟨hs,hk⟩⟩
theorem Cb (he:Cj P t=some ⟨el,size,bytes,zz⟩)(hx:s.ev x=.own id g m)(hy:s.ev y=.int kk n)(hr:s.st[id]?=some ⟨g,el,size,l.map enc⟩)(hm:m=l.length)(hg:Sh.get l n=some u):
  AQ P s (.indexAddr t x y) (.ptr id g n.toNat 0):=λK hk=>by
 show KP P s.st t (s.ev x) (s.ev y) K;rw[hx,hy];subst hm;exact Ak _ he ⟨(Sh.get_some hg).1,(Sh.get_some hg).2.2,Ak _ hr ⟨rfl,rfl,by simpa using hk⟩⟩
theorem Br (hs:CY P t=true)(hx:s.ev x=.sl (l.map enc)):AQ P s (.call ⟨.builtin .len,#[x],#[t]⟩) (i64 (Sh.len l)):=λK hk=>by
 refine⟨hs,?_⟩;rw[hx];simp only[cR,mO];exact hk
theorem D0 (hs:CY P t=true)(hx:s.ev x=.own id g m)(hr:s.st[id]?=some ⟨g,el,size,l.map enc⟩)(hm:m=l.length):AQ P s (.call ⟨.builtin .len,#[x],#[t]⟩) (i64 (Sh.len l)):=λK hk=>by
 refine⟨hs,?_⟩;subst hm;rw[hx];exact Ak _ hr ⟨rfl,hk⟩
theorem Sr (hs:CY P t=true)(hx:s.ev x=.zc):AQ P s (.call ⟨.builtin .len,#[x],#[t]⟩) (i64 0):=λK hk=>by
 refine⟨hs,?_⟩;rw[hx];exact hk
theorem iM (hx:s.ev x=.ptr id g i off)(hr:s.st[id]?=some ⟨g,el,size,xs⟩):AQ P s (.nilCheck x) (.ptr id g i off):=λK hk=>by
 show Xt s.st (s.ev x) K;rw[hx];exact Ak _ hr ⟨rfl,hk⟩
theorem iq (hx:s.ev x=.Bt cs off):AQ P s (.nilCheck x) (.Bt cs off):=λK hk=>by
 show Xt s.st (s.ev x) K;rw[hx];exact hk
theorem Fo {parts:Array (Nat×Operand)}{fs:List (Nat×Nat)}{pv:List (Nat×AV)}(ha:Hu P t=true)(hf:Jo P t=some fs)(hz:H0 P t=some zz)(hp:(parts.toList.map λp=>(p.1,s.ev p.2))=pv)(hc:OF (fs[·]?) zz pv=some cs):
  AQ P s (.build t parts) (.agg cs):=λK hk=>by
 show Yt P t (parts.toList.map λp=>(p.1,s.ev p.2)) K;rw[hp];exact⟨ha,Ak _ hf (Ak _ hz (Ak _ hc hk))⟩
variable {st : List Row} {ys : List (List AV)}
theorem Nq:EL st (.sl ys) ys:=λ_ hk=>hk
theorem H6 (hr:st[id]?=some ⟨g,el,size,l.map enc⟩)(hm:m=l.length)(td :∀x,(enc x).all AV.leaf=true:=by exact λ_=>rfl):EL st (.own id g m) (l.map enc):=λK hk=>by
 subst hm;refine Ak _ hr ⟨rfl,λy hy c hc=>?_,?_⟩
 ·obtain⟨x,_,rfl⟩:=mU.1 hy;exact mL.1 (td x) c hc
 rw[<- mO (f:=enc) (as:=l),nI];exact⟨rfl,hk⟩
end
section
variable {P : Program} {k : Nat} {ops : Array Oper} {Q : Exit -> St -> Prop} {ds : List (Option Tmp)} {r : List Oper} {n : Nat} {e : Nat -> AV} {st st' : List Row} {op : Op} {ty : TypeId} {ps : String} {ed : Array Edge} {d : Option Tmp} {t : Tmp} {v v' : AV}
variable {jj : Nat} {want b : Bool} {tg : Tmp} {gd : Option (Nat × Bool)}
def GO (ds:List (Option Tmp))(gd:Option (Nat×Bool))(e:Nat->AV):Prop:=
 match gd with
 | none=>True
 | some (jj,want)=>∃tg,ds[jj]?=some (some tg)/\e tg=.bool want
theorem AR:GO ds none e:=mD
theorem BH (hj:ds[jj]?=some (some tg))(ht:e tg=.bool b)(hb:b=want):GO ds (some (jj,want)) e:=⟨tg,hj,by rw[ht,hb]⟩
theorem GO.guard {A B:Prop}(hg:GO ds gd e)(h:A):J9 ds ⟨d,op,ty,ps,ed,gd⟩ ⟨n,e,st⟩ A B:=by
 unfold GO at hg;unfold J9;cases gd with
 | none=>exact h
 | some q=>
  obtain⟨jj,want⟩:=q;obtain⟨tg,hj,ht⟩:=hg;simp only[hj,ht,Zq];exact⟨λ_=>h,λhh=>absurd rfl hh⟩
theorem Ap (hg:GO ds gd e)(hl:Ks op=false)(hq:AQ P ⟨n,e,st⟩ op v)(hk:AO P k ops Q (ds++[some t]) r ⟨n,FY e t v,st⟩):AO P k ops Q ds (⟨some t,op,ty,ps,ed,gd⟩::r) ⟨n,e,st⟩:=by
 refine O5 (hg.guard ?_);unfold LU;simp only[hl,mF,mW];exact hq _ hk
theorem Mf (hg:GO ds gd e)(h:LU P k ⟨d,op,ty,ps,ed,gd⟩ ⟨n,e,st⟩ (AO P k ops Q (ds++[d]) r)):AO P k ops Q ds (⟨d,op,ty,ps,ed,gd⟩::r) ⟨n,e,st⟩:=
 O5 (hg.guard h)
theorem fz (hj:ds[jj]?=some (some tg))(ht:e tg=.bool b)(hb:b=!want)(h:AO P k ops Q (ds++[some t]) r ⟨n,FY e t .un,st⟩):AO P k ops Q ds (⟨some t,op,ty,ps,ed,some (jj,want)⟩::r) ⟨n,e,st⟩:=by
 refine O5 ?_;subst hb;simp only[J9,hj,ht,Zq];exact⟨λh=>(by cases want<;>cases h),λ_=>h⟩
theorem fk (hj:ds[jj]?=some (some tg))(ht:e tg=.un)(h:AO P k ops Q (ds++[some t]) r ⟨n,FY e t .un,st⟩):AO P k ops Q ds (⟨some t,op,ty,ps,ed,some (jj,want)⟩::r) ⟨n,e,st⟩:=by
 refine O5 ?_;simp only[J9,hj,ht,Zq];exact h
variable {KS : St -> Prop}
theorem IP (hg:GO ds gd e)(hl:Ks op=false)(hq:AQ P ⟨n,e,st⟩ op v)(hk:Di P (ds++[some t]) r KS ⟨n,FY e t v,st⟩):Di P ds (⟨some t,op,ty,ps,ed,gd⟩::r) KS ⟨n,e,st⟩:=by
 refine hg.guard ?_;unfold MY;simp only[hl,mF,mW];exact hq _ hk
theorem eZ (hg:GO ds gd e)(hl:Ks op=true)(hq :∀s0:St,s0.st=st->(∀x∈op.operands,s0.ev x=St.ev ⟨n,e,st⟩ x)->DY s0.n (some t)=true->Yl P ⟨some t,op,ty,ps,ed,gd⟩ s0 v)(hk:Di P (ds++[some t]) r KS ⟨n,FY e t v,st⟩):Di P ds (⟨some t,op,ty,ps,ed,gd⟩::r) KS ⟨n,e,st⟩:=by
 refine hg.guard ?_;unfold MY;simp only[hl,mm];exact⟨v,hq,hk⟩
theorem iK (hj:ds[jj]?=some (some tg))(ht:e tg=.bool b)(hb:b=!want)(h:Di P (ds++[some t]) r KS ⟨n,FY e t .un,st⟩):Di P ds (⟨some t,op,ty,ps,ed,some (jj,want)⟩::r) KS ⟨n,e,st⟩:=by
 subst hb;simp only[Di,J9,hj,ht,Zq];exact⟨λh=>(by cases want<;>cases h),λ_=>h⟩
theorem jG (hj:ds[jj]?=some (some tg))(ht:e tg=.un)(h:Di P (ds++[some t]) r KS ⟨n,FY e t .un,st⟩):Di P ds (⟨some t,op,ty,ps,ed,some (jj,want)⟩::r) KS ⟨n,e,st⟩:=by
 simp only[Di,J9,hj,ht,Zq];exact h
theorem BO {s:St}(h:KS s):Di P ds [] KS s:=h
theorem aQ {sm:Array Operand}{f:FuncId}{ts:Array TypeId}{s0 s1:St}(h :∀x∈(Op.call ⟨.value (.func f),sm,ts⟩).operands,s0.ev x=s1.ev x):sm.toList.map s0.ev=sm.toList.map s1.ev:=
 mj λx hx=>h x (by simp[Op.operands,Call.operands];right;simpa using hx)
theorem CI {f:FuncId}{sm:Array Operand}{ts:Array TypeId}{args:List AV}(hg:GO ds gd e)(hb:Er P f=true)(hc:AS P f args [] λr st=>r=v/\st=[])(ha:sm.toList.map (St.ev ⟨n,e,st⟩)++[]=args)(hf:args.all flat=true)(hv:flat v=true)
  (hk:Di P (ds++[some t]) r KS ⟨n,FY e t v,st⟩):Di P ds (⟨some t,.call ⟨.value (.func f),sm,ts⟩,ty,ps,ed,gd⟩::r) KS ⟨n,e,st⟩:=by
 refine eZ hg rfl (λs0 e1 e2 hd k F os a w hr next Q hn=>?_) hk;refine Qi (k:=k) (K:=(·=s0.put (some t) v)) hr hd ?_ hn;show Er P f=true/\callThen P k s0 f (sm.toList.map s0.ev++[]) (some t) _;rw[aQ e2,ha];exact⟨hb,U2 hc hf hv rfl⟩
variable {α : Type} {l l' l2 : List α} {enc : α -> List AV} {kk tz : IntKind} {j : Int} {el T : TypeId} {size bytes sz id g i m off : Nat} {zz cs us : List AV} {x y : Operand} {xs : List (List AV)} {ag : Bool} {u u' : α}
theorem Al (hg:GO ds gd e)(hz:H0 P T=some zz)(hm:st.length=m)(rH:st++[⟨0,T,zz.length,[zz]⟩]=st')(hk:AO P k ops Q (ds++[some t]) r ⟨n,FY e t (.ptr m 0 0 0),st'⟩):AO P k ops Q ds (⟨some t,.alloc T,ty,ps,ed,gd⟩::r) ⟨n,e,st⟩:=by
 subst hm;subst rH;exact Mf hg (Ak _ hz hk)
theorem Aw (hg:GO ds gd e)(hx:St.ev ⟨n,e,st⟩ x=v)(hc:Lr v=some cs)(rV:cs.isEmpty=false)(hm:st.length=m)(rH:st++[⟨0,T,cs.length,[cs]⟩]=st')(hk:AO P k ops Q (ds++[some t]) r ⟨n,FY e t (.ptr m 0 0 0),st'⟩):AO P k ops Q ds (⟨some t,.box T x,ty,ps,ed,gd⟩::r) ⟨n,e,st⟩:=by
 subst hm;subst rH;subst hx;exact Mf hg (Ak _ hc ⟨(by intro h;rw[h]at rV;cases rV),hk⟩)
theorem Aq (hg:GO ds gd e)(ht:DS P T=some (ag,sz))(hx:St.ev ⟨n,e,st⟩ x=.ptr id g i off)(hr:st[id]?=some ⟨g,el,size,xs⟩)(hi:xs[i]?=some zz)(hv:St.ev ⟨n,e,st⟩ y=v)(hc:Lr v=some cs)(hn:cs.length=sz)(hle:off+cs.length<=size)
  (rH:st.set id ⟨g,el,size,xs.set i (HW zz off cs)⟩=st') (hk:AO P k ops Q (ds++[none]) r ⟨n,e,st'⟩):AO P k ops Q ds (⟨none,.store T x y,ty,ps,ed,gd⟩::r) ⟨n,e,st⟩:=by
 subst rH;subst hv;refine Mf hg ?_;rw[eA,hx];exact Ak _ ht (Ak _ hr ⟨rfl,Ak _ hi (Ak _ hc ⟨hn,hle,hk⟩)⟩)
theorem Zw {j:Int}:(l.map enc).set j.toNat (enc u)=(Sh.put l j u).map enc:=by simp[Sh.put,nt]
theorem L0 (hg:GO ds gd e)(ht:DS P T=some (ag,sz))(hx:St.ev ⟨n,e,st⟩ x=.ptr id g j.toNat off)(hr:st[id]?=some ⟨g,el,size,l.map enc⟩)(hi:Sh.get l j=some u)(hv:St.ev ⟨n,e,st⟩ y=v)(hc:Lr v=some cs)(hn:cs.length=sz)(hle:off+cs.length<=size)
  (zV:HW (enc u) off cs=enc u') (rH:st.set id ⟨g,el,size,(Sh.put l j u').map enc⟩=st') (hk:AO P k ops Q (ds++[none]) r ⟨n,e,st'⟩):AO P k ops Q ds (⟨none,.store T x y,ty,ps,ed,gd⟩::r) ⟨n,e,st⟩:=
 Aq hg ht hx hr (Ed hi) hv hc hn hle (by rw[zV,Zw];exact rH) hk
theorem ZS (hg:GO ds gd e)(he:Cj P T=some ⟨el,size,bytes,zz⟩)(hx:St.ev ⟨n,e,st⟩ x=.int kk j)(hy:St.ev ⟨n,e,st⟩ y=.int tz j)(hz:enc u=zz)(hl:Sh.mk u j bytes=some l)(hm:st.length=m)(rH:st++[⟨0,el,size,l.map enc⟩]=st')
  (hk:AO P k ops Q (ds++[some t]) r ⟨n,FY e t (.own m 0 l.length),st'⟩):AO P k ops Q ds (⟨some t,.makeSlice T x y,ty,ps,ed,gd⟩::r) ⟨n,e,st⟩:=by
 subst hm;subst rH;subst hz;refine Mf hg ?_;rw[Wu];unfold Sh.mk at hl;split at hl
 ·rename_i h;simp only[mE]at hl;subst hl;rw[hx,hy];simp only[pH,List.length_replicate]at hk;exact Ak _ he ⟨rfl,h.1,h.2.1,h.2.2,hk⟩
 ·cases hl
theorem CE {len:Nat}{parts:Array (Nat×Operand)}{pv:List (Nat×AV)}(hg:GO ds gd e)(he:Cj P T=some ⟨el,size,bytes,zz⟩)(hle:len*size<=16777216)(hp:(parts.toList.map λp=>(p.1,St.ev ⟨n,e,st⟩ p.2))=pv)
  (hc:OF (λi=>some (i*size,size)) ((List.replicate len zz).flatten) pv=some cs) (hck:chunk size len cs=l.map enc) (zW:len=l.length) (hm:st.length=m) (rH:st++[⟨0,el,size,l.map enc⟩]=st') (hk:AO P k ops Q (ds++[some t]) r ⟨n,FY e t (.own m 0 l.length),st'⟩) :
  AO P k ops Q ds (⟨some t,.buildSlice T len parts,ty,ps,ed,gd⟩::r) ⟨n,e,st⟩:=by
 subst hm;subst rH;subst zW;refine Mf hg ?_;rw[VZ,hp];exact Ak _ he ⟨hle,Ak _ hc (by rw[hck];exact hk)⟩
theorem Cd {ys:AV}(hg:GO ds gd e)(he:Cj P T=some ⟨el,size,bytes,zz⟩)(hx:St.ev ⟨n,e,st⟩ x=.own id g m)(hr:st[id]?=some ⟨g,el,size,l.map enc⟩)(hm:m=l.length)(hy:St.ev ⟨n,e,st⟩ y=ys)(yS:EL st ys (l2.map enc))(hs :∀a,(enc a).length=size)(ha:Sh.app l l2 bytes=some l')
  (rH:st.set id ⟨g+1,el,size,l'.map enc⟩=st') (hk:AO P k ops Q (ds++[some t]) r ⟨n,FY e t (.own id (g+1) l'.length),st'⟩):AO P k ops Q ds (⟨some t,.call ⟨.builtin .append,#[x,y],#[T,T]⟩,ty,ps,ed,gd⟩::r) ⟨n,e,st⟩:=by
 subst rH;subst hy;subst hm;refine Mf hg ?_;rw[V9];refine⟨rfl,?_⟩;rw[hx];unfold Sh.app at ha;split at ha
 ·rename_i h;simp only[mE]at ha;subst ha;refine Ak _ he (yS _ ⟨λz hz=>?_,Ak _ hr ⟨rfl,(mO _).symm,rfl,rfl,by simpa using h.1,by simpa using h.2,?_⟩⟩)
  ·obtain⟨q,_,rfl⟩:=mU.1 hz;exact hs q
  ·have e1:(l.map enc).take l.length=l.map enc:=by rw[<- mO (f:=enc) (as:=l),nI]
   have e2:l.length+(l2.map enc).length=(l++l2).length:=by simp
   simp only[e1,e2,<- mu];exact hk
 ·cases ha
theorem cn {hop:Operand}(hg:GO ds gd e)(he:Cj P T=some ⟨el,size,bytes,zz⟩)(hx:St.ev ⟨n,e,st⟩ x=.own id g m)(hr:st[id]?=some ⟨g,el,size,l.map enc⟩)(hm:m=l.length)(hh:St.ev ⟨n,e,st⟩ hop=.int kk j)(hl:Sh.hi l j=some l')
  (rH:st.set id ⟨g+1,el,size,l'.map enc⟩=st') (hk:AO P k ops Q (ds++[some t]) r ⟨n,FY e t (.own id (g+1) l'.length),st'⟩):AO P k ops Q ds (⟨some t,.slice T x none (some hop) none,ty,ps,ed,gd⟩::r) ⟨n,e,st⟩:=by
 subst rH;subst hm;refine Mf hg ?_;rw[TU];simp only[nC,qB];rw[hx,hh];unfold Sh.hi at hl;split at hl
 ·rename_i h;simp only[mE]at hl;subst hl;refine Ak _ he (Ak _ hr ⟨rfl,(mO _).symm,rfl,Ak _ rfl ⟨h.1,h.2,?_⟩⟩);have e1:(l.take j.toNat).length=j.toNat:=by rw[nT];omega
  rw[e1,List.map_take]at hk;exact hk
 ·cases hl
theorem X6 {lo hi:Option Operand}{i j:Int}(hg:GO ds gd e)(he:Cj P T=some ⟨el,size,bytes,zz⟩)(hx:St.ev ⟨n,e,st⟩ x=.sl (l.map enc))(h1:TR (lo.map (St.ev ⟨n,e,st⟩)) 0=some i)(h2:TR (hi.map (St.ev ⟨n,e,st⟩)) l.length=some j)(hs :∀a,(enc a).length=size)(hl:Sh.sl l i j=some l')
  (hk:AO P k ops Q (ds++[some t]) r ⟨n,FY e t (.sl (l'.map enc)),st⟩):AO P k ops Q ds (⟨some t,.slice T x lo hi none,ty,ps,ed,gd⟩::r) ⟨n,e,st⟩:=by
 refine Mf hg ?_;rw[TU];simp only[qB];rw[hx];unfold Sh.sl at hl;split at hl
 ·rename_i h;simp only[mE]at hl;subst hl;refine Ak _ he (Ak _ h1 (Ak _ (by rw[mO];exact h2) ⟨h.1,h.2.1,by simpa using h.2.2,λz hz=>?_,?_⟩))
  ·obtain⟨q,_,rfl⟩:=mU.1 hz;exact hs q
  ·rw[List.map_drop,List.map_take]at hk;exact hk
 ·cases hl
theorem TH (hg:GO ds gd e)(hs:CY P T=true)(hx:St.ev ⟨n,e,st⟩ x=.sl (l.map enc))(h1:l=[]->AO P k ops Q (ds++[some t]) r ⟨n,FY e t (.bool true),st⟩)(h2:AO P k ops Q (ds++[some t]) r ⟨n,FY e t (.bool false),st⟩){yT:TypeId}:
  AO P k ops Q ds (⟨some t,.binOp .eql T x (.const (.slice none 0 0)) yT,ty,ps,ed,gd⟩::r) ⟨n,e,st⟩:=by
 refine Mf hg ?_;rw[Zi];refine⟨hs,?_⟩;rw[hx];exact⟨λh=>h1 (List.map_eq_nil_iff.1 h),h2⟩
def V6:List Row->Prop
 | []=>True
 | row::r=>DF row.xs/\V6 r
theorem V6.get:∀{l:List Row},V6 l->∀row∈l,DF row.xs
 | row::r,h,row',hm=>by
  rcases mc.1 hm with rfl|hm
  ·exact h.1
  ·exact V6.get h.2 row' hm
variable {f : FuncId} {sm : Array Operand} {ts : Array TypeId} {args : List AV} {rows : List Row} {s : St}
theorem BE (hg:GO ds gd e)(hb:Er P f=true)(hc:AS P f args [] λr st=>r=v/\st=rows)(ha:sm.toList.map (St.ev ⟨n,e,st⟩)++[]=args)(hf:args.all flat=true)(hp:V6 rows)(hv:shift st.length v=v')(rH:st++rows=st')
  (hk:AO P k ops Q (ds++[d]) r (St.put ⟨n,e,st'⟩ d v')):AO P k ops Q ds (⟨d,.call ⟨.value (.func f),sm,ts⟩,ty,ps,ed,gd⟩::r) ⟨n,e,st⟩:=by
 subst hv;subst rH;subst ha;refine Mf hg ?_;rw[L4];refine⟨hb,WJ hc hf ?_⟩;rintro r st' ⟨rfl,rfl⟩;exact⟨hp.get,hk⟩
theorem cK {g:Nat}{sd:α->List AV}(hr:st[id]?=some ⟨g,el,size,l.map enc⟩)(hu :∀x,Hh (enc x)=sd x):TC st (.own id g l.length)=.sl (l.map sd):=by
 simp only[TC,hr,mm];rw[<- mO (f:=enc) (as:=l),oP,nO,II,ny];congr 1;exact mj λx _=>hu x
theorem Sg {cs:List AV}(h:cs.all simple=true):Hh cs=cs:=by
 rw[OR];exact (mj (g:=id) λc hc=>UM (mL.1 h c hc)).trans (nq _)
inductive BC (st:List Row):List AV->List AV->Prop
 | nil:BC st [] []
 | own {α:Type} {l:List α} {enc:α->List AV} {id g size m:Nat} {el:TypeId} {as bs:List AV} (hr:st[id]?=some ⟨g,el,size,l.map enc⟩) (hm:m=l.length) (hp :∀x,(enc x).all simple=true) (h:BC st as bs):BC st (.own id g m::as) (.sl (l.map enc)::bs)
 | ownD {α:Type} {l:List α} {enc sd:α->List AV} {id g size m:Nat} {el:TypeId} {as bs:List AV} (hr:st[id]?=some ⟨g,el,size,l.map enc⟩) (hm:m=l.length) (hp :∀x,(enc x).all Em=true) (hu :∀x,Hh (enc x)=sd x) (h:BC st as bs):BC st (.own id g m::as) (.sl (l.map sd)::bs)
 | val {v:AV} {as bs:List AV} (hv:simple v=true) (h:BC st as bs):BC st (v::as) (v::bs)
inductive BA (st:List Row):List AV->List AV->Prop
 | nil:BA st [] []
 | own {α:Type} {l:List α} {enc:α->List AV} {id g size m:Nat} {el:TypeId} {as bs:List AV} (hr:st[id]?=some ⟨g,el,size,l.map enc⟩) (hm:m=l.length) (hp :∀x,(enc x).all simple=true) (h:BA st as bs):BA st (.own id g m::as) (.sl (l.map enc)::bs)
 | ownD {α:Type} {l:List α} {enc sd:α->List AV} {id g size m:Nat} {el:TypeId} {as bs:List AV} (hr:st[id]?=some ⟨g,el,size,l.map enc⟩) (hm:m=l.length) (hp :∀x,(enc x).all Em=true) (hu :∀x,Hh (enc x)=sd x) (h:BA st as bs):BA st (.own id g m::as) (.sl (l.map sd)::bs)
 | agg {cs ds:List AV} {as bs:List AV} (hc:BC st cs ds) (h:BA st as bs):BA st (.agg cs::as) (.agg ds::bs)
 | val {v:AV} {as bs:List AV} (hv:flat v=true) (h:BA st as bs):BA st (v::as) (v::bs)
theorem TB {v:AV}(h:simple v=true):TC st v=v:=by cases v<;>simp_all [simple,TC]
theorem BC.spec {as bs:List AV}(h:BC st as bs):as.map (TC st)=bs/\bs.all simple=true/\∀id g n,AV.own id g n∈as->∀row,st[id]?=some row->DF row.xs:=by
 induction h with
 | nil=>exact⟨rfl,rfl,by simp⟩
 | own hr hm hp h ih=>
  obtain⟨h1,h2,h3⟩:=ih;subst hm;refine⟨by rw[mg,cK hr (λx=>Sg (hp x)),h1],by simp[simple,h2],λsH g' n' hx row qo=>?_⟩;rcases mc.1 hx with hx|hx
  ·cases hx;rw[hr]at qo;cases qo;exact (AK hp).any
  ·exact h3 sH g' n' hx row qo
 | ownD hr hm hp hu h ih=>
  obtain⟨h1,h2,h3⟩:=ih;subst hm;refine⟨by rw[mg,cK hr hu,h1],by simp[simple,h2],λsH g' n' hx row qo=>?_⟩;rcases mc.1 hx with hx|hx
  ·cases hx;rw[hr]at qo;cases qo;exact AP hp
  ·exact h3 sH g' n' hx row qo
 | @val v as bs hv h ih=>
  obtain⟨h1,h2,h3⟩:=ih;refine⟨by rw[mg,TB hv,h1],by simp[hv,h2],λsH g' n' hx row qo=>?_⟩;rcases mc.1 hx with hx|hx
  ·subst hx;simp[simple]at hv
  ·exact h3 sH g' n' hx row qo
theorem BA.spec {as bs:List AV}(h:BA st as bs):as.map (Hd st)=bs/\bs.all flat=true/\∀id g n,Qo as id g n->∀row,st[id]?=some row->DF row.xs:=by
 induction h with
 | nil=>exact⟨rfl,rfl,by rintro id g n (h|⟨_,h,_⟩)<;>simp at h⟩
 | own hr hm hp h ih=>
  obtain⟨h1,h2,h3⟩:=ih;subst hm;refine⟨by rw[mg,h1];congr 1;exact cK hr (λx=>Sg (hp x)),by simp[flat,h2],λsH g' n' hx row qo=>?_⟩;rcases hx with hx|⟨cs,hx,su⟩
  ·rcases mc.1 hx with hx|hx
   ·cases hx;rw[hr]at qo;cases qo;exact (AK hp).any
   ·exact h3 sH g' n' (.inl hx) row qo
  ·rcases mc.1 hx with hx|hx
   ·cases hx
   ·exact h3 sH g' n' (.inr ⟨cs,hx,su⟩) row qo
 | ownD hr hm hp hu h ih=>
  obtain⟨h1,h2,h3⟩:=ih;subst hm;refine⟨by rw[mg,h1];congr 1;exact cK hr hu,by simp[flat,h2],λsH g' n' hx row qo=>?_⟩;rcases hx with hx|⟨cs,hx,su⟩
  ·rcases mc.1 hx with hx|hx
   ·cases hx;rw[hr]at qo;cases qo;exact AP hp
   ·exact h3 sH g' n' (.inl hx) row qo
  ·rcases mc.1 hx with hx|hx
   ·cases hx
   ·exact h3 sH g' n' (.inr ⟨cs,hx,su⟩) row qo
 | agg hc h ih=>
  obtain⟨h1,h2,h3⟩:=ih;obtain⟨g1,g2,g3⟩:=hc.spec;refine⟨by rw[mg,h1];simp only[Hd,g1],by simp only[oh,h2,Bool.and_true];simpa [flat] using g2,λsH g' n' hx row qo=>?_⟩;rcases hx with hx|⟨cs,hx,su⟩
  ·rcases mc.1 hx with hx|hx
   ·cases hx
   ·exact h3 sH g' n' (.inl hx) row qo
  ·rcases mc.1 hx with hx|hx
   ·cases hx;exact g3 sH g' n' su row qo
   ·exact h3 sH g' n' (.inr ⟨cs,hx,su⟩) row qo
 | @val v as bs hv h ih=>
  obtain⟨h1,h2,h3⟩:=ih;have e1:Hd st v=v:=by
   cases v<;>simp[flat]at hv<;>try rfl
   rename_i cs;simp only[Hd];congr 1;exact (mj (g:=id) λc hc=>TB (hv c hc)).trans (nq _)
  refine⟨by rw[mg,e1,h1],by simp[hv,h2],λsH g' n' hx row qo=>?_⟩;rcases hx with hx|⟨cs,hx,su⟩
  ·rcases mc.1 hx with hx|hx
   ·subst hx;simp[flat]at hv
   ·exact h3 sH g' n' (.inl hx) row qo
  ·rcases mc.1 hx with hx|hx
   ·subst hx;have:=mL.1 (show cs.all simple=true from hv) _ su;simp[simple]at this
   ·exact h3 sH g' n' (.inr ⟨cs,hx,su⟩) row qo
def PB:List Row->Prop
 | []=>True
 | row::r=>(DF row.xs/\∀x∈row.xs,∀c∈x,NM c=true)/\PB r
theorem PB.get:∀{l:List Row},PB l->∀row∈l,DF row.xs/\∀x∈row.xs,∀c∈x,NM c=true
 | row::r,h,row',hm=>by
  rcases mc.1 hm with rfl|hm
  ·exact h.1
  ·exact PB.get h.2 row' hm
theorem Th {g:Nat}(h :∀x,(enc x).all (λc=>Em c&&NM c)=true)(hr:PB rows):PB (⟨g,el,size,l.map enc⟩::rows):=by
 refine⟨⟨λx hx c hc=>?_,λx hx c hc=>?_⟩,hr⟩ <;>
 ·obtain⟨y,_,rfl⟩:=mU.1 hx;have:=mL.1 (h y) c hc;simp only[mQ]at this;first|exact this.1|exact this.2
theorem Zb {g:Nat}(h :∀x,(enc x).all (λc=>simple c&&NM c)=true)(hr:PB rows):PB (⟨g,el,size,l.map enc⟩::rows):=
 Th (λx=>mL.2 λc hc=>by
  have:=mL.1 (h x) c hc;simp only[mQ]at this⊢;exact⟨PU this.1,this.2⟩) hr
theorem Fz {as:List AV}(hg:GO ds gd e)(hb:Er P f=true)(hc:AS P f args [] λr st=>r=v/\st=rows)(ha:sm.toList.map (St.ev ⟨n,e,st⟩)++[]=as)(hba:BA st as args)(hsc:cg v=true)(hp:PB rows)(hv:shift st.length v=v')(rH:st++rows=st')
  (hk:AO P k ops Q (ds++[d]) r (St.put ⟨n,e,st'⟩ d v')):AO P k ops Q ds (⟨d,.call ⟨.value (.func f),sm,ts⟩,ty,ps,ed,gd⟩::r) ⟨n,e,st⟩:=by
 subst hv;subst rH;subst ha;obtain⟨h1,h2,h3⟩:=hba.spec;refine Mf hg ?_;rw[L4];refine⟨hb,OM (R:=λr st=>r=v/\st=rows) ?_ ?_ h3 ?_⟩
 ·show AS P f (List.map (Hd st) _) [] _;rw[h1];exact hc
 ·show (List.map (Hd st) _).all flat=true;rw[h1];exact h2
 ·rintro r st' ⟨rfl,rfl⟩;exact⟨⟨hsc,λrow qo=>(hp.get row qo).2⟩,λrow qo=>(hp.get row qo).1,hk⟩
theorem WA {as:List AV}{KS:St->Prop}{t:Tmp}(hg:GO ds gd e)(hb:Er P f=true)(hc:AS P f args [] λr st=>r=v/\st=[])(ha:sm.toList.map (St.ev ⟨n,e,st⟩)++[]=as)(hba:BA st as args)(hsc:cg v=true)(hv:shift st.length v=v')
  (hk:Di P (ds++[some t]) r KS ⟨n,FY e t v',st⟩):Di P ds (⟨some t,.call ⟨.value (.func f),sm,ts⟩,ty,ps,ed,gd⟩::r) KS ⟨n,e,st⟩:=by
 subst hv;subst ha;obtain⟨h1,h2,h3⟩:=hba.spec;refine eZ hg rfl (λs0 e1 e2 hd k F os a w hr next Q hn=>?_) hk;refine Qi (k:=k) (K:=(·=s0.put (some t) (shift st.length v))) hr hd ?_ hn;show Er P f=true/\callThen P k s0 f (sm.toList.map s0.ev++[]) (some t) _;rw[aQ e2];refine⟨hb,?_⟩;subst e1;refine OM (R:=λr st'=>r=v/\st'=[]) ?_ ?_ h3 ?_
 ·show AS P f (List.map (Hd s0.st) _) [] _;rw[h1];exact hc
 ·show (List.map (Hd s0.st) _).all flat=true;rw[h1];exact h2
 ·rintro r st' ⟨rfl,rfl⟩;refine⟨⟨hsc,by simp⟩,by simp,?_⟩;rw[nK]
end
section
variable {P : Program} {k : Nat} {Q : Exit -> St -> Prop} {s s' : St} {x y c : Code}
theorem Fi {o:Operand}{b:Bool}(ho:s.ev o=.bool b)(h1:b=true->AW P k x Q s)(h2:b=false->AW P k y Q s):AW P k (.cond o x y) Q s:=
 AW.cond λK1 K2 e1 e2=>by rw[ho];exact⟨λh=>e1 (h1 h),λh=>e2 (h2 h)⟩
theorem Af {σ:Type}(I:Nat->σ->Prop)(canon:σ->St)(n0:Nat)(v0:σ)(h0:I n0 v0)(hw:Wk k s (canon v0))(hz :∀v,¬ I 0 v)
  (round :∀n v,I (n+1) v->AW P k c (YK (λs'=>∃v',I n v'/\Wk k s' (canon v')) Q) (canon v)):AW P k (.loop c) Q s:=by
 refine AJ hw ?_;have key:∀n v,I n v->∀F os a w,Rel F os (canon v) a w->∀(b:Frame) (kk:List Item) (cs:List Frame),
   ∃e a' w',PT k Q F os w e a' w'/\Arrives P (lone (b.at a (.code c::.inLoop c::kk)) cs w) b kk cs e a' w':=by
  intro n
  induction n with
  | zero=>intro v hI;exact absurd hI (hz v)
  | succ n ih=>
   intro v hI F os a w hr b kk cs;obtain⟨e,a₁,w₁,⟨s1,F1,rj,hq,hR1,yY⟩,harr⟩:=round n v hI F os a w hr b (.inLoop c::kk) cs;cases e with
   | normal=>
    obtain⟨v2,hI2,hw2⟩:=hq;obtain⟨F2,os2,hR2,xe⟩:=hw2 F1 rj a₁ w₁ hR1;obtain⟨e₂,a₂,w₂,hq₂,harr₂⟩:=ih v2 hI2 F2 os2 a₁ w₁ hR2 b kk cs;exact⟨e₂,a₂,w₂,hq₂.trans (yY.trans xe),.of_steps (Steps.trans harr (.one step_inLoop)) harr₂⟩
   | exit id=>exact⟨_,a₁,w₁,⟨s1,F1,rj,hq,hR1,yY⟩,.pass (x:=.inLoop c) rfl (λ_ _=>.inl (by simp)) harr⟩
   | goto l=>exact⟨_,a₁,w₁,⟨s1,F1,rj,hq,hR1,yY⟩,.pass (x:=.inLoop c) rfl (λ_ _=>.inl (by simp)) harr⟩
   | ret=>exact⟨_,a₁,w₁,⟨s1,F1,rj,hq,hR1,yY⟩,.pass (x:=.inLoop c) rfl (λ_ _=>.inl (by simp)) harr⟩
   | panic ch=>exact⟨_,a₁,w₁,⟨s1,F1,rj,hq,hR1,yY⟩,.pass (x:=.inLoop c) rfl (λ_ _=>.inl (by simp)) harr⟩
   | outgrown=>exact⟨_,a₁,w₁,⟨s1,F1,rj,hq,hR1,yY⟩,.pass (x:=.inLoop c) rfl (λ_ _=>.inl (by simp)) harr⟩
 intro F os a w hr b kk cs;obtain⟨e,a',w',hq,harr⟩:=key n0 v0 h0 F os a w hr b kk cs;exact⟨e,a',w',hq,.of_steps (.one step_loop) harr⟩
end
end Go.Abs
