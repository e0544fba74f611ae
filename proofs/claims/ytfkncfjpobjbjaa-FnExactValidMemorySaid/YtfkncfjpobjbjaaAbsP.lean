import Derived.Test.YtfkncfjpobjbjaaAbsO
set_option linter.all false
namespace Go.Abs
open Go
def AQ (P:Program)(s:St)(op:Op)(v:AV):Prop:=∀K:AV->Prop,K v->DM P s op K
def EL (st:List Row)(v:AV)(ys:List (List AV)):Prop:=∀K:List (List AV)->Prop,K ys->Lg st v K
section
variable {P : Program} {s : St} {x y z c : Operand} {v : AV} {t t' : TypeId} {kk : IntKind} {a b : Int} {p q : Bool}
theorem Qc (h:s.ev x=v):AQ P s (.move x) v:=λK hk=>by show K (s.ev x);rw[h];exact hk
theorem QV (h:s.ev x=v):AQ P s (.assign x) v:=λK hk=>by show K (s.ev x);rw[h];exact hk
theorem Ok {x y:AV}{K:AV->Prop}(h:K x):GK (.bool true) x y K:=by
 cases x<;>cases y<;>first|exact h|exact⟨λ_=>h,λh=>by cases h⟩
theorem Oq {x y:AV}{K:AV->Prop}(h:K y):GK (.bool false) x y K:=by
 cases x<;>cases y<;>first|exact h|exact⟨λh=>(by cases h),λ_=>h⟩
theorem E6 (hc:s.ev c=.bool p)(hp:p=true)(hx:s.ev x=v):AQ P s (.pick c x y) v:=λK hk=>by
 show GK (s.ev c) (s.ev x) (s.ev y) K;rw[hc,hp,hx];exact Ok hk
theorem E2 (hc:s.ev c=.bool p)(hp:p=false)(hy:s.ev y=v):AQ P s (.pick c x y) v:=λK hk=>by
 show GK (s.ev c) (s.ev x) (s.ev y) K;rw[hc,hp,hy];exact Oq hk
variable (hx : s.ev x = .int kk a) (hy : s.ev y = .int kk b)
include hx hy
theorem C6 {op:BinOp}(h :∀K:AV->Prop,K v->L8 op kk a b K):AQ P s (.binOp op t x y t') v:=λK hk=>by
 show Jw P t op (s.ev x) (s.ev y) K;rw[hx,hy];exact⟨rfl,h K hk⟩
theorem On:AQ P s (.binOp .add t x y t') (.int kk (Sh.wk kk (a+b))):=C6 hx hy λ_ hk=>hk
theorem Ow:AQ P s (.binOp .sub t x y t') (.int kk (Sh.wk kk (a-b))):=C6 hx hy λ_ hk=>hk
theorem PD:AQ P s (.binOp .mul t x y t') (.int kk (Sh.wk kk (a*b))):=C6 hx hy λ_ hk=>hk
theorem LL (h:b≠0):AQ P s (.binOp .rem t x y t') (.int kk (a.tmod b)):=C6 hx hy λ_ hk=>⟨h,hk⟩
theorem QX:AQ P s (.binOp .lss t x y t') (.bool (decide (a<b))):=C6 hx hy λ_ hk=>hk
theorem QW:AQ P s (.binOp .leq t x y t') (.bool (decide (a<=b))):=C6 hx hy λ_ hk=>hk
theorem Qb:AQ P s (.binOp .gtr t x y t') (.bool (decide (b<a))):=C6 hx hy λ_ hk=>hk
theorem Qj:AQ P s (.binOp .geq t x y t') (.bool (decide (b<=a))):=C6 hx hy λ_ hk=>hk
theorem Qi:AQ P s (.binOp .eql t x y t') (.bool (decide (a=b))):=C6 hx hy λ_ hk=>hk
theorem QO:AQ P s (.binOp .neq t x y t') (.bool (!decide (a=b))):=C6 hx hy λ_ hk=>hk
end
section
variable {P : Program} {s : St} {x y z c : Operand} {v : AV} {t t' : TypeId} {kk : IntKind} {a b : Int} {p q : Bool}
variable (hx : s.ev x = i64 a) (hy : s.ev y = i64 b)
include hx hy
theorem Pc:AQ P s (.binOp .add t x y t') (i64 (Sh.w (a+b))):=C6 hx hy λ_ hk=>hk
theorem Pt:AQ P s (.binOp .sub t x y t') (i64 (Sh.w (a-b))):=C6 hx hy λ_ hk=>hk
theorem P1:AQ P s (.binOp .mul t x y t') (i64 (Sh.w (a*b))):=C6 hx hy λ_ hk=>hk
theorem It (h:b≠0):AQ P s (.binOp .quo t x y t') (i64 (Sh.w (a.tdiv b))):=C6 hx hy λ_ hk=>⟨h,hk⟩
end
section
variable {P : Program} {s : St} {x y z c : Operand} {v : AV} {t t' : TypeId} {kk Yn : IntKind} {a b : Int} {p q ag : Bool} {id g i off Yo f size sz bytes m j : Nat} {cs vs : List AV} {xs : List (List AV)} {el : TypeId}
theorem Pe (ht:FQ P t=true)(hx:s.ev x=.bool p)(hy:s.ev y=.bool q):AQ P s (.binOp .eql t x y t') (.bool (p==q)):=λK hk=>by
 show Jw P t .eql (s.ev x) (s.ev y) K;rw[hx,hy];exact⟨ht,hk⟩
theorem Pn (ht:FQ P t=true)(hx:s.ev x=.bool p)(hy:s.ev y=.bool q):AQ P s (.binOp .neq t x y t') (.bool (p != q)):=λK hk=>by
 show Jw P t .neq (s.ev x) (s.ev y) K;rw[hx,hy];exact⟨ht,hk⟩
theorem P2 (hx:s.ev x=.bool p):AQ P s (.unOp .not t x) (.bool (!p)):=λK hk=>by
 show OU .not (s.ev x) K;rw[hx];exact hk
theorem PZ (hx:s.ev x=i64 a):AQ P s (.unOp .neg t x) (i64 (Sh.w (-a))):=λK hk=>by
 show OU .neg (s.ev x) K;rw[hx];exact hk
def Rf (P:Program)(src dst:TypeId):Option IntKind:=
 match P.underlying src,P.underlying dst with
 | some _,some (.int k)=>some k
 | _,_=>none
theorem Qf (hx:s.ev x=.BK vs)(hv:vs[i]?=some v):AQ P s (.extract x i) v:=λK hk=>by
 show Gs (s.ev x) i K;rw[hx];exact AL v hv hk
theorem Ps (ht:CE P t=some (false,sz))(hx:s.ev x=.A6 cs off)(hv:cs[off]?=some v):AQ P s (.load t x) v:=λK hk=>by
 show Ga P s.st t (s.ev x) K;rw[hx];exact AL _ ht (AL v hv hk)
theorem OY (ht:CE P t=some (true,sz))(hx:s.ev x=.A6 cs off)(hl:off+sz<=cs.length)(hv:(cs.drop off).take sz=vs):AQ P s (.load t x) (.agg vs):=λK hk=>by
 show Ga P s.st t (s.ev x) K;rw[hx];subst hv;exact AL _ ht ⟨hl,hk⟩
theorem DN (ht:CE P t=some (false,sz))(hx:s.ev x=.ptr id g i off)(hr:s.st[id]?=some ⟨g,el,size,xs⟩)(hi:xs[i]?=some cs)(hv:cs[off]?=some v):AQ P s (.load t x) v:=λK hk=>by
 show Ga P s.st t (s.ev x) K;rw[hx];exact AL _ ht (AL _ hr ⟨rfl,AL cs hi (AL v hv hk)⟩)
theorem EM (ht:CE P t=some (true,sz))(hx:s.ev x=.ptr id g i off)(hr:s.st[id]?=some ⟨g,el,size,xs⟩)(hi:xs[i]?=some cs)(hl:off+sz<=cs.length)(hv:(cs.drop off).take sz=vs):AQ P s (.load t x) (.agg vs):=λK hk=>by
 show Ga P s.st t (s.ev x) K;rw[hx];subst hv;exact AL _ ht (AL _ hr ⟨rfl,AL cs hi ⟨hl,hk⟩⟩)
theorem P8 (hf:Hy P t f=some j)(hx:s.ev x=.A6 cs off)(ho:off+j=Yo):AQ P s (.fieldAddr t x f) (.A6 cs Yo):=λK hk=>by
 show EE P t (s.ev x) f s.st K;rw[hx];subst ho;exact AL _ hf hk
theorem P9 (hf:Hy P t f=some j)(hx:s.ev x=.ptr id g i off)(hr:s.st[id]?=some ⟨g,el,size,xs⟩)(hl:off+j<=size)(ho:off+j=Yo):AQ P s (.fieldAddr t x f) (.ptr id g i Yo):=λK hk=>by
 show EE P t (s.ev x) f s.st K;rw[hx];subst ho;exact AL _ hf (AL _ hr ⟨rfl,hl,hk⟩)
def H5 (P:Program)(t:TypeId)(f:Nat):Option (Nat×Bool×Nat):=
 match P.underlying t with
 | some (.struct fs)=>match fs[f]? with
  | some g=>match CE P g.type with
   | some ti=>some (g.offset,ti)
   | none=>none
  | none=>none
 | _=>none
theorem Jv {f o:Nat}{ti:Bool×Nat}{K:AV->Prop}(h:H5 P t f=some (o,ti))(hk:D4 ti.1 ti.2 cs o K):E8 P t (.agg cs) f K:=by
 unfold H5 at h;unfold E8;split at h
 ·rename_i fs hu;split at h
  ·rename_i gg hg;split at h
   ·rename_i jU ht;simp only[Rn,Prod.mk.injEq]at h;obtain⟨rfl,rfl⟩:=h;rw[hu];exact AL _ hg (AL _ ht hk)
   ·cases h
  ·cases h
 ·cases h
theorem Qa (hf:H5 P t f=some (off,false,sz))(hx:s.ev x=.agg cs)(hv:cs[off]?=some v):AQ P s (.field t x f) v:=λK hk=>by
 show E8 P t (s.ev x) f K;rw[hx];exact Jv hf (AL v hv hk)
theorem Pd (hf:H5 P t f=some (off,true,sz))(hx:s.ev x=.agg cs)(hl:off+sz<=cs.length)(hv:(cs.drop off).take sz=vs):AQ P s (.field t x f) (.agg vs):=λK hk=>by
 show E8 P t (s.ev x) f K;rw[hx];subst hv;exact Jv hf ⟨hl,hk⟩
variable {α : Type} {l l' : List α} {enc : α -> List AV} {n : Int} {zz : List AV} {u : α}
theorem CN (h:Sh.get l n=some u):(l.map enc)[n.toNat]?=some (enc u):=by
 rw[Ro,(Sh.get_some h).2.1];rfl
theorem B0 (he:CJ P t=some ⟨el,size,bytes,zz⟩)(hx:s.ev x=.sl (l.map enc))(hy:s.ev y=.int kk n)(hg:Sh.get l n=some u)(hs:(enc u).length=size):AQ P s (.indexAddr t x y) (.A6 (enc u) 0):=λK hk=>by
 show Dj P s.st t (s.ev x) (s.ev y) K;rw[hx,hy];exact AL _ he ⟨(Sh.get_some hg).1,AL _ (CN hg) ⟨hs,hk⟩⟩
theorem CT (he:CJ P t=some ⟨el,size,bytes,zz⟩)(hx:s.ev x=.own id g m)(hy:s.ev y=.int kk n)(hr:s.st[id]?=some ⟨g,el,size,l.map enc⟩)(hm:m=l.length)(hg:Sh.get l n=some u):
  AQ P s (.indexAddr t x y) (.ptr id g n.toNat 0):=λK hk=>by
 show Dj P s.st t (s.ev x) (s.ev y) K;rw[hx,hy];subst hm;exact AL _ he ⟨(Sh.get_some hg).1,(Sh.get_some hg).2.2,AL _ hr ⟨rfl,rfl,by simpa using hk⟩⟩
theorem DV (hs:CM P t=true)(hx:s.ev x=.sl (l.map enc)):AQ P s (.call ⟨.builtin .len,#[x],#[t]⟩) (i64 (Sh.len l)):=λK hk=>by
 refine⟨hs,?_⟩;rw[hx];simp only[Nw,SB];exact hk
theorem Ef (hs:CM P t=true)(hx:s.ev x=.own id g m)(hr:s.st[id]?=some ⟨g,el,size,l.map enc⟩)(hm:m=l.length):AQ P s (.call ⟨.builtin .len,#[x],#[t]⟩) (i64 (Sh.len l)):=λK hk=>by
 refine⟨hs,?_⟩;subst hm;rw[hx];exact AL _ hr ⟨rfl,hk⟩
theorem Pb (hx:s.ev x=.ptr id g i off)(hr:s.st[id]?=some ⟨g,el,size,xs⟩):AQ P s (.nilCheck x) (.ptr id g i off):=λK hk=>by
 show Kv s.st (s.ev x) K;rw[hx];exact AL _ hr ⟨rfl,hk⟩
theorem PW (hx:s.ev x=.A6 cs off):AQ P s (.nilCheck x) (.A6 cs off):=λK hk=>by
 show Kv s.st (s.ev x) K;rw[hx];exact hk
theorem LW {parts:Array (Nat×Operand)}{fs:List (Nat×Nat)}{pv:List (Nat×AV)}(ha:GP P t=true)(hf:Hg P t=some fs)(hz:FC P t=some zz)(hp:(parts.toList.map λp=>(p.1,s.ev p.2))=pv)(hc:Fv (fs[·]?) zz pv=some cs):
  AQ P s (.build t parts) (.agg cs):=λK hk=>by
 show LG P t (parts.toList.map λp=>(p.1,s.ev p.2)) K;rw[hp];exact⟨ha,AL _ hf (AL _ hz (AL _ hc hk))⟩
variable {st : List Row} {ys : List (List AV)}
theorem QI:EL st (.sl ys) ys:=λ_ hk=>hk
theorem Ic (hr:st[id]?=some ⟨g,el,size,l.map enc⟩)(hm:m=l.length)(Xq :∀x,(enc x).all AV.leaf=true:=by exact λ_=>rfl):EL st (.own id g m) (l.map enc):=λK hk=>by
 subst hm;refine AL _ hr ⟨rfl,λy hy c hc=>?_,?_⟩
 ·obtain⟨x,_,rfl⟩:=R7.1 hy;exact Ru.1 (Xq x) c hc
 rw[<- SB (f:=enc) (as:=l),TB];exact⟨rfl,hk⟩
end
section
variable {P : Program} {k : Nat} {ops : Array Oper} {Q : Exit -> St -> Prop} {ds : List (Option Tmp)} {r : List Oper} {n : Nat} {e : Nat -> AV} {st st' : List Row} {op : Op} {ty : TypeId} {ps : String} {ed : Array Edge} {d : Option Tmp} {t : Tmp} {v v' : AV}
variable {jj : Nat} {want b : Bool} {tg : Tmp} {gd : Option (Nat × Bool)}
def GO (ds:List (Option Tmp))(gd:Option (Nat×Bool))(e:Nat->AV):Prop:=
 match gd with
 | none=>True
 | some (jj,want)=>∃tg,ds[jj]?=some (some tg)/\e tg=.bool want
theorem Ah:GO ds none e:=Rq
theorem B8 (hj:ds[jj]?=some (some tg))(ht:e tg=.bool b)(hb:b=want):GO ds (some (jj,want)) e:=⟨tg,hj,by rw[ht,hb]⟩
theorem GO.guard {A B:Prop}(hg:GO ds gd e)(h:A):Da ds ⟨d,op,ty,ps,ed,gd⟩ ⟨n,e,st⟩ A B:=by
 unfold GO at hg;unfold Da;cases gd with
 | none=>exact h
 | some q=>
  obtain⟨jj,want⟩:=q;obtain⟨tg,hj,ht⟩:=hg;simp only[hj,ht,Lv];exact⟨λ_=>h,λhh=>absurd rfl hh⟩
theorem BZ (hg:GO ds gd e)(hl:Dt op=false)(hq:AQ P ⟨n,e,st⟩ op v)(hk:AO P k ops Q (ds++[some t]) r ⟨n,CD e t v,st⟩):AO P k ops Q ds (⟨some t,op,ty,ps,ed,gd⟩::r) ⟨n,e,st⟩:=by
 refine AO.step (hg.guard ?_);unfold D8;simp only[hl,R1,SX];exact hq _ hk
theorem Ek (hg:GO ds gd e)(h:D8 P k ⟨d,op,ty,ps,ed,gd⟩ ⟨n,e,st⟩ (AO P k ops Q (ds++[d]) r)):AO P k ops Q ds (⟨d,op,ty,ps,ed,gd⟩::r) ⟨n,e,st⟩:=
 AO.step (hg.guard h)
theorem PS (hj:ds[jj]?=some (some tg))(ht:e tg=.bool b)(hb:b=!want)(h:AO P k ops Q (ds++[some t]) r ⟨n,CD e t .un,st⟩):AO P k ops Q ds (⟨some t,op,ty,ps,ed,some (jj,want)⟩::r) ⟨n,e,st⟩:=by
 refine AO.step ?_;subst hb;simp only[Da,hj,ht,Lv];exact⟨λh=>(by cases want<;>cases h),λ_=>h⟩
theorem Ov (hj:ds[jj]?=some (some tg))(ht:e tg=.un)(h:AO P k ops Q (ds++[some t]) r ⟨n,CD e t .un,st⟩):AO P k ops Q ds (⟨some t,op,ty,ps,ed,some (jj,want)⟩::r) ⟨n,e,st⟩:=by
 refine AO.step ?_;simp only[Da,hj,ht,Lv];exact h
variable {KS : St -> Prop}
theorem G8 (hg:GO ds gd e)(hl:Dt op=false)(hq:AQ P ⟨n,e,st⟩ op v)(hk:Bh P (ds++[some t]) r KS ⟨n,CD e t v,st⟩):Bh P ds (⟨some t,op,ty,ps,ed,gd⟩::r) KS ⟨n,e,st⟩:=by
 refine hg.guard ?_;unfold ER;simp only[hl,R1,SX];exact hq _ hk
theorem RI (hg:GO ds gd e)(hl:Dt op=true)(hq :∀s0:St,s0.st=st->(∀x∈op.operands,s0.ev x=St.ev ⟨n,e,st⟩ x)->Bn s0.n (some t)=true->Yl P ⟨some t,op,ty,ps,ed,gd⟩ s0 v)(hk:Bh P (ds++[some t]) r KS ⟨n,CD e t v,st⟩):Bh P ds (⟨some t,op,ty,ps,ed,gd⟩::r) KS ⟨n,e,st⟩:=by
 refine hg.guard ?_;unfold ER;simp only[hl,Sm];exact⟨v,hq,hk⟩
theorem Px (hj:ds[jj]?=some (some tg))(ht:e tg=.bool b)(hb:b=!want)(h:Bh P (ds++[some t]) r KS ⟨n,CD e t .un,st⟩):Bh P ds (⟨some t,op,ty,ps,ed,some (jj,want)⟩::r) KS ⟨n,e,st⟩:=by
 subst hb;simp only[Bh,Da,hj,ht,Lv];exact⟨λh=>(by cases want<;>cases h),λ_=>h⟩
theorem PY (hj:ds[jj]?=some (some tg))(ht:e tg=.un)(h:Bh P (ds++[some t]) r KS ⟨n,CD e t .un,st⟩):Bh P ds (⟨some t,op,ty,ps,ed,some (jj,want)⟩::r) KS ⟨n,e,st⟩:=by
 simp only[Bh,Da,hj,ht,Lv];exact h
theorem C5 {s:St}(h:KS s):Bh P ds [] KS s:=h
theorem PF {VA:Array Operand}{f:FuncId}{ts:Array TypeId}{s0 s1:St}(h :∀x∈(Op.call ⟨.value (.func f),VA,ts⟩).operands,s0.ev x=s1.ev x):VA.toList.map s0.ev=VA.toList.map s1.ev:=
 R4 λx hx=>h x (by simp[Op.operands,Call.operands];right;simpa using hx)
theorem Gu {f:FuncId}{VA:Array Operand}{ts:Array TypeId}{args:List AV}(hg:GO ds gd e)(hb:AZ P f=true)(hc:AY P f args [] λr st=>r=v/\st=[])(ha:VA.toList.map (St.ev ⟨n,e,st⟩)++[]=args)(hf:args.all flat=true)(hv:flat v=true)
  (hk:Bh P (ds++[some t]) r KS ⟨n,CD e t v,st⟩):Bh P ds (⟨some t,.call ⟨.value (.func f),VA,ts⟩,ty,ps,ed,gd⟩::r) KS ⟨n,e,st⟩:=by
 refine RI hg rfl (λs0 e1 e2 hd k F os a w hr next Q hn=>?_) hk;refine KP (k:=k) (K:=(·=s0.put (some t) v)) hr hd ?_ hn;show AZ P f=true/\callThen P k s0 f (VA.toList.map s0.ev++[]) (some t) _;rw[PF e2,ha];exact⟨hb,Is hc hf hv rfl⟩
variable {α : Type} {l l' l2 : List α} {enc : α -> List AV} {kk Yn : IntKind} {j : Int} {el T : TypeId} {size bytes sz id g i m off : Nat} {zz cs us : List AV} {x y : Operand} {xs : List (List AV)} {ag : Bool} {u u' : α}
theorem Cf (hg:GO ds gd e)(hz:FC P T=some zz)(hm:st.length=m)(T8:st++[⟨0,T,zz.length,[zz]⟩]=st')(hk:AO P k ops Q (ds++[some t]) r ⟨n,CD e t (.ptr m 0 0 0),st'⟩):AO P k ops Q ds (⟨some t,.alloc T,ty,ps,ed,gd⟩::r) ⟨n,e,st⟩:=by
 subst hm;subst T8;exact Ek hg (AL _ hz hk)
theorem Co (hg:GO ds gd e)(hx:St.ev ⟨n,e,st⟩ x=v)(hc:EZ v=some cs)(UW:cs.isEmpty=false)(hm:st.length=m)(T8:st++[⟨0,T,cs.length,[cs]⟩]=st')(hk:AO P k ops Q (ds++[some t]) r ⟨n,CD e t (.ptr m 0 0 0),st'⟩):AO P k ops Q ds (⟨some t,.box T x,ty,ps,ed,gd⟩::r) ⟨n,e,st⟩:=by
 subst hm;subst T8;subst hx;exact Ek hg (AL _ hc ⟨(by intro h;rw[h]at UW;cases UW),hk⟩)
theorem Bs (hg:GO ds gd e)(ht:CE P T=some (ag,sz))(hx:St.ev ⟨n,e,st⟩ x=.ptr id g i off)(hr:st[id]?=some ⟨g,el,size,xs⟩)(hi:xs[i]?=some zz)(hv:St.ev ⟨n,e,st⟩ y=v)(hc:EZ v=some cs)(hn:cs.length=sz)(hle:off+cs.length<=size)
  (T8:st.set id ⟨g,el,size,xs.set i (Cn zz off cs)⟩=st') (hk:AO P k ops Q (ds++[none]) r ⟨n,e,st'⟩):AO P k ops Q ds (⟨none,.store T x y,ty,ps,ed,gd⟩::r) ⟨n,e,st⟩:=by
 subst T8;subst hv;refine Ek hg ?_;rw[OJ,hx];exact AL _ ht (AL _ hr ⟨rfl,AL _ hi (AL _ hc ⟨hn,hle,hk⟩)⟩)
theorem Mg {j:Int}:(l.map enc).set j.toNat (enc u)=(Sh.put l j u).map enc:=by simp[Sh.put,Sb]
theorem Gp (hg:GO ds gd e)(ht:CE P T=some (ag,sz))(hx:St.ev ⟨n,e,st⟩ x=.ptr id g j.toNat off)(hr:st[id]?=some ⟨g,el,size,l.map enc⟩)(hi:Sh.get l j=some u)(hv:St.ev ⟨n,e,st⟩ y=v)(hc:EZ v=some cs)(hn:cs.length=sz)(hle:off+cs.length<=size)
  (gl:Cn (enc u) off cs=enc u') (T8:st.set id ⟨g,el,size,(Sh.put l j u').map enc⟩=st') (hk:AO P k ops Q (ds++[none]) r ⟨n,e,st'⟩):AO P k ops Q ds (⟨none,.store T x y,ty,ps,ed,gd⟩::r) ⟨n,e,st⟩:=
 Bs hg ht hx hr (CN hi) hv hc hn hle (by rw[gl,Mg];exact T8) hk
theorem Hr (hg:GO ds gd e)(he:CJ P T=some ⟨el,size,bytes,zz⟩)(hx:St.ev ⟨n,e,st⟩ x=.int kk j)(hy:St.ev ⟨n,e,st⟩ y=.int Yn j)(hz:enc u=zz)(hl:Sh.mk u j bytes=some l)(hm:st.length=m)(T8:st++[⟨0,el,size,l.map enc⟩]=st')
  (hk:AO P k ops Q (ds++[some t]) r ⟨n,CD e t (.own m 0 l.length),st'⟩):AO P k ops Q ds (⟨some t,.makeSlice T x y,ty,ps,ed,gd⟩::r) ⟨n,e,st⟩:=by
 subst hm;subst T8;subst hz;refine Ek hg ?_;rw[J6];unfold Sh.mk at hl;split at hl
 ·rename_i h;simp only[Rn]at hl;subst hl;rw[hx,hy];simp only[List.map_replicate,List.length_replicate]at hk;exact AL _ he ⟨rfl,h.1,h.2.1,h.2.2,hk⟩
 ·cases hl
theorem DS {len:Nat}{parts:Array (Nat×Operand)}{pv:List (Nat×AV)}(hg:GO ds gd e)(he:CJ P T=some ⟨el,size,bytes,zz⟩)(hle:len*size<=16777216)(hp:(parts.toList.map λp=>(p.1,St.ev ⟨n,e,st⟩ p.2))=pv)
  (hc:Fv (λi=>some (i*size,size)) ((List.replicate len zz).flatten) pv=some cs) (X7:chunk size len cs=l.map enc) (av:len=l.length) (hm:st.length=m) (T8:st++[⟨0,el,size,l.map enc⟩]=st') (hk:AO P k ops Q (ds++[some t]) r ⟨n,CD e t (.own m 0 l.length),st'⟩) :
  AO P k ops Q ds (⟨some t,.buildSlice T len parts,ty,ps,ed,gd⟩::r) ⟨n,e,st⟩:=by
 subst hm;subst T8;subst av;refine Ek hg ?_;rw[Jt,hp];exact AL _ he ⟨hle,AL _ hc (by rw[X7];exact hk)⟩
theorem EA {ys:AV}(hg:GO ds gd e)(he:CJ P T=some ⟨el,size,bytes,zz⟩)(hx:St.ev ⟨n,e,st⟩ x=.own id g m)(hr:st[id]?=some ⟨g,el,size,l.map enc⟩)(hm:m=l.length)(hy:St.ev ⟨n,e,st⟩ y=ys)(aF:EL st ys (l2.map enc))(hs :∀a,(enc a).length=size)(ha:Sh.app l l2 bytes=some l')
  (T8:st.set id ⟨g+1,el,size,l'.map enc⟩=st') (hk:AO P k ops Q (ds++[some t]) r ⟨n,CD e t (.own id (g+1) l'.length),st'⟩):AO P k ops Q ds (⟨some t,.call ⟨.builtin .append,#[x,y],#[T,T]⟩,ty,ps,ed,gd⟩::r) ⟨n,e,st⟩:=by
 subst T8;subst hy;subst hm;refine Ek hg ?_;rw[Jo];refine⟨rfl,?_⟩;rw[hx];unfold Sh.app at ha;split at ha
 ·rename_i h;simp only[Rn]at ha;subst ha;refine AL _ he (aF _ ⟨λz hz=>?_,AL _ hr ⟨rfl,(SB _).symm,rfl,rfl,by simpa using h.1,by simpa using h.2,?_⟩⟩)
  ·obtain⟨q,_,rfl⟩:=R7.1 hz;exact hs q
  ·have e1:(l.map enc).take l.length=l.map enc:=by rw[<- SB (f:=enc) (as:=l),TB]
   have e2:l.length+(l2.map enc).length=(l++l2).length:=by simp
   simp only[e1,e2,<- Se];exact hk
 ·cases ha
theorem Ph {fP:Operand}(hg:GO ds gd e)(he:CJ P T=some ⟨el,size,bytes,zz⟩)(hx:St.ev ⟨n,e,st⟩ x=.own id g m)(hr:st[id]?=some ⟨g,el,size,l.map enc⟩)(hm:m=l.length)(hh:St.ev ⟨n,e,st⟩ fP=.int kk j)(hl:Sh.hi l j=some l')
  (T8:st.set id ⟨g+1,el,size,l'.map enc⟩=st') (hk:AO P k ops Q (ds++[some t]) r ⟨n,CD e t (.own id (g+1) l'.length),st'⟩):AO P k ops Q ds (⟨some t,.slice T x none (some fP) none,ty,ps,ed,gd⟩::r) ⟨n,e,st⟩:=by
 subst T8;subst hm;refine Ek hg ?_;rw[Kt];simp only[SC,Option.map_none];rw[hx,hh];unfold Sh.hi at hl;split at hl
 ·rename_i h;simp only[Rn]at hl;subst hl;refine AL _ he (AL _ hr ⟨rfl,(SB _).symm,rfl,AL _ rfl ⟨h.1,h.2,?_⟩⟩);have e1:(l.take j.toNat).length=j.toNat:=by rw[TJ];omega
  rw[e1,List.map_take]at hk;exact hk
 ·cases hl
theorem Iv {lo hi:Option Operand}{i j:Int}(hg:GO ds gd e)(he:CJ P T=some ⟨el,size,bytes,zz⟩)(hx:St.ev ⟨n,e,st⟩ x=.sl (l.map enc))(h1:J3 (lo.map (St.ev ⟨n,e,st⟩)) 0=some i)(h2:J3 (hi.map (St.ev ⟨n,e,st⟩)) l.length=some j)(hs :∀a,(enc a).length=size)(hl:Sh.sl l i j=some l')
  (hk:AO P k ops Q (ds++[some t]) r ⟨n,CD e t (.sl (l'.map enc)),st⟩):AO P k ops Q ds (⟨some t,.slice T x lo hi none,ty,ps,ed,gd⟩::r) ⟨n,e,st⟩:=by
 refine Ek hg ?_;rw[Kt];simp only[Option.map_none];rw[hx];unfold Sh.sl at hl;split at hl
 ·rename_i h;simp only[Rn]at hl;subst hl;refine AL _ he (AL _ h1 (AL _ (by rw[SB];exact h2) ⟨h.1,h.2.1,by simpa using h.2.2,λz hz=>?_,?_⟩))
  ·obtain⟨q,_,rfl⟩:=R7.1 hz;exact hs q
  ·rw[List.map_drop,List.map_take]at hk;exact hk
 ·cases hl
theorem Pp (hg:GO ds gd e)(hs:CM P T=true)(hx:St.ev ⟨n,e,st⟩ x=.sl (l.map enc))(h1:l=[]->AO P k ops Q (ds++[some t]) r ⟨n,CD e t (.bool true),st⟩)(h2:AO P k ops Q (ds++[some t]) r ⟨n,CD e t (.bool false),st⟩){yT:TypeId}:
  AO P k ops Q ds (⟨some t,.binOp .eql T x (.const (.slice none 0 0)) yT,ty,ps,ed,gd⟩::r) ⟨n,e,st⟩:=by
 refine Ek hg ?_;rw[MC];refine⟨hs,?_⟩;rw[hx];exact⟨λh=>h1 (List.map_eq_nil_iff.1 h),h2⟩
def IU:List Row->Prop
 | []=>True
 | row::r=>Au row.xs/\IU r
theorem IU.get:∀{l:List Row},IU l->∀row∈l,Au row.xs
 | row::r,h,row',hm=>by
  rcases SA.1 hm with rfl|hm
  ·exact h.1
  ·exact IU.get h.2 row' hm
variable {f : FuncId} {VA : Array Operand} {ts : Array TypeId} {args : List AV} {rows : List Row} {s : St}
theorem DG (hg:GO ds gd e)(hb:AZ P f=true)(hc:AY P f args [] λr st=>r=v/\st=rows)(ha:VA.toList.map (St.ev ⟨n,e,st⟩)++[]=args)(hf:args.all flat=true)(hp:IU rows)(hv:shift st.length v=v')(T8:st++rows=st')
  (hk:AO P k ops Q (ds++[d]) r (St.put ⟨n,e,st'⟩ d v')):AO P k ops Q ds (⟨d,.call ⟨.value (.func f),VA,ts⟩,ty,ps,ed,gd⟩::r) ⟨n,e,st⟩:=by
 subst hv;subst T8;subst ha;refine Ek hg ?_;rw[EB];refine⟨hb,Gc hc hf ?_⟩;rintro r st' ⟨rfl,rfl⟩;exact⟨hp.get,hk⟩
theorem N8 {tf:Tmp}{Uh:List AV}(hg:GO ds gd e)(cc:e tf=.fn f Uh)(hb:AZ P f=true)(hc:AY P f args [] λr st=>r=v/\st=rows)(ha:VA.toList.map (St.ev ⟨n,e,st⟩)++Uh=args)(hf:args.all flat=true)(hp:IU rows)(hv:shift st.length v=v')(T8:st++rows=st')
  (hk:AO P k ops Q (ds++[d]) r (St.put ⟨n,e,st'⟩ d v')):AO P k ops Q ds (⟨d,.call ⟨.value (.tmp tf),VA,ts⟩,ty,ps,ed,gd⟩::r) ⟨n,e,st⟩:=by
 subst hv;subst T8;subst ha;refine Ek hg ?_;rw[Lm,show (St.mk n e st).env tf=e tf from rfl,cc];refine⟨hb,Gc hc hf ?_⟩;rintro r st' ⟨rfl,rfl⟩;exact⟨hp.get,hk⟩
theorem Nm {g:Nat}{enc':α->List AV}(hr:st[id]?=some ⟨g,el,size,l.map enc⟩)(hu :∀x,DU (enc x)=enc' x):Hi st (.own id g l.length)=.sl (l.map enc'):=by
 simp only[Hi,hr,Sm];rw[<- SB (f:=enc) (as:=l),Sr,SH,CQ,Sq];congr 1;exact R4 λx _=>hu x
theorem Hv {cs:List AV}(h:cs.all simple=true):DU cs=cs:=by
 rw[C9];exact (R4 (g:=id) λc hc=>EN (Ru.1 h c hc)).trans (Sj _)
inductive BC (st:List Row):List AV->List AV->Prop
 | nil:BC st [] []
 | own {α:Type} {l:List α} {enc:α->List AV} {id g size m:Nat} {el:TypeId} {as bs:List AV} (hr:st[id]?=some ⟨g,el,size,l.map enc⟩) (hm:m=l.length) (hp :∀x,(enc x).all simple=true) (h:BC st as bs):BC st (.own id g m::as) (.sl (l.map enc)::bs)
 | ownD {α:Type} {l:List α} {enc enc':α->List AV} {id g size m:Nat} {el:TypeId} {as bs:List AV} (hr:st[id]?=some ⟨g,el,size,l.map enc⟩) (hm:m=l.length) (hp :∀x,(enc x).all BP=true) (hu :∀x,DU (enc x)=enc' x) (h:BC st as bs):BC st (.own id g m::as) (.sl (l.map enc')::bs)
 | val {v:AV} {as bs:List AV} (hv:simple v=true) (h:BC st as bs):BC st (v::as) (v::bs)
inductive BA (st:List Row):List AV->List AV->Prop
 | nil:BA st [] []
 | own {α:Type} {l:List α} {enc:α->List AV} {id g size m:Nat} {el:TypeId} {as bs:List AV} (hr:st[id]?=some ⟨g,el,size,l.map enc⟩) (hm:m=l.length) (hp :∀x,(enc x).all simple=true) (h:BA st as bs):BA st (.own id g m::as) (.sl (l.map enc)::bs)
 | ownD {α:Type} {l:List α} {enc enc':α->List AV} {id g size m:Nat} {el:TypeId} {as bs:List AV} (hr:st[id]?=some ⟨g,el,size,l.map enc⟩) (hm:m=l.length) (hp :∀x,(enc x).all BP=true) (hu :∀x,DU (enc x)=enc' x) (h:BA st as bs):BA st (.own id g m::as) (.sl (l.map enc')::bs)
 | agg {cs ds:List AV} {as bs:List AV} (hc:BC st cs ds) (h:BA st as bs):BA st (.agg cs::as) (.agg ds::bs)
 | val {v:AV} {as bs:List AV} (hv:flat v=true) (h:BA st as bs):BA st (v::as) (v::bs)
theorem Hd {v:AV}(h:simple v=true):Hi st v=v:=by cases v<;>simp_all [simple,Hi]
theorem BC.spec {as bs:List AV}(h:BC st as bs):as.map (Hi st)=bs/\bs.all simple=true/\∀id g n,AV.own id g n∈as->∀row,st[id]?=some row->Au row.xs:=by
 induction h with
 | nil=>exact⟨rfl,rfl,by simp⟩
 | own hr hm hp h ih=>
  obtain⟨h1,h2,h3⟩:=ih;subst hm;refine⟨by rw[R9,Nm hr (λx=>Hv (hp x)),h1],by simp[simple,h2],λUv g' n' hx row T0=>?_⟩;rcases SA.1 hx with hx|hx
  ·cases hx;rw[hr]at T0;cases T0;exact (AK hp).any
  ·exact h3 Uv g' n' hx row T0
 | ownD hr hm hp hu h ih=>
  obtain⟨h1,h2,h3⟩:=ih;subst hm;refine⟨by rw[R9,Nm hr hu,h1],by simp[simple,h2],λUv g' n' hx row T0=>?_⟩;rcases SA.1 hx with hx|hx
  ·cases hx;rw[hr]at T0;cases T0;exact Bg hp
  ·exact h3 Uv g' n' hx row T0
 | @val v as bs hv h ih=>
  obtain⟨h1,h2,h3⟩:=ih;refine⟨by rw[R9,Hd hv,h1],by simp[hv,h2],λUv g' n' hx row T0=>?_⟩;rcases SA.1 hx with hx|hx
  ·subst hx;simp[simple]at hv
  ·exact h3 Uv g' n' hx row T0
theorem BA.spec {as bs:List AV}(h:BA st as bs):as.map (Cr st)=bs/\bs.all flat=true/\∀id g n,Gk as id g n->∀row,st[id]?=some row->Au row.xs:=by
 induction h with
 | nil=>exact⟨rfl,rfl,by rintro id g n (h|⟨_,h,_⟩)<;>simp at h⟩
 | own hr hm hp h ih=>
  obtain⟨h1,h2,h3⟩:=ih;subst hm;refine⟨by rw[R9,h1];congr 1;exact Nm hr (λx=>Hv (hp x)),by simp[flat,h2],λUv g' n' hx row T0=>?_⟩;rcases hx with hx|⟨cs,hx,Ut⟩
  ·rcases SA.1 hx with hx|hx
   ·cases hx;rw[hr]at T0;cases T0;exact (AK hp).any
   ·exact h3 Uv g' n' (.inl hx) row T0
  ·rcases SA.1 hx with hx|hx
   ·cases hx
   ·exact h3 Uv g' n' (.inr ⟨cs,hx,Ut⟩) row T0
 | ownD hr hm hp hu h ih=>
  obtain⟨h1,h2,h3⟩:=ih;subst hm;refine⟨by rw[R9,h1];congr 1;exact Nm hr hu,by simp[flat,h2],λUv g' n' hx row T0=>?_⟩;rcases hx with hx|⟨cs,hx,Ut⟩
  ·rcases SA.1 hx with hx|hx
   ·cases hx;rw[hr]at T0;cases T0;exact Bg hp
   ·exact h3 Uv g' n' (.inl hx) row T0
  ·rcases SA.1 hx with hx|hx
   ·cases hx
   ·exact h3 Uv g' n' (.inr ⟨cs,hx,Ut⟩) row T0
 | agg hc h ih=>
  obtain⟨h1,h2,h3⟩:=ih;obtain⟨g1,g2,g3⟩:=hc.spec;refine⟨by rw[R9,h1];simp only[Cr,g1],by simp only[To,h2,Bool.and_true];simpa [flat] using g2,λUv g' n' hx row T0=>?_⟩;rcases hx with hx|⟨cs,hx,Ut⟩
  ·rcases SA.1 hx with hx|hx
   ·cases hx
   ·exact h3 Uv g' n' (.inl hx) row T0
  ·rcases SA.1 hx with hx|hx
   ·cases hx;exact g3 Uv g' n' Ut row T0
   ·exact h3 Uv g' n' (.inr ⟨cs,hx,Ut⟩) row T0
 | @val v as bs hv h ih=>
  obtain⟨h1,h2,h3⟩:=ih;have e1:Cr st v=v:=by
   cases v<;>simp[flat]at hv<;>try rfl
   rename_i cs;simp only[Cr];congr 1;exact (R4 (g:=id) λc hc=>Hd (hv c hc)).trans (Sj _)
  refine⟨by rw[R9,e1,h1],by simp[hv,h2],λUv g' n' hx row T0=>?_⟩;rcases hx with hx|⟨cs,hx,Ut⟩
  ·rcases SA.1 hx with hx|hx
   ·subst hx;simp[flat]at hv
   ·exact h3 Uv g' n' (.inl hx) row T0
  ·rcases SA.1 hx with hx|hx
   ·subst hx;have:=Ru.1 (show cs.all simple=true from hv) _ Ut;simp[simple]at this
   ·exact h3 Uv g' n' (.inr ⟨cs,hx,Ut⟩) row T0
def FB:List Row->Prop
 | []=>True
 | row::r=>(Au row.xs/\∀x∈row.xs,∀c∈x,Er c=true)/\FB r
theorem FB.get:∀{l:List Row},FB l->∀row∈l,Au row.xs/\∀x∈row.xs,∀c∈x,Er c=true
 | row::r,h,row',hm=>by
  rcases SA.1 hm with rfl|hm
  ·exact h.1
  ·exact FB.get h.2 row' hm
theorem Qm {g:Nat}(h :∀x,(enc x).all (λc=>BP c&&Er c)=true)(hr:FB rows):FB (⟨g,el,size,l.map enc⟩::rows):=by
 refine⟨⟨λx hx c hc=>?_,λx hx c hc=>?_⟩,hr⟩ <;>
 ·obtain⟨y,_,rfl⟩:=R7.1 hx;have:=Ru.1 (h y) c hc;simp only[SL]at this;first|exact this.1|exact this.2
theorem Qy {g:Nat}(h :∀x,(enc x).all (λc=>simple c&&Er c)=true)(hr:FB rows):FB (⟨g,el,size,l.map enc⟩::rows):=
 Qm (λx=>Ru.2 λc hc=>by
  have:=Ru.1 (h x) c hc;simp only[SL]at this⊢;exact⟨EU this.1,this.2⟩) hr
theorem Gr {as:List AV}(hg:GO ds gd e)(hb:AZ P f=true)(hc:AY P f args [] λr st=>r=v/\st=rows)(ha:VA.toList.map (St.ev ⟨n,e,st⟩)++[]=as)(gn:BA st as args)(Zf:Lz v=true)(hp:FB rows)(hv:shift st.length v=v')(T8:st++rows=st')
  (hk:AO P k ops Q (ds++[d]) r (St.put ⟨n,e,st'⟩ d v')):AO P k ops Q ds (⟨d,.call ⟨.value (.func f),VA,ts⟩,ty,ps,ed,gd⟩::r) ⟨n,e,st⟩:=by
 subst hv;subst T8;subst ha;obtain⟨h1,h2,h3⟩:=gn.spec;refine Ek hg ?_;rw[EB];refine⟨hb,Hz (R:=λr st=>r=v/\st=rows) ?_ ?_ h3 ?_⟩
 ·show AY P f (List.map (Cr st) _) [] _;rw[h1];exact hc
 ·show (List.map (Cr st) _).all flat=true;rw[h1];exact h2
 ·rintro r st' ⟨rfl,rfl⟩;exact⟨⟨Zf,λrow T0=>(hp.get row T0).2⟩,λrow T0=>(hp.get row T0).1,hk⟩
end
section
variable {P : Program} {k : Nat} {Q : Exit -> St -> Prop} {s s' : St} {x y c : Code}
theorem GX {o:Operand}{b:Bool}(ho:s.ev o=.bool b)(h1:b=true->AW P k x Q s)(h2:b=false->AW P k y Q s):AW P k (.cond o x y) Q s:=
 AW.cond λK1 K2 e1 e2=>by rw[ho];exact⟨λh=>e1 (h1 h),λh=>e2 (h2 h)⟩
theorem Ae {σ:Type}(I:Nat->σ->Prop)(canon:σ->St)(n0:Nat)(v0:σ)(h0:I n0 v0)(hw:Wk k s (canon v0))(hz :∀v,¬ I 0 v)
  (round :∀n v,I (n+1) v->AW P k c (NY (λs'=>∃v',I n v'/\Wk k s' (canon v')) Q) (canon v)):AW P k (.loop c) Q s:=by
 refine AH hw ?_;have key:∀n v,I n v->∀F os a w,Rel F os (canon v) a w->∀(b:Frame) (kk:List Item) (cs:List Frame),
   ∃e a' w',GM k Q F os w e a' w'/\Arrives P (lone (b.at a (.code c::.inLoop c::kk)) cs w) b kk cs e a' w':=by
  intro n
  induction n with
  | zero=>intro v hI;exact absurd hI (hz v)
  | succ n ih=>
   intro v hI F os a w hr b kk cs;obtain⟨e,a₁,w₁,⟨s1,F1,UQ,hq,hR1,hE1⟩,harr⟩:=round n v hI F os a w hr b (.inLoop c::kk) cs;cases e with
   | normal=>
    obtain⟨v2,hI2,hw2⟩:=hq;obtain⟨F2,os2,hR2,hE2⟩:=hw2 F1 UQ a₁ w₁ hR1;obtain⟨e₂,a₂,w₂,hq₂,harr₂⟩:=ih v2 hI2 F2 os2 a₁ w₁ hR2 b kk cs;exact⟨e₂,a₂,w₂,hq₂.trans (hE1.trans hE2),.of_steps (Steps.trans harr (.one step_inLoop)) harr₂⟩
   | exit id=>exact⟨_,a₁,w₁,⟨s1,F1,UQ,hq,hR1,hE1⟩,.pass (x:=.inLoop c) rfl (λ_ _=>.inl (by simp)) harr⟩
   | goto l=>exact⟨_,a₁,w₁,⟨s1,F1,UQ,hq,hR1,hE1⟩,.pass (x:=.inLoop c) rfl (λ_ _=>.inl (by simp)) harr⟩
   | ret=>exact⟨_,a₁,w₁,⟨s1,F1,UQ,hq,hR1,hE1⟩,.pass (x:=.inLoop c) rfl (λ_ _=>.inl (by simp)) harr⟩
   | panic ch=>exact⟨_,a₁,w₁,⟨s1,F1,UQ,hq,hR1,hE1⟩,.pass (x:=.inLoop c) rfl (λ_ _=>.inl (by simp)) harr⟩
   | outgrown=>exact⟨_,a₁,w₁,⟨s1,F1,UQ,hq,hR1,hE1⟩,.pass (x:=.inLoop c) rfl (λ_ _=>.inl (by simp)) harr⟩
 intro F os a w hr b kk cs;obtain⟨e,a',w',hq,harr⟩:=key n0 v0 h0 F os a w hr b kk cs;exact⟨e,a',w',hq,.of_steps (.one step_loop) harr⟩
end
end Go.Abs
