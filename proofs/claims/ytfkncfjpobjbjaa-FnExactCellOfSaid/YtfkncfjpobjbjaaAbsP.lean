import Derived.Test.YtfkncfjpobjbjaaAbsO
set_option linter.all false
namespace Go.Abs
open Go
def AQ (P:Program)(s:St)(op:Op)(v:AV):Prop:=∀K:AV->Prop,K v->DN P s op K
def EL (st:List Row)(v:AV)(ys:List (List AV)):Prop:=∀K:List (List AV)->Prop,K ys->Lr st v K
section
variable {P : Program} {s : St} {x y z c : Operand} {v : AV} {t t' : TypeId} {kk : IntKind} {a b : Int} {p q : Bool}
theorem Qk (h:s.ev x=v):AQ P s (.move x) v:=λK hk=>by show K (s.ev x);rw[h];exact hk
theorem QY (h:s.ev x=v):AQ P s (.assign x) v:=λK hk=>by show K (s.ev x);rw[h];exact hk
theorem PK {x y:AV}{K:AV->Prop}(h:K x):Ga (.bool true) x y K:=by
 cases x<;>cases y<;>first|exact h|exact⟨λ_=>h,λh=>by cases h⟩
theorem Og {x y:AV}{K:AV->Prop}(h:K y):Ga (.bool false) x y K:=by
 cases x<;>cases y<;>first|exact h|exact⟨λh=>(by cases h),λ_=>h⟩
theorem E5 (hc:s.ev c=.bool p)(hp:p=true)(hx:s.ev x=v):AQ P s (.pick c x y) v:=λK hk=>by
 show Ga (s.ev c) (s.ev x) (s.ev y) K;rw[hc,hp,hx];exact PK hk
theorem E7 (hc:s.ev c=.bool p)(hp:p=false)(hy:s.ev y=v):AQ P s (.pick c x y) v:=λK hk=>by
 show Ga (s.ev c) (s.ev x) (s.ev y) K;rw[hc,hp,hy];exact Og hk
variable (hx : s.ev x = .int kk a) (hy : s.ev y = .int kk b)
include hx hy
theorem C8 {op:BinOp}(h :∀K:AV->Prop,K v->L0 op kk a b K):AQ P s (.binOp op t x y t') v:=λK hk=>by
 show JT P t op (s.ev x) (s.ev y) K;rw[hx,hy];exact⟨rfl,h K hk⟩
theorem PJ:AQ P s (.binOp .add t x y t') (.int kk (Sh.wk kk (a+b))):=C8 hx hy λ_ hk=>hk
theorem Ob:AQ P s (.binOp .sub t x y t') (.int kk (Sh.wk kk (a-b))):=C8 hx hy λ_ hk=>hk
theorem PY:AQ P s (.binOp .mul t x y t') (.int kk (Sh.wk kk (a*b))):=C8 hx hy λ_ hk=>hk
theorem La (h:b≠0):AQ P s (.binOp .rem t x y t') (.int kk (a.tmod b)):=C8 hx hy λ_ hk=>⟨h,hk⟩
theorem Qg:AQ P s (.binOp .lss t x y t') (.bool (decide (a<b))):=C8 hx hy λ_ hk=>hk
theorem Qp:AQ P s (.binOp .leq t x y t') (.bool (decide (a<=b))):=C8 hx hy λ_ hk=>hk
theorem Qd:AQ P s (.binOp .gtr t x y t') (.bool (decide (b<a))):=C8 hx hy λ_ hk=>hk
theorem Qa:AQ P s (.binOp .geq t x y t') (.bool (decide (b<=a))):=C8 hx hy λ_ hk=>hk
theorem QV:AQ P s (.binOp .eql t x y t') (.bool (decide (a=b))):=C8 hx hy λ_ hk=>hk
theorem QW:AQ P s (.binOp .neq t x y t') (.bool (!decide (a=b))):=C8 hx hy λ_ hk=>hk
end
section
variable {P : Program} {s : St} {x y z c : Operand} {v : AV} {t t' : TypeId} {kk : IntKind} {a b : Int} {p q : Bool}
variable (hx : s.ev x = i64 a) (hy : s.ev y = i64 b)
include hx hy
theorem QB:AQ P s (.binOp .add t x y t') (i64 (Sh.w (a+b))):=C8 hx hy λ_ hk=>hk
theorem QC:AQ P s (.binOp .sub t x y t') (i64 (Sh.w (a-b))):=C8 hx hy λ_ hk=>hk
theorem Pw:AQ P s (.binOp .mul t x y t') (i64 (Sh.w (a*b))):=C8 hx hy λ_ hk=>hk
theorem I5 (h:b≠0):AQ P s (.binOp .quo t x y t') (i64 (Sh.w (a.tdiv b))):=C8 hx hy λ_ hk=>⟨h,hk⟩
end
section
variable {P : Program} {s : St} {x y z c : Operand} {v : AV} {t t' : TypeId} {kk Ys : IntKind} {a b : Int} {p q ag : Bool} {id g i off Yt f size sz bytes m j : Nat} {cs vs : List AV} {xs : List (List AV)} {el : TypeId}
theorem P1 (ht:FM P t=true)(hx:s.ev x=.bool p)(hy:s.ev y=.bool q):AQ P s (.binOp .eql t x y t') (.bool (p==q)):=λK hk=>by
 show JT P t .eql (s.ev x) (s.ev y) K;rw[hx,hy];exact⟨ht,hk⟩
theorem QE (ht:FM P t=true)(hx:s.ev x=.bool p)(hy:s.ev y=.bool q):AQ P s (.binOp .neq t x y t') (.bool (p != q)):=λK hk=>by
 show JT P t .neq (s.ev x) (s.ev y) K;rw[hx,hy];exact⟨ht,hk⟩
theorem P8 (hx:s.ev x=.bool p):AQ P s (.unOp .not t x) (.bool (!p)):=λK hk=>by
 show OH .not (s.ev x) K;rw[hx];exact hk
theorem P6 (hx:s.ev x=i64 a):AQ P s (.unOp .neg t x) (i64 (Sh.w (-a))):=λK hk=>by
 show OH .neg (s.ev x) K;rw[hx];exact hk
def Rm (P:Program)(src dst:TypeId):Option IntKind:=
 match P.underlying src,P.underlying dst with
 | some _,some (.int k)=>some k
 | _,_=>none
theorem Ql (hx:s.ev x=.BB vs)(hv:vs[i]?=some v):AQ P s (.extract x i) v:=λK hk=>by
 show Gv (s.ev x) i K;rw[hx];exact AL v hv hk
theorem P5 (ht:CI P t=some (false,sz))(hx:s.ev x=.A4 cs off)(hv:cs[off]?=some v):AQ P s (.load t x) v:=λK hk=>by
 show GU P s.st t (s.ev x) K;rw[hx];exact AL _ ht (AL v hv hk)
theorem Of (ht:CI P t=some (true,sz))(hx:s.ev x=.A4 cs off)(hl:off+sz<=cs.length)(hv:(cs.drop off).take sz=vs):AQ P s (.load t x) (.agg vs):=λK hk=>by
 show GU P s.st t (s.ev x) K;rw[hx];subst hv;exact AL _ ht ⟨hl,hk⟩
theorem DO (ht:CI P t=some (false,sz))(hx:s.ev x=.ptr id g i off)(hr:s.st[id]?=some ⟨g,el,size,xs⟩)(hi:xs[i]?=some cs)(hv:cs[off]?=some v):AQ P s (.load t x) v:=λK hk=>by
 show GU P s.st t (s.ev x) K;rw[hx];exact AL _ ht (AL _ hr ⟨rfl,AL cs hi (AL v hv hk)⟩)
theorem EH (ht:CI P t=some (true,sz))(hx:s.ev x=.ptr id g i off)(hr:s.st[id]?=some ⟨g,el,size,xs⟩)(hi:xs[i]?=some cs)(hl:off+sz<=cs.length)(hv:(cs.drop off).take sz=vs):AQ P s (.load t x) (.agg vs):=λK hk=>by
 show GU P s.st t (s.ev x) K;rw[hx];subst hv;exact AL _ ht (AL _ hr ⟨rfl,AL cs hi ⟨hl,hk⟩⟩)
theorem Pr (hf:IL P t f=some j)(hx:s.ev x=.A4 cs off)(ho:off+j=Yt):AQ P s (.fieldAddr t x f) (.A4 cs Yt):=λK hk=>by
 show EK P t (s.ev x) f s.st K;rw[hx];subst ho;exact AL _ hf hk
theorem Pm (hf:IL P t f=some j)(hx:s.ev x=.ptr id g i off)(hr:s.st[id]?=some ⟨g,el,size,xs⟩)(hl:off+j<=size)(ho:off+j=Yt):AQ P s (.fieldAddr t x f) (.ptr id g i Yt):=λK hk=>by
 show EK P t (s.ev x) f s.st K;rw[hx];subst ho;exact AL _ hf (AL _ hr ⟨rfl,hl,hk⟩)
def IX (P:Program)(t:TypeId)(f:Nat):Option (Nat×Bool×Nat):=
 match P.underlying t with
 | some (.struct fs)=>match fs[f]? with
  | some g=>match CI P g.type with
   | some ti=>some (g.offset,ti)
   | none=>none
  | none=>none
 | _=>none
theorem JW {f o:Nat}{ti:Bool×Nat}{K:AV->Prop}(h:IX P t f=some (o,ti))(hk:D9 ti.1 ti.2 cs o K):E3 P t (.agg cs) f K:=by
 unfold IX at h;unfold E3;split at h
 ·rename_i fs hu;split at h
  ·rename_i gg hg;split at h
   ·rename_i je ht;simp only[Rr,Prod.mk.injEq]at h;obtain⟨rfl,rfl⟩:=h;rw[hu];exact AL _ hg (AL _ ht hk)
   ·cases h
  ·cases h
 ·cases h
theorem QU (hf:IX P t f=some (off,false,sz))(hx:s.ev x=.agg cs)(hv:cs[off]?=some v):AQ P s (.field t x f) v:=λK hk=>by
 show E3 P t (s.ev x) f K;rw[hx];exact JW hf (AL v hv hk)
theorem Pk (hf:IX P t f=some (off,true,sz))(hx:s.ev x=.agg cs)(hl:off+sz<=cs.length)(hv:(cs.drop off).take sz=vs):AQ P s (.field t x f) (.agg vs):=λK hk=>by
 show E3 P t (s.ev x) f K;rw[hx];subst hv;exact JW hf ⟨hl,hk⟩
variable {α : Type} {l l' : List α} {enc : α -> List AV} {n : Int} {zz : List AV} {u : α}
theorem CN (h:Sh.get l n=some u):(l.map enc)[n.toNat]?=some (enc u):=by
 rw[Rs,(Sh.get_some h).2.1];rfl
theorem Bt (he:CG P t=some ⟨el,size,bytes,zz⟩)(hx:s.ev x=.sl (l.map enc))(hy:s.ev y=.int kk n)(hg:Sh.get l n=some u)(hs:(enc u).length=size):AQ P s (.indexAddr t x y) (.A4 (enc u) 0):=λK hk=>by
 show Dp P s.st t (s.ev x) (s.ev y) K;rw[hx,hy];exact AL _ he ⟨(Sh.get_some hg).1,AL _ (CN hg) ⟨hs,hk⟩⟩
theorem CT (he:CG P t=some ⟨el,size,bytes,zz⟩)(hx:s.ev x=.own id g m)(hy:s.ev y=.int kk n)(hr:s.st[id]?=some ⟨g,el,size,l.map enc⟩)(hm:m=l.length)(hg:Sh.get l n=some u):
  AQ P s (.indexAddr t x y) (.ptr id g n.toNat 0):=λK hk=>by
 show Dp P s.st t (s.ev x) (s.ev y) K;rw[hx,hy];subst hm;exact AL _ he ⟨(Sh.get_some hg).1,(Sh.get_some hg).2.2,AL _ hr ⟨rfl,rfl,by simpa using hk⟩⟩
theorem Db (hs:CM P t=true)(hx:s.ev x=.sl (l.map enc)):AQ P s (.call ⟨.builtin .len,#[x],#[t]⟩) (i64 (Sh.len l)):=λK hk=>by
 refine⟨hs,?_⟩;rw[hx];simp only[Nw,SF];exact hk
theorem El (hs:CM P t=true)(hx:s.ev x=.own id g m)(hr:s.st[id]?=some ⟨g,el,size,l.map enc⟩)(hm:m=l.length):AQ P s (.call ⟨.builtin .len,#[x],#[t]⟩) (i64 (Sh.len l)):=λK hk=>by
 refine⟨hs,?_⟩;subst hm;rw[hx];exact AL _ hr ⟨rfl,hk⟩
theorem Py (hx:s.ev x=.ptr id g i off)(hr:s.st[id]?=some ⟨g,el,size,xs⟩):AQ P s (.nilCheck x) (.ptr id g i off):=λK hk=>by
 show K6 s.st (s.ev x) K;rw[hx];exact AL _ hr ⟨rfl,hk⟩
theorem Pu (hx:s.ev x=.A4 cs off):AQ P s (.nilCheck x) (.A4 cs off):=λK hk=>by
 show K6 s.st (s.ev x) K;rw[hx];exact hk
theorem LR {parts:Array (Nat×Operand)}{fs:List (Nat×Nat)}{pv:List (Nat×AV)}(ha:Gb P t=true)(hf:Hs P t=some fs)(hz:FG P t=some zz)(hp:(parts.toList.map λp=>(p.1,s.ev p.2))=pv)(hc:Fu (fs[·]?) zz pv=some cs):
  AQ P s (.build t parts) (.agg cs):=λK hk=>by
 show Ld P t (parts.toList.map λp=>(p.1,s.ev p.2)) K;rw[hp];exact⟨ha,AL _ hf (AL _ hz (AL _ hc hk))⟩
variable {st : List Row} {ys : List (List AV)}
theorem QG:EL st (.sl ys) ys:=λ_ hk=>hk
theorem Ip (hr:st[id]?=some ⟨g,el,size,l.map enc⟩)(hm:m=l.length)(Xv :∀x,(enc x).all AV.leaf=true:=by exact λ_=>rfl):EL st (.own id g m) (l.map enc):=λK hk=>by
 subst hm;refine AL _ hr ⟨rfl,λy hy c hc=>?_,?_⟩
 ·obtain⟨x,_,rfl⟩:=R9.1 hy;exact Ry.1 (Xv x) c hc
 rw[<- SF (f:=enc) (as:=l),TF];exact⟨rfl,hk⟩
end
section
variable {P : Program} {k : Nat} {ops : Array Oper} {Q : Exit -> St -> Prop} {ds : List (Option Tmp)} {r : List Oper} {n : Nat} {e : Nat -> AV} {st st' : List Row} {op : Op} {ty : TypeId} {ps : String} {ed : Array Edge} {d : Option Tmp} {t : Tmp} {v v' : AV}
variable {jj : Nat} {want b : Bool} {tg : Tmp} {gd : Option (Nat × Bool)}
def GO (ds:List (Option Tmp))(gd:Option (Nat×Bool))(e:Nat->AV):Prop:=
 match gd with
 | none=>True
 | some (jj,want)=>∃tg,ds[jj]?=some (some tg)/\e tg=.bool want
theorem Ai:GO ds none e:=Ru
theorem B8 (hj:ds[jj]?=some (some tg))(ht:e tg=.bool b)(hb:b=want):GO ds (some (jj,want)) e:=⟨tg,hj,by rw[ht,hb]⟩
theorem GO.guard {A B:Prop}(hg:GO ds gd e)(h:A):Dc ds ⟨d,op,ty,ps,ed,gd⟩ ⟨n,e,st⟩ A B:=by
 unfold GO at hg;unfold Dc;cases gd with
 | none=>exact h
 | some q=>
  obtain⟨jj,want⟩:=q;obtain⟨tg,hj,ht⟩:=hg;simp only[hj,ht,MZ];exact⟨λ_=>h,λhh=>absurd rfl hh⟩
theorem BZ (hg:GO ds gd e)(hl:D1 op=false)(hq:AQ P ⟨n,e,st⟩ op v)(hk:AO P k ops Q (ds++[some t]) r ⟨n,CE e t v,st⟩):AO P k ops Q ds (⟨some t,op,ty,ps,ed,gd⟩::r) ⟨n,e,st⟩:=by
 refine AO.step (hg.guard ?_);unfold D8;simp only[hl,R4,Sa];exact hq _ hk
theorem Ei (hg:GO ds gd e)(h:D8 P k ⟨d,op,ty,ps,ed,gd⟩ ⟨n,e,st⟩ (AO P k ops Q (ds++[d]) r)):AO P k ops Q ds (⟨d,op,ty,ps,ed,gd⟩::r) ⟨n,e,st⟩:=
 AO.step (hg.guard h)
theorem Oo (hj:ds[jj]?=some (some tg))(ht:e tg=.bool b)(hb:b=!want)(h:AO P k ops Q (ds++[some t]) r ⟨n,CE e t .un,st⟩):AO P k ops Q ds (⟨some t,op,ty,ps,ed,some (jj,want)⟩::r) ⟨n,e,st⟩:=by
 refine AO.step ?_;subst hb;simp only[Dc,hj,ht,MZ];exact⟨λh=>(by cases want<;>cases h),λ_=>h⟩
theorem O6 (hj:ds[jj]?=some (some tg))(ht:e tg=.un)(h:AO P k ops Q (ds++[some t]) r ⟨n,CE e t .un,st⟩):AO P k ops Q ds (⟨some t,op,ty,ps,ed,some (jj,want)⟩::r) ⟨n,e,st⟩:=by
 refine AO.step ?_;simp only[Dc,hj,ht,MZ];exact h
variable {KS : St -> Prop}
theorem Hb (hg:GO ds gd e)(hl:D1 op=false)(hq:AQ P ⟨n,e,st⟩ op v)(hk:Bj P (ds++[some t]) r KS ⟨n,CE e t v,st⟩):Bj P ds (⟨some t,op,ty,ps,ed,gd⟩::r) KS ⟨n,e,st⟩:=by
 refine hg.guard ?_;unfold EW;simp only[hl,R4,Sa];exact hq _ hk
theorem RE (hg:GO ds gd e)(hl:D1 op=true)(hq :∀s0:St,s0.st=st->(∀x∈op.operands,s0.ev x=St.ev ⟨n,e,st⟩ x)->Bo s0.n (some t)=true->Yl P ⟨some t,op,ty,ps,ed,gd⟩ s0 v)(hk:Bj P (ds++[some t]) r KS ⟨n,CE e t v,st⟩):Bj P ds (⟨some t,op,ty,ps,ed,gd⟩::r) KS ⟨n,e,st⟩:=by
 refine hg.guard ?_;unfold EW;simp only[hl,Sr];exact⟨v,hq,hk⟩
theorem Pj (hj:ds[jj]?=some (some tg))(ht:e tg=.bool b)(hb:b=!want)(h:Bj P (ds++[some t]) r KS ⟨n,CE e t .un,st⟩):Bj P ds (⟨some t,op,ty,ps,ed,some (jj,want)⟩::r) KS ⟨n,e,st⟩:=by
 subst hb;simp only[Bj,Dc,hj,ht,MZ];exact⟨λh=>(by cases want<;>cases h),λ_=>h⟩
theorem Pn (hj:ds[jj]?=some (some tg))(ht:e tg=.un)(h:Bj P (ds++[some t]) r KS ⟨n,CE e t .un,st⟩):Bj P ds (⟨some t,op,ty,ps,ed,some (jj,want)⟩::r) KS ⟨n,e,st⟩:=by
 simp only[Bj,Dc,hj,ht,MZ];exact h
theorem DA {s:St}(h:KS s):Bj P ds [] KS s:=h
theorem Ok {VG:Array Operand}{f:FuncId}{ts:Array TypeId}{s0 s1:St}(h :∀x∈(Op.call ⟨.value (.func f),VG,ts⟩).operands,s0.ev x=s1.ev x):VG.toList.map s0.ev=VG.toList.map s1.ev:=
 R8 λx hx=>h x (by simp[Op.operands,Call.operands];right;simpa using hx)
theorem Gn {f:FuncId}{VG:Array Operand}{ts:Array TypeId}{args:List AV}(hg:GO ds gd e)(hb:AZ P f=true)(hc:AY P f args [] λr st=>r=v/\st=[])(ha:VG.toList.map (St.ev ⟨n,e,st⟩)++[]=args)(hf:args.all flat=true)(hv:flat v=true)
  (hk:Bj P (ds++[some t]) r KS ⟨n,CE e t v,st⟩):Bj P ds (⟨some t,.call ⟨.value (.func f),VG,ts⟩,ty,ps,ed,gd⟩::r) KS ⟨n,e,st⟩:=by
 refine RE hg rfl (λs0 e1 e2 hd k F os a w hr next Q hn=>?_) hk;refine Ks (k:=k) (K:=(·=s0.put (some t) v)) hr hd ?_ hn;show AZ P f=true/\callThen P k s0 f (VG.toList.map s0.ev++[]) (some t) _;rw[Ok e2,ha];exact⟨hb,Iu hc hf hv rfl⟩
variable {α : Type} {l l' l2 : List α} {enc : α -> List AV} {kk Ys : IntKind} {j : Int} {el T : TypeId} {size bytes sz id g i m off : Nat} {zz cs us : List AV} {x y : Operand} {xs : List (List AV)} {ag : Bool} {u u' : α}
theorem Ch (hg:GO ds gd e)(hz:FG P T=some zz)(hm:st.length=m)(UL:st++[⟨0,T,zz.length,[zz]⟩]=st')(hk:AO P k ops Q (ds++[some t]) r ⟨n,CE e t (.ptr m 0 0 0),st'⟩):AO P k ops Q ds (⟨some t,.alloc T,ty,ps,ed,gd⟩::r) ⟨n,e,st⟩:=by
 subst hm;subst UL;exact Ei hg (AL _ hz hk)
theorem Ca (hg:GO ds gd e)(hx:St.ev ⟨n,e,st⟩ x=v)(hc:Ed v=some cs)(Ua:cs.isEmpty=false)(hm:st.length=m)(UL:st++[⟨0,T,cs.length,[cs]⟩]=st')(hk:AO P k ops Q (ds++[some t]) r ⟨n,CE e t (.ptr m 0 0 0),st'⟩):AO P k ops Q ds (⟨some t,.box T x,ty,ps,ed,gd⟩::r) ⟨n,e,st⟩:=by
 subst hm;subst UL;subst hx;exact Ei hg (AL _ hc ⟨(by intro h;rw[h]at Ua;cases Ua),hk⟩)
theorem Bu (hg:GO ds gd e)(ht:CI P T=some (ag,sz))(hx:St.ev ⟨n,e,st⟩ x=.ptr id g i off)(hr:st[id]?=some ⟨g,el,size,xs⟩)(hi:xs[i]?=some zz)(hv:St.ev ⟨n,e,st⟩ y=v)(hc:Ed v=some cs)(hn:cs.length=sz)(hle:off+cs.length<=size)
  (UL:st.set id ⟨g,el,size,xs.set i (Cr zz off cs)⟩=st') (hk:AO P k ops Q (ds++[none]) r ⟨n,e,st'⟩):AO P k ops Q ds (⟨none,.store T x y,ty,ps,ed,gd⟩::r) ⟨n,e,st⟩:=by
 subst UL;subst hv;refine Ei hg ?_;rw[OI,hx];exact AL _ ht (AL _ hr ⟨rfl,AL _ hi (AL _ hc ⟨hn,hle,hk⟩)⟩)
theorem L2 {j:Int}:(l.map enc).set j.toNat (enc u)=(Sh.put l j u).map enc:=by simp[Sh.put,Sf]
theorem Gl (hg:GO ds gd e)(ht:CI P T=some (ag,sz))(hx:St.ev ⟨n,e,st⟩ x=.ptr id g j.toNat off)(hr:st[id]?=some ⟨g,el,size,l.map enc⟩)(hi:Sh.get l j=some u)(hv:St.ev ⟨n,e,st⟩ y=v)(hc:Ed v=some cs)(hn:cs.length=sz)(hle:off+cs.length<=size)
  (hG:Cr (enc u) off cs=enc u') (UL:st.set id ⟨g,el,size,(Sh.put l j u').map enc⟩=st') (hk:AO P k ops Q (ds++[none]) r ⟨n,e,st'⟩):AO P k ops Q ds (⟨none,.store T x y,ty,ps,ed,gd⟩::r) ⟨n,e,st⟩:=
 Bu hg ht hx hr (CN hi) hv hc hn hle (by rw[hG,L2];exact UL) hk
theorem H3 (hg:GO ds gd e)(he:CG P T=some ⟨el,size,bytes,zz⟩)(hx:St.ev ⟨n,e,st⟩ x=.int kk j)(hy:St.ev ⟨n,e,st⟩ y=.int Ys j)(hz:enc u=zz)(hl:Sh.mk u j bytes=some l)(hm:st.length=m)(UL:st++[⟨0,el,size,l.map enc⟩]=st')
  (hk:AO P k ops Q (ds++[some t]) r ⟨n,CE e t (.own m 0 l.length),st'⟩):AO P k ops Q ds (⟨some t,.makeSlice T x y,ty,ps,ed,gd⟩::r) ⟨n,e,st⟩:=by
 subst hm;subst UL;subst hz;refine Ei hg ?_;rw[KA];unfold Sh.mk at hl;split at hl
 ·rename_i h;simp only[Rr]at hl;subst hl;rw[hx,hy];simp only[List.map_replicate,List.length_replicate]at hk;exact AL _ he ⟨rfl,h.1,h.2.1,h.2.2,hk⟩
 ·cases hl
theorem DU {len:Nat}{parts:Array (Nat×Operand)}{pv:List (Nat×AV)}(hg:GO ds gd e)(he:CG P T=some ⟨el,size,bytes,zz⟩)(hle:len*size<=16777216)(hp:(parts.toList.map λp=>(p.1,St.ev ⟨n,e,st⟩ p.2))=pv)
  (hc:Fu (λi=>some (i*size,size)) ((List.replicate len zz).flatten) pv=some cs) (YE:chunk size len cs=l.map enc) (bA:len=l.length) (hm:st.length=m) (UL:st++[⟨0,el,size,l.map enc⟩]=st') (hk:AO P k ops Q (ds++[some t]) r ⟨n,CE e t (.own m 0 l.length),st'⟩) :
  AO P k ops Q ds (⟨some t,.buildSlice T len parts,ty,ps,ed,gd⟩::r) ⟨n,e,st⟩:=by
 subst hm;subst UL;subst bA;refine Ei hg ?_;rw[Jp,hp];exact AL _ he ⟨hle,AL _ hc (by rw[YE];exact hk)⟩
theorem ED {ys:AV}(hg:GO ds gd e)(he:CG P T=some ⟨el,size,bytes,zz⟩)(hx:St.ev ⟨n,e,st⟩ x=.own id g m)(hr:st[id]?=some ⟨g,el,size,l.map enc⟩)(hm:m=l.length)(hy:St.ev ⟨n,e,st⟩ y=ys)(aO:EL st ys (l2.map enc))(hs :∀a,(enc a).length=size)(ha:Sh.app l l2 bytes=some l')
  (UL:st.set id ⟨g+1,el,size,l'.map enc⟩=st') (hk:AO P k ops Q (ds++[some t]) r ⟨n,CE e t (.own id (g+1) l'.length),st'⟩):AO P k ops Q ds (⟨some t,.call ⟨.builtin .append,#[x,y],#[T,T]⟩,ty,ps,ed,gd⟩::r) ⟨n,e,st⟩:=by
 subst UL;subst hy;subst hm;refine Ei hg ?_;rw[JB];refine⟨rfl,?_⟩;rw[hx];unfold Sh.app at ha;split at ha
 ·rename_i h;simp only[Rr]at ha;subst ha;refine AL _ he (aO _ ⟨λz hz=>?_,AL _ hr ⟨rfl,(SF _).symm,rfl,rfl,by simpa using h.1,by simpa using h.2,?_⟩⟩)
  ·obtain⟨q,_,rfl⟩:=R9.1 hz;exact hs q
  ·have e1:(l.map enc).take l.length=l.map enc:=by rw[<- SF (f:=enc) (as:=l),TF]
   have e2:l.length+(l2.map enc).length=(l++l2).length:=by simp
   simp only[e1,e2,<- Sj];exact hk
 ·cases ha
theorem Pt {fU:Operand}(hg:GO ds gd e)(he:CG P T=some ⟨el,size,bytes,zz⟩)(hx:St.ev ⟨n,e,st⟩ x=.own id g m)(hr:st[id]?=some ⟨g,el,size,l.map enc⟩)(hm:m=l.length)(hh:St.ev ⟨n,e,st⟩ fU=.int kk j)(hl:Sh.hi l j=some l')
  (UL:st.set id ⟨g+1,el,size,l'.map enc⟩=st') (hk:AO P k ops Q (ds++[some t]) r ⟨n,CE e t (.own id (g+1) l'.length),st'⟩):AO P k ops Q ds (⟨some t,.slice T x none (some fU) none,ty,ps,ed,gd⟩::r) ⟨n,e,st⟩:=by
 subst UL;subst hm;refine Ei hg ?_;rw[K0];simp only[SG,Option.map_none];rw[hx,hh];unfold Sh.hi at hl;split at hl
 ·rename_i h;simp only[Rr]at hl;subst hl;refine AL _ he (AL _ hr ⟨rfl,(SF _).symm,rfl,AL _ rfl ⟨h.1,h.2,?_⟩⟩);have e1:(l.take j.toNat).length=j.toNat:=by rw[TN];omega
  rw[e1,List.map_take]at hk;exact hk
 ·cases hl
theorem I6 {lo hi:Option Operand}{i j:Int}(hg:GO ds gd e)(he:CG P T=some ⟨el,size,bytes,zz⟩)(hx:St.ev ⟨n,e,st⟩ x=.sl (l.map enc))(h1:KK (lo.map (St.ev ⟨n,e,st⟩)) 0=some i)(h2:KK (hi.map (St.ev ⟨n,e,st⟩)) l.length=some j)(hs :∀a,(enc a).length=size)(hl:Sh.sl l i j=some l')
  (hk:AO P k ops Q (ds++[some t]) r ⟨n,CE e t (.sl (l'.map enc)),st⟩):AO P k ops Q ds (⟨some t,.slice T x lo hi none,ty,ps,ed,gd⟩::r) ⟨n,e,st⟩:=by
 refine Ei hg ?_;rw[K0];simp only[Option.map_none];rw[hx];unfold Sh.sl at hl;split at hl
 ·rename_i h;simp only[Rr]at hl;subst hl;refine AL _ he (AL _ h1 (AL _ (by rw[SF];exact h2) ⟨h.1,h.2.1,by simpa using h.2.2,λz hz=>?_,?_⟩))
  ·obtain⟨q,_,rfl⟩:=R9.1 hz;exact hs q
  ·rw[List.map_drop,List.map_take]at hk;exact hk
 ·cases hl
theorem Pq (hg:GO ds gd e)(hs:CM P T=true)(hx:St.ev ⟨n,e,st⟩ x=.sl (l.map enc))(h1:l=[]->AO P k ops Q (ds++[some t]) r ⟨n,CE e t (.bool true),st⟩)(h2:AO P k ops Q (ds++[some t]) r ⟨n,CE e t (.bool false),st⟩){yT:TypeId}:
  AO P k ops Q ds (⟨some t,.binOp .eql T x (.const (.slice none 0 0)) yT,ty,ps,ed,gd⟩::r) ⟨n,e,st⟩:=by
 refine Ei hg ?_;rw[L5];refine⟨hs,?_⟩;rw[hx];exact⟨λh=>h1 (List.map_eq_nil_iff.1 h),h2⟩
def IE:List Row->Prop
 | []=>True
 | row::r=>Au row.xs/\IE r
theorem IE.get:∀{l:List Row},IE l->∀row∈l,Au row.xs
 | row::r,h,row',hm=>by
  rcases SE.1 hm with rfl|hm
  ·exact h.1
  ·exact IE.get h.2 row' hm
variable {f : FuncId} {VG : Array Operand} {ts : Array TypeId} {args : List AV} {rows : List Row} {s : St}
theorem Cd (hg:GO ds gd e)(hb:AZ P f=true)(hc:AY P f args [] λr st=>r=v/\st=rows)(ha:VG.toList.map (St.ev ⟨n,e,st⟩)++[]=args)(hf:args.all flat=true)(hp:IE rows)(hv:shift st.length v=v')(UL:st++rows=st')
  (hk:AO P k ops Q (ds++[d]) r (St.put ⟨n,e,st'⟩ d v')):AO P k ops Q ds (⟨d,.call ⟨.value (.func f),VG,ts⟩,ty,ps,ed,gd⟩::r) ⟨n,e,st⟩:=by
 subst hv;subst UL;subst ha;refine Ei hg ?_;rw[EE];refine⟨hb,Gh hc hf ?_⟩;rintro r st' ⟨rfl,rfl⟩;exact⟨hp.get,hk⟩
theorem OW {tf:Tmp}{Ul:List AV}(hg:GO ds gd e)(cm:e tf=.fn f Ul)(hb:AZ P f=true)(hc:AY P f args [] λr st=>r=v/\st=rows)(ha:VG.toList.map (St.ev ⟨n,e,st⟩)++Ul=args)(hf:args.all flat=true)(hp:IE rows)(hv:shift st.length v=v')(UL:st++rows=st')
  (hk:AO P k ops Q (ds++[d]) r (St.put ⟨n,e,st'⟩ d v')):AO P k ops Q ds (⟨d,.call ⟨.value (.tmp tf),VG,ts⟩,ty,ps,ed,gd⟩::r) ⟨n,e,st⟩:=by
 subst hv;subst UL;subst ha;refine Ei hg ?_;rw[LY,show (St.mk n e st).env tf=e tf from rfl,cm];refine⟨hb,Gh hc hf ?_⟩;rintro r st' ⟨rfl,rfl⟩;exact⟨hp.get,hk⟩
theorem Nu {g:Nat}{enc':α->List AV}(hr:st[id]?=some ⟨g,el,size,l.map enc⟩)(hu :∀x,Da (enc x)=enc' x):Hl st (.own id g l.length)=.sl (l.map enc'):=by
 simp only[Hl,hr,Sr];rw[<- SF (f:=enc) (as:=l),Sy,SL,CO,Sx];congr 1;exact R8 λx _=>hu x
theorem Hj {cs:List AV}(h:cs.all simple=true):Da cs=cs:=by
 rw[DD];exact (R8 (g:=id) λc hc=>EM (Ry.1 h c hc)).trans (Sn _)
inductive BC (st:List Row):List AV->List AV->Prop
 | nil:BC st [] []
 | own {α:Type} {l:List α} {enc:α->List AV} {id g size m:Nat} {el:TypeId} {as bs:List AV} (hr:st[id]?=some ⟨g,el,size,l.map enc⟩) (hm:m=l.length) (hp :∀x,(enc x).all simple=true) (h:BC st as bs):BC st (.own id g m::as) (.sl (l.map enc)::bs)
 | ownD {α:Type} {l:List α} {enc enc':α->List AV} {id g size m:Nat} {el:TypeId} {as bs:List AV} (hr:st[id]?=some ⟨g,el,size,l.map enc⟩) (hm:m=l.length) (hp :∀x,(enc x).all BQ=true) (hu :∀x,Da (enc x)=enc' x) (h:BC st as bs):BC st (.own id g m::as) (.sl (l.map enc')::bs)
 | val {v:AV} {as bs:List AV} (hv:simple v=true) (h:BC st as bs):BC st (v::as) (v::bs)
inductive BA (st:List Row):List AV->List AV->Prop
 | nil:BA st [] []
 | own {α:Type} {l:List α} {enc:α->List AV} {id g size m:Nat} {el:TypeId} {as bs:List AV} (hr:st[id]?=some ⟨g,el,size,l.map enc⟩) (hm:m=l.length) (hp :∀x,(enc x).all simple=true) (h:BA st as bs):BA st (.own id g m::as) (.sl (l.map enc)::bs)
 | ownD {α:Type} {l:List α} {enc enc':α->List AV} {id g size m:Nat} {el:TypeId} {as bs:List AV} (hr:st[id]?=some ⟨g,el,size,l.map enc⟩) (hm:m=l.length) (hp :∀x,(enc x).all BQ=true) (hu :∀x,Da (enc x)=enc' x) (h:BA st as bs):BA st (.own id g m::as) (.sl (l.map enc')::bs)
 | agg {cs ds:List AV} {as bs:List AV} (hc:BC st cs ds) (h:BA st as bs):BA st (.agg cs::as) (.agg ds::bs)
 | val {v:AV} {as bs:List AV} (hv:flat v=true) (h:BA st as bs):BA st (v::as) (v::bs)
theorem Hk {v:AV}(h:simple v=true):Hl st v=v:=by cases v<;>simp_all [simple,Hl]
theorem BC.spec {as bs:List AV}(h:BC st as bs):as.map (Hl st)=bs/\bs.all simple=true/\∀id g n,AV.own id g n∈as->∀row,st[id]?=some row->Au row.xs:=by
 induction h with
 | nil=>exact⟨rfl,rfl,by simp⟩
 | own hr hm hp h ih=>
  obtain⟨h1,h2,h3⟩:=ih;subst hm;refine⟨by rw[SD,Nu hr (λx=>Hj (hp x)),h1],by simp[simple,h2],λUz g' n' hx row T4=>?_⟩;rcases SE.1 hx with hx|hx
  ·cases hx;rw[hr]at T4;cases T4;exact (AK hp).any
  ·exact h3 Uz g' n' hx row T4
 | ownD hr hm hp hu h ih=>
  obtain⟨h1,h2,h3⟩:=ih;subst hm;refine⟨by rw[SD,Nu hr hu,h1],by simp[simple,h2],λUz g' n' hx row T4=>?_⟩;rcases SE.1 hx with hx|hx
  ·cases hx;rw[hr]at T4;cases T4;exact Bi hp
  ·exact h3 Uz g' n' hx row T4
 | @val v as bs hv h ih=>
  obtain⟨h1,h2,h3⟩:=ih;refine⟨by rw[SD,Hk hv,h1],by simp[hv,h2],λUz g' n' hx row T4=>?_⟩;rcases SE.1 hx with hx|hx
  ·subst hx;simp[simple]at hv
  ·exact h3 Uz g' n' hx row T4
theorem BA.spec {as bs:List AV}(h:BA st as bs):as.map (C0 st)=bs/\bs.all flat=true/\∀id g n,Gt as id g n->∀row,st[id]?=some row->Au row.xs:=by
 induction h with
 | nil=>exact⟨rfl,rfl,by rintro id g n (h|⟨_,h,_⟩)<;>simp at h⟩
 | own hr hm hp h ih=>
  obtain⟨h1,h2,h3⟩:=ih;subst hm;refine⟨by rw[SD,h1];congr 1;exact Nu hr (λx=>Hj (hp x)),by simp[flat,h2],λUz g' n' hx row T4=>?_⟩;rcases hx with hx|⟨cs,hx,Uy⟩
  ·rcases SE.1 hx with hx|hx
   ·cases hx;rw[hr]at T4;cases T4;exact (AK hp).any
   ·exact h3 Uz g' n' (.inl hx) row T4
  ·rcases SE.1 hx with hx|hx
   ·cases hx
   ·exact h3 Uz g' n' (.inr ⟨cs,hx,Uy⟩) row T4
 | ownD hr hm hp hu h ih=>
  obtain⟨h1,h2,h3⟩:=ih;subst hm;refine⟨by rw[SD,h1];congr 1;exact Nu hr hu,by simp[flat,h2],λUz g' n' hx row T4=>?_⟩;rcases hx with hx|⟨cs,hx,Uy⟩
  ·rcases SE.1 hx with hx|hx
   ·cases hx;rw[hr]at T4;cases T4;exact Bi hp
   ·exact h3 Uz g' n' (.inl hx) row T4
  ·rcases SE.1 hx with hx|hx
   ·cases hx
   ·exact h3 Uz g' n' (.inr ⟨cs,hx,Uy⟩) row T4
 | agg hc h ih=>
  obtain⟨h1,h2,h3⟩:=ih;obtain⟨g1,g2,g3⟩:=hc.spec;refine⟨by rw[SD,h1];simp only[C0,g1],by simp only[Ts,h2,Bool.and_true];simpa [flat] using g2,λUz g' n' hx row T4=>?_⟩;rcases hx with hx|⟨cs,hx,Uy⟩
  ·rcases SE.1 hx with hx|hx
   ·cases hx
   ·exact h3 Uz g' n' (.inl hx) row T4
  ·rcases SE.1 hx with hx|hx
   ·cases hx;exact g3 Uz g' n' Uy row T4
   ·exact h3 Uz g' n' (.inr ⟨cs,hx,Uy⟩) row T4
 | @val v as bs hv h ih=>
  obtain⟨h1,h2,h3⟩:=ih;have e1:C0 st v=v:=by
   cases v<;>simp[flat]at hv<;>try rfl
   rename_i cs;simp only[C0];congr 1;exact (R8 (g:=id) λc hc=>Hk (hv c hc)).trans (Sn _)
  refine⟨by rw[SD,e1,h1],by simp[hv,h2],λUz g' n' hx row T4=>?_⟩;rcases hx with hx|⟨cs,hx,Uy⟩
  ·rcases SE.1 hx with hx|hx
   ·subst hx;simp[flat]at hv
   ·exact h3 Uz g' n' (.inl hx) row T4
  ·rcases SE.1 hx with hx|hx
   ·subst hx;have:=Ry.1 (show cs.all simple=true from hv) _ Uy;simp[simple]at this
   ·exact h3 Uz g' n' (.inr ⟨cs,hx,Uy⟩) row T4
def FF:List Row->Prop
 | []=>True
 | row::r=>(Au row.xs/\∀x∈row.xs,∀c∈x,Ez c=true)/\FF r
theorem FF.get:∀{l:List Row},FF l->∀row∈l,Au row.xs/\∀x∈row.xs,∀c∈x,Ez c=true
 | row::r,h,row',hm=>by
  rcases SE.1 hm with rfl|hm
  ·exact h.1
  ·exact FF.get h.2 row' hm
theorem Qs {g:Nat}(h :∀x,(enc x).all (λc=>BQ c&&Ez c)=true)(hr:FF rows):FF (⟨g,el,size,l.map enc⟩::rows):=by
 refine⟨⟨λx hx c hc=>?_,λx hx c hc=>?_⟩,hr⟩ <;>
 ·obtain⟨y,_,rfl⟩:=R9.1 hx;have:=Ry.1 (h y) c hc;simp only[SP]at this;first|exact this.1|exact this.2
theorem RM {g:Nat}(h :∀x,(enc x).all (λc=>simple c&&Ez c)=true)(hr:FF rows):FF (⟨g,el,size,l.map enc⟩::rows):=
 Qs (λx=>Ry.2 λc hc=>by
  have:=Ry.1 (h x) c hc;simp only[SP]at this⊢;exact⟨EY this.1,this.2⟩) hr
theorem Gm {as:List AV}(hg:GO ds gd e)(hb:AZ P f=true)(hc:AY P f args [] λr st=>r=v/\st=rows)(ha:VG.toList.map (St.ev ⟨n,e,st⟩)++[]=as)(hH:BA st as args)(Zi:MH v=true)(hp:FF rows)(hv:shift st.length v=v')(UL:st++rows=st')
  (hk:AO P k ops Q (ds++[d]) r (St.put ⟨n,e,st'⟩ d v')):AO P k ops Q ds (⟨d,.call ⟨.value (.func f),VG,ts⟩,ty,ps,ed,gd⟩::r) ⟨n,e,st⟩:=by
 subst hv;subst UL;subst ha;obtain⟨h1,h2,h3⟩:=hH.spec;refine Ei hg ?_;rw[EE];refine⟨hb,H4 (R:=λr st=>r=v/\st=rows) ?_ ?_ h3 ?_⟩
 ·show AY P f (List.map (C0 st) _) [] _;rw[h1];exact hc
 ·show (List.map (C0 st) _).all flat=true;rw[h1];exact h2
 ·rintro r st' ⟨rfl,rfl⟩;exact⟨⟨Zi,λrow T4=>(hp.get row T4).2⟩,λrow T4=>(hp.get row T4).1,hk⟩
end
section
variable {P : Program} {k : Nat} {Q : Exit -> St -> Prop} {s s' : St} {x y c : Code}
theorem GF {o:Operand}{b:Bool}(ho:s.ev o=.bool b)(h1:b=true->AW P k x Q s)(h2:b=false->AW P k y Q s):AW P k (.cond o x y) Q s:=
 AW.cond λK1 K2 e1 e2=>by rw[ho];exact⟨λh=>e1 (h1 h),λh=>e2 (h2 h)⟩
theorem Ae {σ:Type}(I:Nat->σ->Prop)(canon:σ->St)(n0:Nat)(v0:σ)(h0:I n0 v0)(hw:Wk k s (canon v0))(hz :∀v,¬ I 0 v)
  (round :∀n v,I (n+1) v->AW P k c (NI (λs'=>∃v',I n v'/\Wk k s' (canon v')) Q) (canon v)):AW P k (.loop c) Q s:=by
 refine AH hw ?_;have key:∀n v,I n v->∀F os a w,Rel F os (canon v) a w->∀(b:Frame) (kk:List Item) (cs:List Frame),
   ∃e a' w',Ge k Q F os w e a' w'/\Arrives P (lone (b.at a (.code c::.inLoop c::kk)) cs w) b kk cs e a' w':=by
  intro n
  induction n with
  | zero=>intro v hI;exact absurd hI (hz v)
  | succ n ih=>
   intro v hI F os a w hr b kk cs;obtain⟨e,a₁,w₁,⟨s1,F1,UU,hq,hR1,hE1⟩,harr⟩:=round n v hI F os a w hr b (.inLoop c::kk) cs;cases e with
   | normal=>
    obtain⟨v2,hI2,fV⟩:=hq;obtain⟨F2,os2,hR2,hE2⟩:=fV F1 UU a₁ w₁ hR1;obtain⟨e₂,a₂,w₂,hq₂,harr₂⟩:=ih v2 hI2 F2 os2 a₁ w₁ hR2 b kk cs;exact⟨e₂,a₂,w₂,hq₂.trans (hE1.trans hE2),.of_steps (Steps.trans harr (.one step_inLoop)) harr₂⟩
   | exit id=>exact⟨_,a₁,w₁,⟨s1,F1,UU,hq,hR1,hE1⟩,.pass (x:=.inLoop c) rfl (λ_ _=>.inl (by simp)) harr⟩
   | goto l=>exact⟨_,a₁,w₁,⟨s1,F1,UU,hq,hR1,hE1⟩,.pass (x:=.inLoop c) rfl (λ_ _=>.inl (by simp)) harr⟩
   | ret=>exact⟨_,a₁,w₁,⟨s1,F1,UU,hq,hR1,hE1⟩,.pass (x:=.inLoop c) rfl (λ_ _=>.inl (by simp)) harr⟩
   | panic ch=>exact⟨_,a₁,w₁,⟨s1,F1,UU,hq,hR1,hE1⟩,.pass (x:=.inLoop c) rfl (λ_ _=>.inl (by simp)) harr⟩
   | outgrown=>exact⟨_,a₁,w₁,⟨s1,F1,UU,hq,hR1,hE1⟩,.pass (x:=.inLoop c) rfl (λ_ _=>.inl (by simp)) harr⟩
 intro F os a w hr b kk cs;obtain⟨e,a',w',hq,harr⟩:=key n0 v0 h0 F os a w hr b kk cs;exact⟨e,a',w',hq,.of_steps (.one step_loop) harr⟩
end
end Go.Abs
