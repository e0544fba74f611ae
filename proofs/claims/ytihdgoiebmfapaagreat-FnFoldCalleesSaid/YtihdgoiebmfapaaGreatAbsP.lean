import Derived.Test.YtihdgoiebmfapaaGreatAbsO
set_option linter.all false
namespace Go.Abs
open Go
def AQ (P:Program)(s:St)(op:Op)(v:AV):Prop:=∀K:AV->Prop,K v->Je P s op K
def EL (st:List Row)(v:AV)(ys:List (List AV)):Prop:=∀K:List (List AV)->Prop,K ys->Y5 st v K
section
variable {P : Program} {s : St} {x y z c : Operand} {v : AV} {t t' : TypeId} {kk : IntKind} {a b : Int} {p q : Bool}
theorem BT (h:s.ev x=v):AQ P s (.move x) v:=λK hk=>by show K (s.ev x);rw[h];exact hk
theorem Ty (h:s.ev x=v):AQ P s (.assign x) v:=λK hk=>by show K (s.ev x);rw[h];exact hk
theorem gN {x y:AV}{K:AV->Prop}(h:K x):PU (.bool true) x y K:=by
 cases x<;>cases y<;>first|exact h|exact⟨λ_=>h,λh=>by cases h⟩
theorem fZ {x y:AV}{K:AV->Prop}(h:K y):PU (.bool false) x y K:=by
 cases x<;>cases y<;>first|exact h|exact⟨λh=>(by cases h),λ_=>h⟩
theorem KY (hc:s.ev c=.bool p)(hp:p=true)(hx:s.ev x=v):AQ P s (.pick c x y) v:=λK hk=>by
 show PU (s.ev c) (s.ev x) (s.ev y) K;rw[hc,hp,hx];exact gN hk
theorem LO (hc:s.ev c=.bool p)(hp:p=false)(hy:s.ev y=v):AQ P s (.pick c x y) v:=λK hk=>by
 show PU (s.ev c) (s.ev x) (s.ev y) K;rw[hc,hp,hy];exact fZ hk
variable (hx : s.ev x = .int kk a) (hy : s.ev y = .int kk b)
include hx hy
theorem Hu {op:BinOp}(h :∀K:AV->Prop,K v->aS op kk a b K):AQ P s (.binOp op t x y t') v:=λK hk=>by
 show WN P t op (s.ev x) (s.ev y) K;rw[hx,hy];exact⟨rfl,h K hk⟩
theorem fD:AQ P s (.binOp .add t x y t') (.int kk (Sh.wk kk (a+b))):=Hu hx hy λ_ hk=>hk
theorem ee:AQ P s (.binOp .sub t x y t') (.int kk (Sh.wk kk (a-b))):=Hu hx hy λ_ hk=>hk
theorem gT:AQ P s (.binOp .mul t x y t') (.int kk (Sh.wk kk (a*b))):=Hu hx hy λ_ hk=>hk
theorem SA {q:Int}(h:Sh.rem a b=some q):AQ P s (.binOp .rem t x y t') (.int kk q):=Hu hx hy λ_ hk=>by
 obtain⟨h1,rfl⟩:=Sh.df h;exact⟨h1,hk⟩
theorem cK:AQ P s (.binOp .lss t x y t') (.bool (decide (a<b))):=Hu hx hy λ_ hk=>hk
theorem jK:AQ P s (.binOp .leq t x y t') (.bool (decide (a<=b))):=Hu hx hy λ_ hk=>hk
theorem jh:AQ P s (.binOp .gtr t x y t') (.bool (decide (b<a))):=Hu hx hy λ_ hk=>hk
theorem jY:AQ P s (.binOp .geq t x y t') (.bool (decide (b<=a))):=Hu hx hy λ_ hk=>hk
theorem je:AQ P s (.binOp .eql t x y t') (.bool (decide (a=b))):=Hu hx hy λ_ hk=>hk
theorem ja:AQ P s (.binOp .neq t x y t') (.bool (!decide (a=b))):=Hu hx hy λ_ hk=>hk
end
section
variable {P : Program} {s : St} {x y z c : Operand} {v : AV} {t t' : TypeId} {kk : IntKind} {a b : Int} {p q : Bool}
variable (hx : s.ev x = i64 a) (hy : s.ev y = i64 b)
include hx hy
theorem SZ:AQ P s (.binOp .add t x y t') (i64 (Sh.w (a+b))):=Hu hx hy λ_ hk=>hk
theorem Oz:AQ P s (.binOp .sub t x y t') (i64 (Sh.w (a-b))):=Hu hx hy λ_ hk=>hk
theorem ic:AQ P s (.binOp .mul t x y t') (i64 (Sh.w (a*b))):=Hu hx hy λ_ hk=>hk
theorem iR:AQ P s (.binOp .xor t x y t') (i64 (Sh.xor a b)):=Hu hx hy λ_ hk=>hk
theorem VR {q:Int}(h:Sh.quo a b=some q):AQ P s (.binOp .quo t x y t') (i64 q):=Hu hx hy λ_ hk=>by
 obtain⟨h1,rfl⟩:=Sh.db h;exact⟨h1,hk⟩
theorem U9 (h:b≠0):AQ P s (.binOp .quo t x y t') (i64 (Sh.w (a.tdiv b))):=Hu hx hy λ_ hk=>⟨h,hk⟩
end
section
variable {P : Program} {s : St} {x y z c : Operand} {v : AV} {t t' : TypeId} {kk uV : IntKind} {a b : Int} {p q ag : Bool} {id g i off tr f size sz bytes m j : Nat} {cs vs : List AV} {xs : List (List AV)} {el : TypeId}
theorem gy (ht:OB P t=true)(hx:s.ev x=.bool p)(hy:s.ev y=.bool q):AQ P s (.binOp .eql t x y t') (.bool (p==q)):=λK hk=>by
 show WN P t .eql (s.ev x) (s.ev y) K;rw[hx,hy];exact⟨ht,hk⟩
theorem iH (ht:OB P t=true)(hx:s.ev x=.bool p)(hy:s.ev y=.bool q):AQ P s (.binOp .neq t x y t') (.bool (p != q)):=λK hk=>by
 show WN P t .neq (s.ev x) (s.ev y) K;rw[hx,hy];exact⟨ht,hk⟩
theorem iU (hx:s.ev x=.bool p):AQ P s (.unOp .not t x) (.bool (!p)):=λK hk=>by
 show dm .not (s.ev x) K;rw[hx];exact hk
theorem hX (hx:s.ev x=i64 a):AQ P s (.unOp .neg t x) (i64 (Sh.w (-a))):=λK hk=>by
 show dm .neg (s.ev x) K;rw[hx];exact hk
def bG (P:Program)(src dst:TypeId):Option IntKind:=
 match P.underlying src,P.underlying dst with
 | some _,some (.int k)=>some k
 | _,_=>none
theorem bh (hc:bG P t t'=some uV)(hx:s.ev x=.int kk a):AQ P s (.convert t t' x) (.int uV (Sh.wk uV a)):=λK hk=>by
 show WU P t t' (s.ev x) K;rw[hx];unfold bG at hc;unfold WU;split at hc
 ·rename_i h1 h2;simp only[lX]at hc;subst hc;simp only[h1,h2];exact hk
 ·cases hc
theorem jy (hx:s.ev x=.Dd vs)(hv:vs[i]?=some v):AQ P s (.extract x i) v:=λK hk=>by
 show QR (s.ev x) i K;rw[hx];exact Aq v hv hk
theorem cm (hx:s.ev x=.int kk a)(hy:s.ev y=.int kk b){ts:Array TypeId}:AQ P s (.call ⟨.builtin .max,#[x,y],ts⟩) (.int kk (if b > a then b else a)):=λK hk=>by
 show cf (s.ev x) (s.ev y) K;rw[hx,hy];exact hk
theorem cV (hx:s.ev x=.int kk a)(hy:s.ev y=.int kk b){ts:Array TypeId}:AQ P s (.call ⟨.builtin .min,#[x,y],ts⟩) (.int kk (if b<a then b else a)):=λK hk=>by
 show ck (s.ev x) (s.ev y) K;rw[hx,hy];exact hk
theorem bW {fn:FuncId}{rT:Array Operand}(hc:rT.toList.map s.ev=cs):AQ P s (.makeFunc (.func fn) #[] rT) (.fn fn cs):=λK hk=>by
 subst hc;exact⟨rfl,hk⟩
theorem Hv (ht:Dr P t=some (false,sz))(hx:s.ev x=.Bn cs off)(hv:cs[off]?=some v):AQ P s (.load t x) v:=λK hk=>by
 show PX P s.st t (s.ev x) K;rw[hx];exact Aq _ ht (Aq v hv hk)
theorem Hh (ht:Dr P t=some (true,sz))(hx:s.ev x=.Bn cs off)(hl:off+sz<=cs.length)(hv:(cs.drop off).take sz=vs):AQ P s (.load t x) (.agg vs):=λK hk=>by
 show PX P s.st t (s.ev x) K;rw[hx];subst hv;exact Aq _ ht ⟨hl,hk⟩
theorem CA (ht:Dr P t=some (false,sz))(hx:s.ev x=.ptr id g i off)(hr:s.st[id]?=some ⟨g,el,size,xs⟩)(hi:xs[i]?=some cs)(hv:cs[off]?=some v):AQ P s (.load t x) v:=λK hk=>by
 show PX P s.st t (s.ev x) K;rw[hx];exact Aq _ ht (Aq _ hr ⟨rfl,Aq cs hi (Aq v hv hk)⟩)
theorem As (ht:Dr P t=some (true,sz))(hx:s.ev x=.ptr id g i off)(hr:s.st[id]?=some ⟨g,el,size,xs⟩)(hi:xs[i]?=some cs)(hl:off+sz<=cs.length)(hv:(cs.drop off).take sz=vs):AQ P s (.load t x) (.agg vs):=λK hk=>by
 show PX P s.st t (s.ev x) K;rw[hx];subst hv;exact Aq _ ht (Aq _ hr ⟨rfl,Aq cs hi ⟨hl,hk⟩⟩)
theorem IV (hf:Hk P t f=some j)(hx:s.ev x=.Bn cs off)(ho:off+j=tr):AQ P s (.fieldAddr t x f) (.Bn cs tr):=λK hk=>by
 show Le P t (s.ev x) f s.st K;rw[hx];subst ho;exact Aq _ hf hk
theorem E2 (hf:Hk P t f=some j)(hx:s.ev x=.ptr id g i off)(hr:s.st[id]?=some ⟨g,el,size,xs⟩)(hl:off+j<=size)(ho:off+j=tr):AQ P s (.fieldAddr t x f) (.ptr id g i tr):=λK hk=>by
 show Le P t (s.ev x) f s.st K;rw[hx];subst ho;exact Aq _ hf (Aq _ hr ⟨rfl,hl,hk⟩)
def TH (P:Program)(t:TypeId)(f:Nat):Option (Nat×Bool×Nat):=
 match P.underlying t with
 | some (.struct fs)=>match fs[f]? with
  | some g=>match Dr P g.type with
   | some ti=>some (g.offset,ti)
   | none=>none
  | none=>none
 | _=>none
theorem VL {f o:Nat}{ti:Bool×Nat}{K:AV->Prop}(h:TH P t f=some (o,ti))(hk:LF ti.1 ti.2 cs o K):NI P t (.agg cs) f K:=by
 unfold TH at h;unfold NI;split at h
 ·rename_i fs hu;split at h
  ·rename_i gg hg;split at h
   ·rename_i ti' ht;simp only[lX,pA]at h;obtain⟨rfl,rfl⟩:=h;rw[hu];exact Aq _ hg (Aq _ ht hk)
   ·cases h
  ·cases h
 ·cases h
theorem jR (hf:TH P t f=some (off,false,sz))(hx:s.ev x=.agg cs)(hv:cs[off]?=some v):AQ P s (.field t x f) v:=λK hk=>by
 show NI P t (s.ev x) f K;rw[hx];exact VL hf (Aq v hv hk)
theorem iT (hf:TH P t f=some (off,true,sz))(hx:s.ev x=.agg cs)(hl:off+sz<=cs.length)(hv:(cs.drop off).take sz=vs):AQ P s (.field t x f) (.agg vs):=λK hk=>by
 show NI P t (s.ev x) f K;rw[hx];subst hv;exact VL hf ⟨hl,hk⟩
variable {α : Type} {l l' : List α} {enc : α -> List AV} {n : Int} {zz : List AV} {u : α}
theorem CW (h:Sh.get l n=some u):(l.map enc)[n.toNat]?=some (enc u):=by
 rw[lW,(Sh.get_some h).2.1];rfl
theorem Ch (he:Ds P t=some ⟨el,size,bytes,zz⟩)(hx:s.ev x=.sl (l.map enc))(hy:s.ev y=.int kk n)(hg:Sh.get l n=some u)(hs:(enc u).length=size):AQ P s (.indexAddr t x y) (.Bn (enc u) 0):=λK hk=>by
 show JS P s.st t (s.ev x) (s.ev y) K;rw[hx,hy];exact Aq _ he ⟨(Sh.get_some hg).1,Aq _ (CW hg) ⟨hs,hk⟩⟩
theorem CB (he:Ds P t=some ⟨el,size,bytes,zz⟩)(hx:s.ev x=.own id g m)(hy:s.ev y=.int kk n)(hr:s.st[id]?=some ⟨g,el,size,l.map enc⟩)(hm:m=l.length)(hg:Sh.get l n=some u):
  AQ P s (.indexAddr t x y) (.ptr id g n.toNat 0):=λK hk=>by
 show JS P s.st t (s.ev x) (s.ev y) K;rw[hx,hy];subst hm;exact Aq _ he ⟨(Sh.get_some hg).1,(Sh.get_some hg).2.2,Aq _ hr ⟨rfl,rfl,by simpa using hk⟩⟩
theorem Cd (hs:DW P t=true)(hx:s.ev x=.sl (l.map enc)):AQ P s (.call ⟨.builtin .len,#[x],#[t]⟩) (i64 (Sh.len l)):=λK hk=>by
 refine⟨hs,?_⟩;rw[hx];simp only[dB,ly];exact hk
theorem Cv (hs:DW P t=true)(hx:s.ev x=.own id g m)(hr:s.st[id]?=some ⟨g,el,size,l.map enc⟩)(hm:m=l.length):AQ P s (.call ⟨.builtin .len,#[x],#[t]⟩) (i64 (Sh.len l)):=λK hk=>by
 refine⟨hs,?_⟩;subst hm;rw[hx];exact Aq _ hr ⟨rfl,hk⟩
theorem aH (hs:DW P t=true)(hx:s.ev x=.zc):AQ P s (.call ⟨.builtin .len,#[x],#[t]⟩) (i64 0):=λK hk=>by
 refine⟨hs,?_⟩;rw[hx];exact hk
theorem iV (hx:s.ev x=.ptr id g i off)(hr:s.st[id]?=some ⟨g,el,size,xs⟩):AQ P s (.nilCheck x) (.ptr id g i off):=λK hk=>by
 show X3 s.st (s.ev x) K;rw[hx];exact Aq _ hr ⟨rfl,hk⟩
theorem ib (hx:s.ev x=.Bn cs off):AQ P s (.nilCheck x) (.Bn cs off):=λK hk=>by
 show X3 s.st (s.ev x) K;rw[hx];exact hk
theorem DC {parts:Array (Nat×Operand)}{fs:List (Nat×Nat)}{pv:List (Nat×AV)}(ha:Im P t=true)(hf:J7 P t=some fs)(hz:ID P t=some zz)(hp:(parts.toList.map λp=>(p.1,s.ev p.2))=pv)(hc:Mg (fs[·]?) zz pv=some cs):
  AQ P s (.build t parts) (.agg cs):=λK hk=>by
 show Y2 P t (parts.toList.map λp=>(p.1,s.ev p.2)) K;rw[hp];exact⟨ha,Aq _ hf (Aq _ hz (Aq _ hc hk))⟩
variable {st : List Row} {ys : List (List AV)}
theorem L5:EL st (.sl ys) ys:=λ_ hk=>hk
theorem HI (hr:st[id]?=some ⟨g,el,size,l.map enc⟩)(hm:m=l.length)(rf :∀x,(enc x).all AV.leaf=true:=by exact λ_=>rfl):EL st (.own id g m) (l.map enc):=λK hk=>by
 subst hm;refine Aq _ hr ⟨rfl,λy hy c hc=>?_,?_⟩
 ·obtain⟨x,_,rfl⟩:=mA.1 hy;exact lh.1 (rf x) c hc
 rw[<- ly (f:=enc) (as:=l),nL];exact⟨rfl,hk⟩
end
section
variable {P : Program} {k : Nat} {ops : Array Oper} {Q : Exit -> St -> Prop} {ds : List (Option Tmp)} {r : List Oper} {n : Nat} {e : Nat -> AV} {st st' : List Row} {op : Op} {ty : TypeId} {ps : String} {ed : Array Edge} {d : Option Tmp} {t : Tmp} {v v' : AV}
variable {jj : Nat} {want b : Bool} {tg : Tmp} {gd : Option (Nat × Bool)}
def GO (ds:List (Option Tmp))(gd:Option (Nat×Bool))(e:Nat->AV):Prop:=
 match gd with
 | none=>True
 | some (jj,want)=>∃tg,ds[jj]?=some (some tg)/\e tg=.bool want
theorem AI:GO ds none e:=lU
theorem CS (hj:ds[jj]?=some (some tg))(ht:e tg=.bool b)(hb:b=want):GO ds (some (jj,want)) e:=⟨tg,hj,by rw[ht,hb]⟩
theorem GO.guard {A B:Prop}(hg:GO ds gd e)(h:A):I2 ds ⟨d,op,ty,ps,ed,gd⟩ ⟨n,e,st⟩ A B:=by
 unfold GO at hg;unfold I2;cases gd with
 | none=>exact h
 | some q=>
  obtain⟨jj,want⟩:=q;obtain⟨tg,hj,ht⟩:=hg;simp only[hj,ht,Z9];exact⟨λ_=>h,λhh=>absurd rfl hh⟩
theorem Ba (hg:GO ds gd e)(hl:J3 op=false)(hq:AQ P ⟨n,e,st⟩ op v)(hk:AO P k ops Q (ds++[some t]) r ⟨n,EI e t v,st⟩):AO P k ops Q ds (⟨some t,op,ty,ps,ed,gd⟩::r) ⟨n,e,st⟩:=by
 refine O0 (hg.guard ?_);unfold Kx;simp only[hl,lY,mC];exact hq _ hk
theorem Mh (hg:GO ds gd e)(h:Kx P k ⟨d,op,ty,ps,ed,gd⟩ ⟨n,e,st⟩ (AO P k ops Q (ds++[d]) r)):AO P k ops Q ds (⟨d,op,ty,ps,ed,gd⟩::r) ⟨n,e,st⟩:=
 O0 (hg.guard h)
theorem fc (hj:ds[jj]?=some (some tg))(ht:e tg=.bool b)(hb:b=!want)(h:AO P k ops Q (ds++[some t]) r ⟨n,EI e t .un,st⟩):AO P k ops Q ds (⟨some t,op,ty,ps,ed,some (jj,want)⟩::r) ⟨n,e,st⟩:=by
 refine O0 ?_;subst hb;simp only[I2,hj,ht,Z9];exact⟨λh=>(by cases want<;>cases h),λ_=>h⟩
theorem et (hj:ds[jj]?=some (some tg))(ht:e tg=.un)(h:AO P k ops Q (ds++[some t]) r ⟨n,EI e t .un,st⟩):AO P k ops Q ds (⟨some t,op,ty,ps,ed,some (jj,want)⟩::r) ⟨n,e,st⟩:=by
 refine O0 ?_;simp only[I2,hj,ht,Z9];exact h
variable {KS : St -> Prop}
theorem IN (hg:GO ds gd e)(hl:J3 op=false)(hq:AQ P ⟨n,e,st⟩ op v)(hk:D7 P (ds++[some t]) r KS ⟨n,EI e t v,st⟩):D7 P ds (⟨some t,op,ty,ps,ed,gd⟩::r) KS ⟨n,e,st⟩:=by
 refine hg.guard ?_;unfold LI;simp only[hl,lY,mC];exact hq _ hk
theorem dk (hg:GO ds gd e)(hl:J3 op=true)(hq :∀s0:St,s0.st=st->(∀x∈op.operands,s0.ev x=St.ev ⟨n,e,st⟩ x)->DH s0.n (some t)=true->Yl P ⟨some t,op,ty,ps,ed,gd⟩ s0 v)(hk:D7 P (ds++[some t]) r KS ⟨n,EI e t v,st⟩):D7 P ds (⟨some t,op,ty,ps,ed,gd⟩::r) KS ⟨n,e,st⟩:=by
 refine hg.guard ?_;unfold LI;simp only[hl,mL];exact⟨v,hq,hk⟩
theorem iJ (hj:ds[jj]?=some (some tg))(ht:e tg=.bool b)(hb:b=!want)(h:D7 P (ds++[some t]) r KS ⟨n,EI e t .un,st⟩):D7 P ds (⟨some t,op,ty,ps,ed,some (jj,want)⟩::r) KS ⟨n,e,st⟩:=by
 subst hb;simp only[D7,I2,hj,ht,Z9];exact⟨λh=>(by cases want<;>cases h),λ_=>h⟩
theorem Aw {s:St}(h:KS s):D7 P ds [] KS s:=h
theorem S9 {ri:Array Operand}{f:FuncId}{ts:Array TypeId}{s0 s1:St}(h :∀x∈(Op.call ⟨.value (.func f),ri,ts⟩).operands,s0.ev x=s1.ev x):ri.toList.map s0.ev=ri.toList.map s1.ev:=
 mH λx hx=>h x (by simp[Op.operands,Call.operands];right;simpa using hx)
theorem BV {f:FuncId}{ri:Array Operand}{ts:Array TypeId}{args:List AV}(hg:GO ds gd e)(hb:Dq P f=true)(hc:Ab P f args [] λr st=>r=v/\st=[])(ha:ri.toList.map (St.ev ⟨n,e,st⟩)++[]=args)(hf:args.all flat=true)(hv:flat v=true)
  (hk:D7 P (ds++[some t]) r KS ⟨n,EI e t v,st⟩):D7 P ds (⟨some t,.call ⟨.value (.func f),ri,ts⟩,ty,ps,ed,gd⟩::r) KS ⟨n,e,st⟩:=by
 refine dk hg rfl (λs0 e1 e2 hd k F os a w hr next Q hn=>?_) hk;refine LC (k:=k) (K:=(·=s0.put (some t) v)) hr hd ?_ hn;show Dq P f=true/\callThen P k s0 f (ri.toList.map s0.ev++[]) (some t) _;rw[S9 e2,ha];exact⟨hb,Um hc hf hv rfl⟩
variable {α : Type} {l l' l2 : List α} {enc : α -> List AV} {kk uV : IntKind} {j : Int} {el T : TypeId} {size bytes sz id g i m off : Nat} {zz cs us : List AV} {x y : Operand} {xs : List (List AV)} {ag : Bool} {u u' : α}
theorem Av (hg:GO ds gd e)(hz:ID P T=some zz)(hm:st.length=m)(qz:st++[⟨0,T,zz.length,[zz]⟩]=st')(hk:AO P k ops Q (ds++[some t]) r ⟨n,EI e t (.ptr m 0 0 0),st'⟩):AO P k ops Q ds (⟨some t,.alloc T,ty,ps,ed,gd⟩::r) ⟨n,e,st⟩:=by
 subst hm;subst qz;exact Mh hg (Aq _ hz hk)
theorem Bd (hg:GO ds gd e)(hx:St.ev ⟨n,e,st⟩ x=v)(hc:Kb v=some cs)(rE:cs.isEmpty=false)(hm:st.length=m)(qz:st++[⟨0,T,cs.length,[cs]⟩]=st')(hk:AO P k ops Q (ds++[some t]) r ⟨n,EI e t (.ptr m 0 0 0),st'⟩):AO P k ops Q ds (⟨some t,.box T x,ty,ps,ed,gd⟩::r) ⟨n,e,st⟩:=by
 subst hm;subst qz;subst hx;exact Mh hg (Aq _ hc ⟨(by intro h;rw[h]at rE;cases rE),hk⟩)
theorem Am (hg:GO ds gd e)(ht:Dr P T=some (ag,sz))(hx:St.ev ⟨n,e,st⟩ x=.ptr id g i off)(hr:st[id]?=some ⟨g,el,size,xs⟩)(hi:xs[i]?=some zz)(hv:St.ev ⟨n,e,st⟩ y=v)(hc:Kb v=some cs)(hn:cs.length=sz)(hle:off+cs.length<=size)
  (qz:st.set id ⟨g,el,size,xs.set i (HG zz off cs)⟩=st') (hk:AO P k ops Q (ds++[none]) r ⟨n,e,st'⟩):AO P k ops Q ds (⟨none,.store T x y,ty,ps,ed,gd⟩::r) ⟨n,e,st⟩:=by
 subst qz;subst hv;refine Mh hg ?_;rw[eA,hx];exact Aq _ ht (Aq _ hr ⟨rfl,Aq _ hi (Aq _ hc ⟨hn,hle,hk⟩)⟩)
theorem aZ {j:Int}:(l.map enc).set j.toNat (enc u)=(Sh.put l j u).map enc:=by simp[Sh.put,nj]
theorem J8 (hg:GO ds gd e)(ht:Dr P T=some (ag,sz))(hx:St.ev ⟨n,e,st⟩ x=.ptr id g j.toNat off)(hr:st[id]?=some ⟨g,el,size,l.map enc⟩)(hi:Sh.get l j=some u)(hv:St.ev ⟨n,e,st⟩ y=v)(hc:Kb v=some cs)(hn:cs.length=sz)(hle:off+cs.length<=size)
  (hsp:HG (enc u) off cs=enc u') (qz:st.set id ⟨g,el,size,(Sh.put l j u').map enc⟩=st') (hk:AO P k ops Q (ds++[none]) r ⟨n,e,st'⟩):AO P k ops Q ds (⟨none,.store T x y,ty,ps,ed,gd⟩::r) ⟨n,e,st⟩:=
 Am hg ht hx hr (CW hi) hv hc hn hle (by rw[hsp,aZ];exact qz) hk
theorem Vi (hg:GO ds gd e)(he:Ds P T=some ⟨el,size,bytes,zz⟩)(hx:St.ev ⟨n,e,st⟩ x=.int kk j)(hy:St.ev ⟨n,e,st⟩ y=.int uV j)(hz:enc u=zz)(hl:Sh.mk u j bytes=some l)(hm:st.length=m)(qz:st++[⟨0,el,size,l.map enc⟩]=st')
  (hk:AO P k ops Q (ds++[some t]) r ⟨n,EI e t (.own m 0 l.length),st'⟩):AO P k ops Q ds (⟨some t,.makeSlice T x y,ty,ps,ed,gd⟩::r) ⟨n,e,st⟩:=by
 subst hm;subst qz;subst hz;refine Mh hg ?_;rw[XE];unfold Sh.mk at hl;split at hl
 ·rename_i h;simp only[lX]at hl;subst hl;rw[hx,hy];simp only[pM,om]at hk;exact Aq _ he ⟨rfl,h.1,h.2.1,h.2.2,hk⟩
 ·cases hl
theorem BF {len:Nat}{parts:Array (Nat×Operand)}{pv:List (Nat×AV)}(hg:GO ds gd e)(he:Ds P T=some ⟨el,size,bytes,zz⟩)(hle:len*size<=16777216)(hp:(parts.toList.map λp=>(p.1,St.ev ⟨n,e,st⟩ p.2))=pv)
  (hc:Mg (λi=>some (i*size,size)) ((List.replicate len zz).flatten) pv=some cs) (hck:chunk size len cs=l.map enc) (yb:len=l.length) (hm:st.length=m) (qz:st++[⟨0,el,size,l.map enc⟩]=st') (hk:AO P k ops Q (ds++[some t]) r ⟨n,EI e t (.own m 0 l.length),st'⟩) :
  AO P k ops Q ds (⟨some t,.buildSlice T len parts,ty,ps,ed,gd⟩::r) ⟨n,e,st⟩:=by
 subst hm;subst qz;subst yb;refine Mh hg ?_;rw[VY,hp];exact Aq _ he ⟨hle,Aq _ hc (by rw[hck];exact hk)⟩
theorem Cz {ys:AV}(hg:GO ds gd e)(he:Ds P T=some ⟨el,size,bytes,zz⟩)(hx:St.ev ⟨n,e,st⟩ x=.own id g m)(hr:st[id]?=some ⟨g,el,size,l.map enc⟩)(hm:m=l.length)(hy:St.ev ⟨n,e,st⟩ y=ys)(wO:EL st ys (l2.map enc))(hs :∀a,(enc a).length=size)(ha:Sh.app l l2 bytes=some l')
  (qz:st.set id ⟨g+1,el,size,l'.map enc⟩=st') (hk:AO P k ops Q (ds++[some t]) r ⟨n,EI e t (.own id (g+1) l'.length),st'⟩):AO P k ops Q ds (⟨some t,.call ⟨.builtin .append,#[x,y],#[T,T]⟩,ty,ps,ed,gd⟩::r) ⟨n,e,st⟩:=by
 subst qz;subst hy;subst hm;refine Mh hg ?_;rw[Wd];refine⟨rfl,?_⟩;rw[hx];unfold Sh.app at ha;split at ha
 ·rename_i h;simp only[lX]at ha;subst ha;refine Aq _ he (wO _ ⟨λz hz=>?_,Aq _ hr ⟨rfl,(ly _).symm,rfl,rfl,by simpa using h.1,by simpa using h.2,?_⟩⟩)
  ·obtain⟨q,_,rfl⟩:=mA.1 hz;exact hs q
  ·have e1:(l.map enc).take l.length=l.map enc:=by rw[<- ly (f:=enc) (as:=l),nL]
   have e2:l.length+(l2.map enc).length=(l++l2).length:=by simp
   simp only[e1,e2,<- nI];exact hk
 ·cases ha
theorem cc {yc:Operand}(hg:GO ds gd e)(he:Ds P T=some ⟨el,size,bytes,zz⟩)(hx:St.ev ⟨n,e,st⟩ x=.own id g m)(hr:st[id]?=some ⟨g,el,size,l.map enc⟩)(hm:m=l.length)(hh:St.ev ⟨n,e,st⟩ yc=.int kk j)(hl:Sh.hi l j=some l')
  (qz:st.set id ⟨g+1,el,size,l'.map enc⟩=st') (hk:AO P k ops Q (ds++[some t]) r ⟨n,EI e t (.own id (g+1) l'.length),st'⟩):AO P k ops Q ds (⟨some t,.slice T x none (some yc) none,ty,ps,ed,gd⟩::r) ⟨n,e,st⟩:=by
 subst qz;subst hm;refine Mh hg ?_;rw[TD];simp only[mZ,ph];rw[hx,hh];unfold Sh.hi at hl;split at hl
 ·rename_i h;simp only[lX]at hl;subst hl;refine Aq _ he (Aq _ hr ⟨rfl,(ly _).symm,rfl,Aq _ rfl ⟨h.1,h.2,?_⟩⟩);have e1:(l.take j.toNat).length=j.toNat:=by rw[nq];omega
  rw[e1,List.map_take]at hk;exact hk
 ·cases hl
theorem SU {lo hi:Option Operand}{i j:Int}(hg:GO ds gd e)(he:Ds P T=some ⟨el,size,bytes,zz⟩)(hx:St.ev ⟨n,e,st⟩ x=.sl (l.map enc))(h1:To (lo.map (St.ev ⟨n,e,st⟩)) 0=some i)(h2:To (hi.map (St.ev ⟨n,e,st⟩)) l.length=some j)(hs :∀a,(enc a).length=size)(hl:Sh.sl l i j=some l')
  (hk:AO P k ops Q (ds++[some t]) r ⟨n,EI e t (.sl (l'.map enc)),st⟩):AO P k ops Q ds (⟨some t,.slice T x lo hi none,ty,ps,ed,gd⟩::r) ⟨n,e,st⟩:=by
 refine Mh hg ?_;rw[TD];simp only[ph];rw[hx];unfold Sh.sl at hl;split at hl
 ·rename_i h;simp only[lX]at hl;subst hl;refine Aq _ he (Aq _ h1 (Aq _ (by rw[ly];exact h2) ⟨h.1,h.2.1,by simpa using h.2.2,λz hz=>?_,?_⟩))
  ·obtain⟨q,_,rfl⟩:=mA.1 hz;exact hs q
  ·rw[List.map_drop,List.map_take]at hk;exact hk
 ·cases hl
theorem U5 (hg:GO ds gd e)(hs:DW P T=true)(hx:St.ev ⟨n,e,st⟩ x=.sl (l.map enc))(h1:l=[]->AO P k ops Q (ds++[some t]) r ⟨n,EI e t (.bool true),st⟩)(h2:AO P k ops Q (ds++[some t]) r ⟨n,EI e t (.bool false),st⟩){yT:TypeId}:
  AO P k ops Q ds (⟨some t,.binOp .eql T x (.const (.slice none 0 0)) yT,ty,ps,ed,gd⟩::r) ⟨n,e,st⟩:=by
 refine Mh hg ?_;rw[ZN];refine⟨hs,?_⟩;rw[hx];exact⟨λh=>h1 (oT.1 h),h2⟩
def Vu:List Row->Prop
 | []=>True
 | row::r=>DG row.xs/\Vu r
theorem Vu.get:∀{l:List Row},Vu l->∀row∈l,DG row.xs
 | row::r,h,tq,hm=>by
  rcases lk.1 hm with rfl|hm
  ·exact h.1
  ·exact Vu.get h.2 tq hm
variable {f : FuncId} {ri : Array Operand} {ts : Array TypeId} {args : List AV} {rows : List Row} {s : St}
theorem CH (hg:GO ds gd e)(hb:Dq P f=true)(hc:Ab P f args [] λr st=>r=v/\st=rows)(ha:ri.toList.map (St.ev ⟨n,e,st⟩)++[]=args)(hf:args.all flat=true)(hp:Vu rows)(hv:shift st.length v=v')(qz:st++rows=st')
  (hk:AO P k ops Q (ds++[d]) r (St.put ⟨n,e,st'⟩ d v')):AO P k ops Q ds (⟨d,.call ⟨.value (.func f),ri,ts⟩,ty,ps,ed,gd⟩::r) ⟨n,e,st⟩:=by
 subst hv;subst qz;subst ha;refine Mh hg ?_;rw[Nf];refine⟨hb,Wx hc hf ?_⟩;rintro r st' ⟨rfl,rfl⟩;exact⟨hp.get,hk⟩
theorem dG {g:Nat}{sB:α->List AV}(hr:st[id]?=some ⟨g,el,size,l.map enc⟩)(hu :∀x,Hy (enc x)=sB x):Sz st (.own id g l.length)=.sl (l.map sB):=by
 simp only[Sz,hr,mL];rw[<- ly (f:=enc) (as:=l),nW,nQ,IF,nU];congr 1;exact mH λx _=>hu x
theorem SP {cs:List AV}(h:cs.all simple=true):Hy cs=cs:=by
 rw[Ns];exact (mH (g:=id) λc hc=>UD (lh.1 h c hc)).trans (nH _)
inductive BC (st:List Row):List AV->List AV->Prop
 | nil:BC st [] []
 | own {α:Type} {l:List α} {enc:α->List AV} {id g size m:Nat} {el:TypeId} {as bs:List AV} (hr:st[id]?=some ⟨g,el,size,l.map enc⟩) (hm:m=l.length) (hp :∀x,(enc x).all simple=true) (h:BC st as bs):BC st (.own id g m::as) (.sl (l.map enc)::bs)
 | ownD {α:Type} {l:List α} {enc sB:α->List AV} {id g size m:Nat} {el:TypeId} {as bs:List AV} (hr:st[id]?=some ⟨g,el,size,l.map enc⟩) (hm:m=l.length) (hp :∀x,(enc x).all Ee=true) (hu :∀x,Hy (enc x)=sB x) (h:BC st as bs):BC st (.own id g m::as) (.sl (l.map sB)::bs)
 | val {v:AV} {as bs:List AV} (hv:simple v=true) (h:BC st as bs):BC st (v::as) (v::bs)
inductive BA (st:List Row):List AV->List AV->Prop
 | nil:BA st [] []
 | own {α:Type} {l:List α} {enc:α->List AV} {id g size m:Nat} {el:TypeId} {as bs:List AV} (hr:st[id]?=some ⟨g,el,size,l.map enc⟩) (hm:m=l.length) (hp :∀x,(enc x).all simple=true) (h:BA st as bs):BA st (.own id g m::as) (.sl (l.map enc)::bs)
 | ownD {α:Type} {l:List α} {enc sB:α->List AV} {id g size m:Nat} {el:TypeId} {as bs:List AV} (hr:st[id]?=some ⟨g,el,size,l.map enc⟩) (hm:m=l.length) (hp :∀x,(enc x).all Ee=true) (hu :∀x,Hy (enc x)=sB x) (h:BA st as bs):BA st (.own id g m::as) (.sl (l.map sB)::bs)
 | agg {cs ds:List AV} {as bs:List AV} (hc:BC st cs ds) (h:BA st as bs):BA st (.agg cs::as) (.agg ds::bs)
 | val {v:AV} {as bs:List AV} (hv:flat v=true) (h:BA st as bs):BA st (v::as) (v::bs)
theorem S3 {v:AV}(h:simple v=true):Sz st v=v:=by cases v<;>simp_all [simple,Sz]
theorem BC.spec {as bs:List AV}(h:BC st as bs):as.map (Sz st)=bs/\bs.all simple=true/\∀id g n,AV.own id g n∈as->∀row,st[id]?=some row->DG row.xs:=by
 induction h with
 | nil=>exact⟨rfl,rfl,by simp⟩
 | own hr hm hp h ih=>
  obtain⟨h1,h2,h3⟩:=ih;subst hm;refine⟨by rw[mF,dG hr (λx=>SP (hp x)),h1],by simp[simple,h2],λrN g' n' hx row qc=>?_⟩;rcases lk.1 hx with hx|hx
  ·cases hx;rw[hr]at qc;cases qc;exact (AD hp).any
  ·exact h3 rN g' n' hx row qc
 | ownD hr hm hp hu h ih=>
  obtain⟨h1,h2,h3⟩:=ih;subst hm;refine⟨by rw[mF,dG hr hu,h1],by simp[simple,h2],λrN g' n' hx row qc=>?_⟩;rcases lk.1 hx with hx|hx
  ·cases hx;rw[hr]at qc;cases qc;exact Ah hp
  ·exact h3 rN g' n' hx row qc
 | @val v as bs hv h ih=>
  obtain⟨h1,h2,h3⟩:=ih;refine⟨by rw[mF,S3 hv,h1],by simp[hv,h2],λrN g' n' hx row qc=>?_⟩;rcases lk.1 hx with hx|hx
  ·subst hx;simp[simple]at hv
  ·exact h3 rN g' n' hx row qc
theorem BA.spec {as bs:List AV}(h:BA st as bs):as.map (HZ st)=bs/\bs.all flat=true/\∀id g n,QK as id g n->∀row,st[id]?=some row->DG row.xs:=by
 induction h with
 | nil=>exact⟨rfl,rfl,by rintro id g n (h|⟨_,h,_⟩)<;>simp at h⟩
 | own hr hm hp h ih=>
  obtain⟨h1,h2,h3⟩:=ih;subst hm;refine⟨by rw[mF,h1];congr 1;exact dG hr (λx=>SP (hp x)),by simp[flat,h2],λrN g' n' hx row qc=>?_⟩;rcases hx with hx|⟨cs,hx,re⟩
  ·rcases lk.1 hx with hx|hx
   ·cases hx;rw[hr]at qc;cases qc;exact (AD hp).any
   ·exact h3 rN g' n' (.inl hx) row qc
  ·rcases lk.1 hx with hx|hx
   ·cases hx
   ·exact h3 rN g' n' (.inr ⟨cs,hx,re⟩) row qc
 | ownD hr hm hp hu h ih=>
  obtain⟨h1,h2,h3⟩:=ih;subst hm;refine⟨by rw[mF,h1];congr 1;exact dG hr hu,by simp[flat,h2],λrN g' n' hx row qc=>?_⟩;rcases hx with hx|⟨cs,hx,re⟩
  ·rcases lk.1 hx with hx|hx
   ·cases hx;rw[hr]at qc;cases qc;exact Ah hp
   ·exact h3 rN g' n' (.inl hx) row qc
  ·rcases lk.1 hx with hx|hx
   ·cases hx
   ·exact h3 rN g' n' (.inr ⟨cs,hx,re⟩) row qc
 | agg hc h ih=>
  obtain⟨h1,h2,h3⟩:=ih;obtain⟨g1,g2,g3⟩:=hc.spec;refine⟨by rw[mF,h1];simp only[HZ,g1],by simp only[ns,h2,Bool.and_true];simpa [flat] using g2,λrN g' n' hx row qc=>?_⟩;rcases hx with hx|⟨cs,hx,re⟩
  ·rcases lk.1 hx with hx|hx
   ·cases hx
   ·exact h3 rN g' n' (.inl hx) row qc
  ·rcases lk.1 hx with hx|hx
   ·cases hx;exact g3 rN g' n' re row qc
   ·exact h3 rN g' n' (.inr ⟨cs,hx,re⟩) row qc
 | @val v as bs hv h ih=>
  obtain⟨h1,h2,h3⟩:=ih;have e1:HZ st v=v:=by
   cases v<;>simp[flat]at hv<;>try rfl
   rename_i cs;simp only[HZ];congr 1;exact (mH (g:=id) λc hc=>S3 (hv c hc)).trans (nH _)
  refine⟨by rw[mF,e1,h1],by simp[hv,h2],λrN g' n' hx row qc=>?_⟩;rcases hx with hx|⟨cs,hx,re⟩
  ·rcases lk.1 hx with hx|hx
   ·subst hx;simp[flat]at hv
   ·exact h3 rN g' n' (.inl hx) row qc
  ·rcases lk.1 hx with hx|hx
   ·subst hx;have:=lh.1 (show cs.all simple=true from hv) _ re;simp[simple]at this
   ·exact h3 rN g' n' (.inr ⟨cs,hx,re⟩) row qc
def O1:List Row->Prop
 | []=>True
 | row::r=>(DG row.xs/\∀x∈row.xs,∀c∈x,Nj c=true)/\O1 r
theorem O1.get:∀{l:List Row},O1 l->∀row∈l,DG row.xs/\∀x∈row.xs,∀c∈x,Nj c=true
 | row::r,h,tq,hm=>by
  rcases lk.1 hm with rfl|hm
  ·exact h.1
  ·exact O1.get h.2 tq hm
theorem jM {g:Nat}(h :∀x,(enc x).all (λc=>Ee c&&Nj c)=true)(hr:O1 rows):O1 (⟨g,el,size,l.map enc⟩::rows):=by
 refine⟨⟨λx hx c hc=>?_,λx hx c hc=>?_⟩,hr⟩ <;>
 ·obtain⟨y,_,rfl⟩:=mA.1 hx;have:=lh.1 (h y) c hc;simp only[mE]at this;first|exact this.1|exact this.2
theorem jF {g:Nat}(h :∀x,(enc x).all (λc=>simple c&&Nj c)=true)(hr:O1 rows):O1 (⟨g,el,size,l.map enc⟩::rows):=
 jM (λx=>lh.2 λc hc=>by
  have:=lh.1 (h x) c hc;simp only[mE]at this⊢;exact⟨PB this.1,this.2⟩) hr
theorem MP {as:List AV}(hg:GO ds gd e)(hb:Dq P f=true)(hc:Ab P f args [] λr st=>r=v/\st=rows)(ha:ri.toList.map (St.ev ⟨n,e,st⟩)++[]=as)(hba:BA st as args)(hsc:cv v=true)(hp:O1 rows)(hv:shift st.length v=v')(qz:st++rows=st')
  (hk:AO P k ops Q (ds++[d]) r (St.put ⟨n,e,st'⟩ d v')):AO P k ops Q ds (⟨d,.call ⟨.value (.func f),ri,ts⟩,ty,ps,ed,gd⟩::r) ⟨n,e,st⟩:=by
 subst hv;subst qz;subst ha;obtain⟨h1,h2,h3⟩:=hba.spec;refine Mh hg ?_;rw[Nf];refine⟨hb,OP (R:=λr st=>r=v/\st=rows) ?_ ?_ h3 ?_⟩
 ·show Ab P f (List.map (HZ st) _) [] _;rw[h1];exact hc
 ·show (List.map (HZ st) _).all flat=true;rw[h1];exact h2
 ·rintro r st' ⟨rfl,rfl⟩;exact⟨⟨hsc,λrow qc=>(hp.get row qc).2⟩,λrow qc=>(hp.get row qc).1,hk⟩
theorem ZR {as:List AV}{KS:St->Prop}{t:Tmp}(hg:GO ds gd e)(hb:Dq P f=true)(hc:Ab P f args [] λr st=>r=v/\st=[])(ha:ri.toList.map (St.ev ⟨n,e,st⟩)++[]=as)(hba:BA st as args)(hsc:cv v=true)(hv:shift st.length v=v')
  (hk:D7 P (ds++[some t]) r KS ⟨n,EI e t v',st⟩):D7 P ds (⟨some t,.call ⟨.value (.func f),ri,ts⟩,ty,ps,ed,gd⟩::r) KS ⟨n,e,st⟩:=by
 subst hv;subst ha;obtain⟨h1,h2,h3⟩:=hba.spec;refine dk hg rfl (λs0 e1 e2 hd k F os a w hr next Q hn=>?_) hk;refine LC (k:=k) (K:=(·=s0.put (some t) (shift st.length v))) hr hd ?_ hn;show Dq P f=true/\callThen P k s0 f (ri.toList.map s0.ev++[]) (some t) _;rw[S9 e2];refine⟨hb,?_⟩;subst e1;refine OP (R:=λr st'=>r=v/\st'=[]) ?_ ?_ h3 ?_
 ·show Ab P f (List.map (HZ s0.st) _) [] _;rw[h1];exact hc
 ·show (List.map (HZ s0.st) _).all flat=true;rw[h1];exact h2
 ·rintro r st' ⟨rfl,rfl⟩;refine⟨⟨hsc,by simp⟩,by simp,?_⟩;rw[mn]
end
section
variable {P : Program} {k : Nat} {Q : Exit -> St -> Prop} {s s' : St} {x y c : Code}
theorem GY {o:Operand}{b:Bool}(ho:s.ev o=.bool b)(h1:b=true->AW P k x Q s)(h2:b=false->AW P k y Q s):AW P k (.cond o x y) Q s:=
 AW.cond λK1 K2 e1 e2=>by rw[ho];exact⟨λh=>e1 (h1 h),λh=>e2 (h2 h)⟩
theorem Ax {σ:Type}(I:Nat->σ->Prop)(canon:σ->St)(n0:Nat)(v0:σ)(h0:I n0 v0)(hw:Wk k s (canon v0))(hz :∀v,¬ I 0 v)
  (round :∀n v,I (n+1) v->AW P k c (Kk (λs'=>∃v',I n v'/\Wk k s' (canon v')) Q) (canon v)):AW P k (.loop c) Q s:=by
 refine AK hw ?_;have key:∀n v,I n v->∀F os a w,Rel F os (canon v) a w->∀(b:Frame) (kk:List Item) (cs:List Frame),
   ∃e a' w',KN k Q F os w e a' w'/\Arrives P (lone (b.at a (.code c::.inLoop c::kk)) cs w) b kk cs e a' w':=by
  intro n
  induction n with
  | zero=>intro v hI;exact absurd hI (hz v)
  | succ n ih=>
   intro v hI F os a w hr b kk cs;obtain⟨e,a₁,w₁,⟨s1,F1,rL,hq,hR1,hE1⟩,harr⟩:=round n v hI F os a w hr b (.inLoop c::kk) cs;cases e with
   | normal=>
    obtain⟨v2,hI2,hw2⟩:=hq;obtain⟨F2,os2,hR2,hE2⟩:=hw2 F1 rL a₁ w₁ hR1;obtain⟨e₂,a₂,w₂,hq₂,harr₂⟩:=ih v2 hI2 F2 os2 a₁ w₁ hR2 b kk cs;exact⟨e₂,a₂,w₂,hq₂.trans (hE1.trans hE2),.of_steps (Steps.trans harr (.one step_inLoop)) harr₂⟩
   | exit id=>exact⟨_,a₁,w₁,⟨s1,F1,rL,hq,hR1,hE1⟩,.pass (x:=.inLoop c) rfl (λ_ _=>.inl (by simp)) harr⟩
   | goto l=>exact⟨_,a₁,w₁,⟨s1,F1,rL,hq,hR1,hE1⟩,.pass (x:=.inLoop c) rfl (λ_ _=>.inl (by simp)) harr⟩
   | ret=>exact⟨_,a₁,w₁,⟨s1,F1,rL,hq,hR1,hE1⟩,.pass (x:=.inLoop c) rfl (λ_ _=>.inl (by simp)) harr⟩
   | panic ch=>exact⟨_,a₁,w₁,⟨s1,F1,rL,hq,hR1,hE1⟩,.pass (x:=.inLoop c) rfl (λ_ _=>.inl (by simp)) harr⟩
   | outgrown=>exact⟨_,a₁,w₁,⟨s1,F1,rL,hq,hR1,hE1⟩,.pass (x:=.inLoop c) rfl (λ_ _=>.inl (by simp)) harr⟩
 intro F os a w hr b kk cs;obtain⟨e,a',w',hq,harr⟩:=key n0 v0 h0 F os a w hr b kk cs;exact⟨e,a',w',hq,.of_steps (.one step_loop) harr⟩
end
end Go.Abs
