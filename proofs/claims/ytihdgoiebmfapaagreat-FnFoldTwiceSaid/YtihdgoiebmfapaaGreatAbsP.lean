import Derived.Test.YtihdgoiebmfapaaGreatAbsO
namespace Go.Abs
open Go
def AQ (P:Program)(s:St)(op:Op)(v:AV):Prop:=∀K:AV->Prop,K v->JV P s op K
def EL (st:List Row)(v:AV)(ys:List (List AV)):Prop:=∀K:List (List AV)->Prop,K ys->YD st v K
section
variable {P : Program} {s : St} {x y z c : Operand} {v : AV} {t t' : TypeId} {kk : IntKind} {a b : Int} {p q : Bool}
theorem BT (h:s.ev x=v):AQ P s (.move x) v:=λK hk=>by show K (s.ev x);rw[h];exact hk
theorem Sk (h:s.ev x=v):AQ P s (.assign x) v:=λK hk=>by show K (s.ev x);rw[h];exact hk
theorem dT {x y:AV}{K:AV->Prop}(h:K x):Pa (.bool true) x y K:=by
 cases x<;>cases y<;>first|exact h|exact⟨λ_=>h,λh=>by cases h⟩
theorem dk {x y:AV}{K:AV->Prop}(h:K y):Pa (.bool false) x y K:=by
 cases x<;>cases y<;>first|exact h|exact⟨λh=>(by cases h),λ_=>h⟩
theorem KY (hc:s.ev c=.bool p)(hp:p=true)(hx:s.ev x=v):AQ P s (.pick c x y) v:=λK hk=>by
 show Pa (s.ev c) (s.ev x) (s.ev y) K;rw[hc,hp,hx];exact dT hk
theorem Ku (hc:s.ev c=.bool p)(hp:p=false)(hy:s.ev y=v):AQ P s (.pick c x y) v:=λK hk=>by
 show Pa (s.ev c) (s.ev x) (s.ev y) K;rw[hc,hp,hy];exact dk hk
variable (hx : s.ev x = .int kk a) (hy : s.ev y = .int kk b)
include hx hy
theorem Hf {op:BinOp}(h :∀K:AV->Prop,K v->Yp op kk a b K):AQ P s (.binOp op t x y t') v:=λK hk=>by
 show Vf P t op (s.ev x) (s.ev y) K;rw[hx,hy];exact⟨rfl,h K hk⟩
theorem du:AQ P s (.binOp .add t x y t') (.int kk (Sh.wk kk (a+b))):=Hf hx hy λ_ hk=>hk
theorem eY:AQ P s (.binOp .sub t x y t') (.int kk (Sh.wk kk (a-b))):=Hf hx hy λ_ hk=>hk
theorem dY:AQ P s (.binOp .mul t x y t') (.int kk (Sh.wk kk (a*b))):=Hf hx hy λ_ hk=>hk
theorem Rc {q:Int}(h:Sh.rem a b=some q):AQ P s (.binOp .rem t x y t') (.int kk q):=Hf hx hy λ_ hk=>by
 obtain⟨h1,rfl⟩:=Sh.cM h;exact⟨h1,hk⟩
theorem af:AQ P s (.binOp .lss t x y t') (.bool (decide (a<b))):=Hf hx hy λ_ hk=>hk
theorem gv:AQ P s (.binOp .leq t x y t') (.bool (decide (a<=b))):=Hf hx hy λ_ hk=>hk
theorem gz:AQ P s (.binOp .gtr t x y t') (.bool (decide (b<a))):=Hf hx hy λ_ hk=>hk
theorem gY:AQ P s (.binOp .geq t x y t') (.bool (decide (b<=a))):=Hf hx hy λ_ hk=>hk
theorem gx:AQ P s (.binOp .eql t x y t') (.bool (decide (a=b))):=Hf hx hy λ_ hk=>hk
theorem gb:AQ P s (.binOp .neq t x y t') (.bool (!decide (a=b))):=Hf hx hy λ_ hk=>hk
end
section
variable {P : Program} {s : St} {x y z c : Operand} {v : AV} {t t' : TypeId} {kk : IntKind} {a b : Int} {p q : Bool}
variable (hx : s.ev x = i64 a) (hy : s.ev y = i64 b)
include hx hy
theorem R3:AQ P s (.binOp .add t x y t') (i64 (Sh.w (a+b))):=Hf hx hy λ_ hk=>hk
theorem ON:AQ P s (.binOp .sub t x y t') (i64 (Sh.w (a-b))):=Hf hx hy λ_ hk=>hk
theorem fQ:AQ P s (.binOp .mul t x y t') (i64 (Sh.w (a*b))):=Hf hx hy λ_ hk=>hk
theorem fI:AQ P s (.binOp .xor t x y t') (i64 (Sh.xor a b)):=Hf hx hy λ_ hk=>hk
theorem VT {q:Int}(h:Sh.quo a b=some q):AQ P s (.binOp .quo t x y t') (i64 q):=Hf hx hy λ_ hk=>by
 obtain⟨h1,rfl⟩:=Sh.bc h;exact⟨h1,hk⟩
theorem UP (h:b≠0):AQ P s (.binOp .quo t x y t') (i64 (Sh.w (a.tdiv b))):=Hf hx hy λ_ hk=>⟨h,hk⟩
end
section
variable {P : Program} {s : St} {x y z c : Operand} {v : AV} {t t' : TypeId} {kk kk' : IntKind} {a b : Int} {p q ag : Bool} {id g i off off' f size sz bytes m j : Nat} {cs vs : List AV} {xs : List (List AV)} {el : TypeId}
theorem fE (ht:Nu P t=true)(hx:s.ev x=.bool p)(hy:s.ev y=.bool q):AQ P s (.binOp .eql t x y t') (.bool (p==q)):=λK hk=>by
 show Vf P t .eql (s.ev x) (s.ev y) K;rw[hx,hy];exact⟨ht,hk⟩
theorem fc (ht:Nu P t=true)(hx:s.ev x=.bool p)(hy:s.ev y=.bool q):AQ P s (.binOp .neq t x y t') (.bool (p != q)):=λK hk=>by
 show Vf P t .neq (s.ev x) (s.ev y) K;rw[hx,hy];exact⟨ht,hk⟩
theorem fN (hx:s.ev x=.bool p):AQ P s (.unOp .not t x) (.bool (!p)):=λK hk=>by
 show cI .not (s.ev x) K;rw[hx];exact hk
theorem fC (hx:s.ev x=i64 a):AQ P s (.unOp .neg t x) (i64 (Sh.w (-a))):=λK hk=>by
 show cI .neg (s.ev x) K;rw[hx];exact hk
def aQ (P:Program)(src dst:TypeId):Option IntKind:=
 match P.underlying src,P.underlying dst with
 | some _,some (.int k)=>some k
 | _,_=>none
theorem aC (hc:aQ P t t'=some kk')(hx:s.ev x=.int kk a):AQ P s (.convert t t' x) (.int kk' (Sh.wk kk' a)):=λK hk=>by
 show VJ P t t' (s.ev x) K;rw[hx];unfold aQ at hc;unfold VJ;split at hc
 ·rename_i h1 h2;simp only[jh]at hc;subst hc;simp only[h1,h2];exact hk
 ·cases hc
theorem gV (hx:s.ev x=.Dw vs)(hv:vs[i]?=some v):AQ P s (.extract x i) v:=λK hk=>by
 show Pt (s.ev x) i K;rw[hx];exact Ap v hv hk
theorem bY (hx:s.ev x=.int kk a)(hy:s.ev y=.int kk b){ts:Array TypeId}:AQ P s (.call ⟨.builtin .max,#[x,y],ts⟩) (.int kk (if b > a then b else a)):=λK hk=>by
 show bH (s.ev x) (s.ev y) K;rw[hx,hy];exact hk
theorem au (hx:s.ev x=.int kk a)(hy:s.ev y=.int kk b){ts:Array TypeId}:AQ P s (.call ⟨.builtin .min,#[x,y],ts⟩) (.int kk (if b<a then b else a)):=λK hk=>by
 show bA (s.ev x) (s.ev y) K;rw[hx,hy];exact hk
theorem eJ {fn:FuncId}{caps:Array Operand}(hc:caps.toList.map s.ev=cs):AQ P s (.makeFunc (.func fn) #[] caps) (.fn fn cs):=λK hk=>by
 subst hc;exact⟨rfl,hk⟩
theorem Hg (ht:D7 P t=some (false,sz))(hx:s.ev x=.Bh cs off)(hv:cs[off]?=some v):AQ P s (.load t x) v:=λK hk=>by
 show PZ P s.st t (s.ev x) K;rw[hx];exact Ap _ ht (Ap v hv hk)
theorem HT (ht:D7 P t=some (true,sz))(hx:s.ev x=.Bh cs off)(hl:off+sz<=cs.length)(hv:(cs.drop off).take sz=vs):AQ P s (.load t x) (.agg vs):=λK hk=>by
 show PZ P s.st t (s.ev x) K;rw[hx];subst hv;exact Ap _ ht ⟨hl,hk⟩
theorem By (ht:D7 P t=some (false,sz))(hx:s.ev x=.ptr id g i off)(hr:s.st[id]?=some ⟨g,el,size,xs⟩)(hi:xs[i]?=some cs)(hv:cs[off]?=some v):AQ P s (.load t x) v:=λK hk=>by
 show PZ P s.st t (s.ev x) K;rw[hx];exact Ap _ ht (Ap _ hr ⟨rfl,Ap cs hi (Ap v hv hk)⟩)
theorem Ar (ht:D7 P t=some (true,sz))(hx:s.ev x=.ptr id g i off)(hr:s.st[id]?=some ⟨g,el,size,xs⟩)(hi:xs[i]?=some cs)(hl:off+sz<=cs.length)(hv:(cs.drop off).take sz=vs):AQ P s (.load t x) (.agg vs):=λK hk=>by
 show PZ P s.st t (s.ev x) K;rw[hx];subst hv;exact Ap _ ht (Ap _ hr ⟨rfl,Ap cs hi ⟨hl,hk⟩⟩)
theorem IG (hf:HZ P t f=some j)(hx:s.ev x=.Bh cs off)(ho:off+j=off'):AQ P s (.fieldAddr t x f) (.Bh cs off'):=λK hk=>by
 show Ky P t (s.ev x) f s.st K;rw[hx];subst ho;exact Ap _ hf hk
theorem Ey (hf:HZ P t f=some j)(hx:s.ev x=.ptr id g i off)(hr:s.st[id]?=some ⟨g,el,size,xs⟩)(hl:off+j<=size)(ho:off+j=off'):AQ P s (.fieldAddr t x f) (.ptr id g i off'):=λK hk=>by
 show Ky P t (s.ev x) f s.st K;rw[hx];subst ho;exact Ap _ hf (Ap _ hr ⟨rfl,hl,hk⟩)
def S7 (P:Program)(t:TypeId)(f:Nat):Option (Nat×Bool×Nat):=
 match P.underlying t with
 | some (.struct fs)=>match fs[f]? with
  | some g=>match D7 P g.type with
   | some ti=>some (g.offset,ti)
   | none=>none
  | none=>none
 | _=>none
theorem VB {f o:Nat}{ti:Bool×Nat}{K:AV->Prop}(h:S7 P t f=some (o,ti))(hk:Kp ti.1 ti.2 cs o K):Mw P t (.agg cs) f K:=by
 unfold S7 at h;unfold Mw;split at h
 ·rename_i fs hu;split at h
  ·rename_i gg hg;split at h
   ·rename_i ti' ht;simp only[jh,nA]at h;obtain⟨rfl,rfl⟩:=h;rw[hu];exact Ap _ hg (Ap _ ht hk)
   ·cases h
  ·cases h
 ·cases h
theorem gZ (hf:S7 P t f=some (off,false,sz))(hx:s.ev x=.agg cs)(hv:cs[off]?=some v):AQ P s (.field t x f) v:=λK hk=>by
 show Mw P t (s.ev x) f K;rw[hx];exact VB hf (Ap v hv hk)
theorem fY (hf:S7 P t f=some (off,true,sz))(hx:s.ev x=.agg cs)(hl:off+sz<=cs.length)(hv:(cs.drop off).take sz=vs):AQ P s (.field t x f) (.agg vs):=λK hk=>by
 show Mw P t (s.ev x) f K;rw[hx];subst hv;exact VB hf ⟨hl,hk⟩
variable {α : Type} {l l' : List α} {enc : α -> List AV} {n : Int} {zz : List AV} {u : α}
theorem CV (h:Sh.get l n=some u):(l.map enc)[n.toNat]?=some (enc u):=by
 rw[ji,(Sh.get_some h).2.1];rfl
theorem Ce (he:D4 P t=some ⟨el,size,bytes,zz⟩)(hx:s.ev x=.sl (l.map enc))(hy:s.ev y=.int kk n)(hg:Sh.get l n=some u)(hs:(enc u).length=size):AQ P s (.indexAddr t x y) (.Bh (enc u) 0):=λK hk=>by
 show I7 P s.st t (s.ev x) (s.ev y) K;rw[hx,hy];exact Ap _ he ⟨(Sh.get_some hg).1,Ap _ (CV hg) ⟨hs,hk⟩⟩
theorem Bz (he:D4 P t=some ⟨el,size,bytes,zz⟩)(hx:s.ev x=.own id g m)(hy:s.ev y=.int kk n)(hr:s.st[id]?=some ⟨g,el,size,l.map enc⟩)(hm:m=l.length)(hg:Sh.get l n=some u):
  AQ P s (.indexAddr t x y) (.ptr id g n.toNat 0):=λK hk=>by
 show I7 P s.st t (s.ev x) (s.ev y) K;rw[hx,hy];subst hm;exact Ap _ he ⟨(Sh.get_some hg).1,(Sh.get_some hg).2.2,Ap _ hr ⟨rfl,rfl,by simpa using hk⟩⟩
theorem Ci (hs:DU P t=true)(hx:s.ev x=.sl (l.map enc)):AQ P s (.call ⟨.builtin .len,#[x],#[t]⟩) (i64 (Sh.len l)):=λK hk=>by
 refine⟨hs,?_⟩;rw[hx];simp only[bB,kB];exact hk
theorem Cr (hs:DU P t=true)(hx:s.ev x=.own id g m)(hr:s.st[id]?=some ⟨g,el,size,l.map enc⟩)(hm:m=l.length):AQ P s (.call ⟨.builtin .len,#[x],#[t]⟩) (i64 (Sh.len l)):=λK hk=>by
 refine⟨hs,?_⟩;subst hm;rw[hx];exact Ap _ hr ⟨rfl,hk⟩
theorem ZC (hs:DU P t=true)(hx:s.ev x=.zc):AQ P s (.call ⟨.builtin .len,#[x],#[t]⟩) (i64 0):=λK hk=>by
 refine⟨hs,?_⟩;rw[hx];exact hk
theorem fg (hx:s.ev x=.ptr id g i off)(hr:s.st[id]?=some ⟨g,el,size,xs⟩):AQ P s (.nilCheck x) (.ptr id g i off):=λK hk=>by
 show W6 s.st (s.ev x) K;rw[hx];exact Ap _ hr ⟨rfl,hk⟩
theorem fH (hx:s.ev x=.Bh cs off):AQ P s (.nilCheck x) (.Bh cs off):=λK hk=>by
 show W6 s.st (s.ev x) K;rw[hx];exact hk
theorem C9 {parts:Array (Nat×Operand)}{fs:List (Nat×Nat)}{pv:List (Nat×AV)}(ha:IW P t=true)(hf:Js P t=some fs)(hz:IC P t=some zz)(hp:(parts.toList.map λp=>(p.1,s.ev p.2))=pv)(hc:MV (fs[·]?) zz pv=some cs):
  AQ P s (.build t parts) (.agg cs):=λK hk=>by
 show Xc P t (parts.toList.map λp=>(p.1,s.ev p.2)) K;rw[hp];exact⟨ha,Ap _ hf (Ap _ hz (Ap _ hc hk))⟩
variable {st : List Row} {ys : List (List AV)}
theorem Lg:EL st (.sl ys) ys:=λ_ hk=>hk
theorem HP (hr:st[id]?=some ⟨g,el,size,l.map enc⟩)(hm:m=l.length)(hlf :∀x,(enc x).all AV.leaf=true:=by exact λ_=>rfl):EL st (.own id g m) (l.map enc):=λK hk=>by
 subst hm;refine Ap _ hr ⟨rfl,λy hy c hc=>?_,?_⟩
 ·obtain⟨x,_,rfl⟩:=kC.1 hy;exact jq.1 (hlf x) c hc
 rw[<- kB (f:=enc) (as:=l),lM];exact⟨rfl,hk⟩
end
section
variable {P : Program} {k : Nat} {ops : Array Oper} {Q : Exit -> St -> Prop} {ds : List (Option Tmp)} {r : List Oper} {n : Nat} {e : Nat -> AV} {st st' : List Row} {op : Op} {ty : TypeId} {ps : String} {ed : Array Edge} {d : Option Tmp} {t : Tmp} {v v' : AV}
variable {jj : Nat} {want b : Bool} {tg : Tmp} {gd : Option (Nat × Bool)}
def GO (ds:List (Option Tmp))(gd:Option (Nat×Bool))(e:Nat->AV):Prop:=
 match gd with
 | none=>True
 | some (jj,want)=>∃tg,ds[jj]?=some (some tg)/\e tg=.bool want
theorem AI:GO ds none e:=jf
theorem CW (hj:ds[jj]?=some (some tg))(ht:e tg=.bool b)(hb:b=want):GO ds (some (jj,want)) e:=⟨tg,hj,by rw[ht,hb]⟩
theorem GO.guard {A B:Prop}(hg:GO ds gd e)(h:A):Ix ds ⟨d,op,ty,ps,ed,gd⟩ ⟨n,e,st⟩ A B:=by
 unfold GO at hg;unfold Ix;cases gd with
 | none=>exact h
 | some q=>
  obtain⟨jj,want⟩:=q;obtain⟨tg,hj,ht⟩:=hg;simp only[hj,ht,ZG];exact⟨λ_=>h,λhh=>absurd rfl hh⟩
theorem Ba (hg:GO ds gd e)(hl:Jq op=false)(hq:AQ P ⟨n,e,st⟩ op v)(hk:AO P k ops Q (ds++[some t]) r ⟨n,ED e t v,st⟩):AO P k ops Q ds (⟨some t,op,ty,ps,ed,gd⟩::r) ⟨n,e,st⟩:=by
 refine OO (hg.guard ?_);unfold Kf;simp only[hl,jk,kH];exact hq _ hk
theorem MB (hg:GO ds gd e)(h:Kf P k ⟨d,op,ty,ps,ed,gd⟩ ⟨n,e,st⟩ (AO P k ops Q (ds++[d]) r)):AO P k ops Q ds (⟨d,op,ty,ps,ed,gd⟩::r) ⟨n,e,st⟩:=
 OO (hg.guard h)
theorem dy (hj:ds[jj]?=some (some tg))(ht:e tg=.bool b)(hb:b=!want)(h:AO P k ops Q (ds++[some t]) r ⟨n,ED e t .un,st⟩):AO P k ops Q ds (⟨some t,op,ty,ps,ed,some (jj,want)⟩::r) ⟨n,e,st⟩:=by
 refine OO ?_;subst hb;simp only[Ix,hj,ht,ZG];exact⟨λh=>(by cases want<;>cases h),λ_=>h⟩
theorem eQ (hj:ds[jj]?=some (some tg))(ht:e tg=.un)(h:AO P k ops Q (ds++[some t]) r ⟨n,ED e t .un,st⟩):AO P k ops Q ds (⟨some t,op,ty,ps,ed,some (jj,want)⟩::r) ⟨n,e,st⟩:=by
 refine OO ?_;simp only[Ix,hj,ht,ZG];exact h
variable {KS : St -> Prop}
theorem H6 (hg:GO ds gd e)(hl:Jq op=false)(hq:AQ P ⟨n,e,st⟩ op v)(hk:D6 P (ds++[some t]) r KS ⟨n,ED e t v,st⟩):D6 P ds (⟨some t,op,ty,ps,ed,gd⟩::r) KS ⟨n,e,st⟩:=by
 refine hg.guard ?_;unfold Kj;simp only[hl,jk,kH];exact hq _ hk
theorem cj (hg:GO ds gd e)(hl:Jq op=true)(hq :∀s0:St,s0.st=st->(∀x∈op.operands,s0.ev x=St.ev ⟨n,e,st⟩ x)->DC s0.n (some t)=true->Yl P ⟨some t,op,ty,ps,ed,gd⟩ s0 v)(hk:D6 P (ds++[some t]) r KS ⟨n,ED e t v,st⟩):D6 P ds (⟨some t,op,ty,ps,ed,gd⟩::r) KS ⟨n,e,st⟩:=by
 refine hg.guard ?_;unfold Kj;simp only[hl,kO];exact⟨v,hq,hk⟩
theorem fk (hj:ds[jj]?=some (some tg))(ht:e tg=.bool b)(hb:b=!want)(h:D6 P (ds++[some t]) r KS ⟨n,ED e t .un,st⟩):D6 P ds (⟨some t,op,ty,ps,ed,some (jj,want)⟩::r) KS ⟨n,e,st⟩:=by
 subst hb;simp only[D6,Ix,hj,ht,ZG];exact⟨λh=>(by cases want<;>cases h),λ_=>h⟩
theorem Aw {s:St}(h:KS s):D6 P ds [] KS s:=h
theorem RO {ars:Array Operand}{f:FuncId}{ts:Array TypeId}{s0 s1:St}(h :∀x∈(Op.call ⟨.value (.func f),ars,ts⟩).operands,s0.ev x=s1.ev x):ars.toList.map s0.ev=ars.toList.map s1.ev:=
 kM λx hx=>h x (by simp[Op.operands,Call.operands];right;simpa using hx)
theorem BW {f:FuncId}{ars:Array Operand}{ts:Array TypeId}{args:List AV}(hg:GO ds gd e)(hb:Dl P f=true)(hc:Ab P f args [] λr st=>r=v/\st=[])(ha:ars.toList.map (St.ev ⟨n,e,st⟩)++[]=args)(hf:args.all flat=true)(hv:flat v=true)
  (hk:D6 P (ds++[some t]) r KS ⟨n,ED e t v,st⟩):D6 P ds (⟨some t,.call ⟨.value (.func f),ars,ts⟩,ty,ps,ed,gd⟩::r) KS ⟨n,e,st⟩:=by
 refine cj hg rfl (λs0 e1 e2 hd k F os a w hr next Q hn=>?_) hk;refine Ko (k:=k) (K:=(·=s0.put (some t) v)) hr hd ?_ hn;show Dl P f=true/\callThen P k s0 f (ars.toList.map s0.ev++[]) (some t) _;rw[RO e2,ha];exact⟨hb,T1 hc hf hv rfl⟩
variable {α : Type} {l l' l2 : List α} {enc : α -> List AV} {kk kk' : IntKind} {j : Int} {el T : TypeId} {size bytes sz id g i m off : Nat} {zz cs us : List AV} {x y : Operand} {xs : List (List AV)} {ag : Bool} {u u' : α}
theorem Av (hg:GO ds gd e)(hz:IC P T=some zz)(hm:st.length=m)(hst:st++[⟨0,T,zz.length,[zz]⟩]=st')(hk:AO P k ops Q (ds++[some t]) r ⟨n,ED e t (.ptr m 0 0 0),st'⟩):AO P k ops Q ds (⟨some t,.alloc T,ty,ps,ed,gd⟩::r) ⟨n,e,st⟩:=by
 subst hm;subst hst;exact MB hg (Ap _ hz hk)
theorem Bf (hg:GO ds gd e)(hx:St.ev ⟨n,e,st⟩ x=v)(hc:KP v=some cs)(hne:cs.isEmpty=false)(hm:st.length=m)(hst:st++[⟨0,T,cs.length,[cs]⟩]=st')(hk:AO P k ops Q (ds++[some t]) r ⟨n,ED e t (.ptr m 0 0 0),st'⟩):AO P k ops Q ds (⟨some t,.box T x,ty,ps,ed,gd⟩::r) ⟨n,e,st⟩:=by
 subst hm;subst hst;subst hx;exact MB hg (Ap _ hc ⟨(by intro h;rw[h]at hne;cases hne),hk⟩)
theorem Am (hg:GO ds gd e)(ht:D7 P T=some (ag,sz))(hx:St.ev ⟨n,e,st⟩ x=.ptr id g i off)(hr:st[id]?=some ⟨g,el,size,xs⟩)(hi:xs[i]?=some zz)(hv:St.ev ⟨n,e,st⟩ y=v)(hc:KP v=some cs)(hn:cs.length=sz)(hle:off+cs.length<=size)
  (hst:st.set id ⟨g,el,size,xs.set i (G5 zz off cs)⟩=st') (hk:AO P k ops Q (ds++[none]) r ⟨n,e,st'⟩):AO P k ops Q ds (⟨none,.store T x y,ty,ps,ed,gd⟩::r) ⟨n,e,st⟩:=by
 subst hst;subst hv;refine MB hg ?_;rw[cb,hx];exact Ap _ ht (Ap _ hr ⟨rfl,Ap _ hi (Ap _ hc ⟨hn,hle,hk⟩)⟩)
theorem Y0 {j:Int}:(l.map enc).set j.toNat (enc u)=(Sh.put l j u).map enc:=by simp[Sh.put,ln]
theorem KI (hg:GO ds gd e)(ht:D7 P T=some (ag,sz))(hx:St.ev ⟨n,e,st⟩ x=.ptr id g j.toNat off)(hr:st[id]?=some ⟨g,el,size,l.map enc⟩)(hi:Sh.get l j=some u)(hv:St.ev ⟨n,e,st⟩ y=v)(hc:KP v=some cs)(hn:cs.length=sz)(hle:off+cs.length<=size)
  (hsp:G5 (enc u) off cs=enc u') (hst:st.set id ⟨g,el,size,(Sh.put l j u').map enc⟩=st') (hk:AO P k ops Q (ds++[none]) r ⟨n,e,st'⟩):AO P k ops Q ds (⟨none,.store T x y,ty,ps,ed,gd⟩::r) ⟨n,e,st⟩:=
 Am hg ht hx hr (CV hi) hv hc hn hle (by rw[hsp,Y0];exact hst) hk
theorem YZ (hg:GO ds gd e)(he:D4 P T=some ⟨el,size,bytes,zz⟩)(hx:St.ev ⟨n,e,st⟩ x=.int kk j)(hy:St.ev ⟨n,e,st⟩ y=.int kk' j)(hz:enc u=zz)(hl:Sh.mk u j bytes=some l)(hm:st.length=m)(hst:st++[⟨0,el,size,l.map enc⟩]=st')
  (hk:AO P k ops Q (ds++[some t]) r ⟨n,ED e t (.own m 0 l.length),st'⟩):AO P k ops Q ds (⟨some t,.makeSlice T x y,ty,ps,ed,gd⟩::r) ⟨n,e,st⟩:=by
 subst hm;subst hst;subst hz;refine MB hg ?_;rw[WS];unfold Sh.mk at hl;split at hl
 ·rename_i h;simp only[jh]at hl;subst hl;rw[hx,hy];simp only[nL,mu]at hk;exact Ap _ he ⟨rfl,h.1,h.2.1,h.2.2,hk⟩
 ·cases hl
theorem BF {len:Nat}{parts:Array (Nat×Operand)}{pv:List (Nat×AV)}(hg:GO ds gd e)(he:D4 P T=some ⟨el,size,bytes,zz⟩)(hle:len*size<=16777216)(hp:(parts.toList.map λp=>(p.1,St.ev ⟨n,e,st⟩ p.2))=pv)
  (hc:MV (λi=>some (i*size,size)) ((List.replicate len zz).flatten) pv=some cs) (hck:chunk size len cs=l.map enc) (hln:len=l.length) (hm:st.length=m) (hst:st++[⟨0,el,size,l.map enc⟩]=st') (hk:AO P k ops Q (ds++[some t]) r ⟨n,ED e t (.own m 0 l.length),st'⟩) :
  AO P k ops Q ds (⟨some t,.buildSlice T len parts,ty,ps,ed,gd⟩::r) ⟨n,e,st⟩:=by
 subst hm;subst hst;subst hln;refine MB hg ?_;rw[U6,hp];exact Ap _ he ⟨hle,Ap _ hc (by rw[hck];exact hk)⟩
theorem C8 {ys:AV}(hg:GO ds gd e)(he:D4 P T=some ⟨el,size,bytes,zz⟩)(hx:St.ev ⟨n,e,st⟩ x=.own id g m)(hr:st[id]?=some ⟨g,el,size,l.map enc⟩)(hm:m=l.length)(hy:St.ev ⟨n,e,st⟩ y=ys)(hel:EL st ys (l2.map enc))(hs :∀a,(enc a).length=size)(ha:Sh.app l l2 bytes=some l')
  (hst:st.set id ⟨g+1,el,size,l'.map enc⟩=st') (hk:AO P k ops Q (ds++[some t]) r ⟨n,ED e t (.own id (g+1) l'.length),st'⟩):AO P k ops Q ds (⟨some t,.call ⟨.builtin .append,#[x,y],#[T,T]⟩,ty,ps,ed,gd⟩::r) ⟨n,e,st⟩:=by
 subst hst;subst hy;subst hm;refine MB hg ?_;rw[Ux];refine⟨rfl,?_⟩;rw[hx];unfold Sh.app at ha;split at ha
 ·rename_i h;simp only[jh]at ha;subst ha;refine Ap _ he (hel _ ⟨λz hz=>?_,Ap _ hr ⟨rfl,(kB _).symm,rfl,rfl,by simpa using h.1,by simpa using h.2,?_⟩⟩)
  ·obtain⟨q,_,rfl⟩:=kC.1 hz;exact hs q
  ·have e1:(l.map enc).take l.length=l.map enc:=by rw[<- kB (f:=enc) (as:=l),lM]
   have e2:l.length+(l2.map enc).length=(l++l2).length:=by simp
   simp only[e1,e2,<- lJ];exact hk
 ·cases ha
theorem bW {hop:Operand}(hg:GO ds gd e)(he:D4 P T=some ⟨el,size,bytes,zz⟩)(hx:St.ev ⟨n,e,st⟩ x=.own id g m)(hr:st[id]?=some ⟨g,el,size,l.map enc⟩)(hm:m=l.length)(hh:St.ev ⟨n,e,st⟩ hop=.int kk j)(hl:Sh.hi l j=some l')
  (hst:st.set id ⟨g+1,el,size,l'.map enc⟩=st') (hk:AO P k ops Q (ds++[some t]) r ⟨n,ED e t (.own id (g+1) l'.length),st'⟩):AO P k ops Q ds (⟨some t,.slice T x none (some hop) none,ty,ps,ed,gd⟩::r) ⟨n,e,st⟩:=by
 subst hst;subst hm;refine MB hg ?_;rw[Sv];simp only[kb,ni];rw[hx,hh];unfold Sh.hi at hl;split at hl
 ·rename_i h;simp only[jh]at hl;subst hl;refine Ap _ he (Ap _ hr ⟨rfl,(kB _).symm,rfl,Ap _ rfl ⟨h.1,h.2,?_⟩⟩);have e1:(l.take j.toNat).length=j.toNat:=by rw[lu];omega
  rw[e1,List.map_take]at hk;exact hk
 ·cases hl
theorem SA {lo hi:Option Operand}{i j:Int}(hg:GO ds gd e)(he:D4 P T=some ⟨el,size,bytes,zz⟩)(hx:St.ev ⟨n,e,st⟩ x=.sl (l.map enc))(h1:SV (lo.map (St.ev ⟨n,e,st⟩)) 0=some i)(h2:SV (hi.map (St.ev ⟨n,e,st⟩)) l.length=some j)(hs :∀a,(enc a).length=size)(hl:Sh.sl l i j=some l')
  (hk:AO P k ops Q (ds++[some t]) r ⟨n,ED e t (.sl (l'.map enc)),st⟩):AO P k ops Q ds (⟨some t,.slice T x lo hi none,ty,ps,ed,gd⟩::r) ⟨n,e,st⟩:=by
 refine MB hg ?_;rw[Sv];simp only[ni];rw[hx];unfold Sh.sl at hl;split at hl
 ·rename_i h;simp only[jh]at hl;subst hl;refine Ap _ he (Ap _ h1 (Ap _ (by rw[kB];exact h2) ⟨h.1,h.2.1,by simpa using h.2.2,λz hz=>?_,?_⟩))
  ·obtain⟨q,_,rfl⟩:=kC.1 hz;exact hs q
  ·rw[List.map_drop,List.map_take]at hk;exact hk
 ·cases hl
theorem UT (hg:GO ds gd e)(hs:DU P T=true)(hx:St.ev ⟨n,e,st⟩ x=.sl (l.map enc))(h1:l=[]->AO P k ops Q (ds++[some t]) r ⟨n,ED e t (.bool true),st⟩)(h2:AO P k ops Q (ds++[some t]) r ⟨n,ED e t (.bool false),st⟩){yT:TypeId}:
  AO P k ops Q ds (⟨some t,.binOp .eql T x (.const (.slice none 0 0)) yT,ty,ps,ed,gd⟩::r) ⟨n,e,st⟩:=by
 refine MB hg ?_;rw[ZB];refine⟨hs,?_⟩;rw[hx];exact⟨λh=>h1 (mX.1 h),h2⟩
def VR:List Row->Prop
 | []=>True
 | row::r=>DD row.xs/\VR r
theorem VR.get:∀{l:List Row},VR l->∀row∈l,DD row.xs
 | row::r,h,row',hm=>by
  rcases js.1 hm with rfl|hm
  ·exact h.1
  ·exact VR.get h.2 row' hm
variable {f : FuncId} {ars : Array Operand} {ts : Array TypeId} {args : List AV} {rows : List Row} {s : St}
theorem CL (hg:GO ds gd e)(hb:Dl P f=true)(hc:Ab P f args [] λr st=>r=v/\st=rows)(ha:ars.toList.map (St.ev ⟨n,e,st⟩)++[]=args)(hf:args.all flat=true)(hp:VR rows)(hv:shift st.length v=v')(hst:st++rows=st')
  (hk:AO P k ops Q (ds++[d]) r (St.put ⟨n,e,st'⟩ d v')):AO P k ops Q ds (⟨d,.call ⟨.value (.func f),ars,ts⟩,ty,ps,ed,gd⟩::r) ⟨n,e,st⟩:=by
 subst hv;subst hst;subst ha;refine MB hg ?_;rw[NS];refine⟨hb,Ud hc hf ?_⟩;rintro r st' ⟨rfl,rfl⟩;exact⟨hp.get,hk⟩
theorem av {g:Nat}{enc':α->List AV}(hr:st[id]?=some ⟨g,el,size,l.map enc⟩)(hu :∀x,Ho (enc x)=enc' x):SG st (.own id g l.length)=.sl (l.map enc'):=by
 simp only[SG,hr,kO];rw[<- kB (f:=enc) (as:=l),lW,lj,Hv,lU];congr 1;exact kM λx _=>hu x
theorem SB {cs:List AV}(h:cs.all simple=true):Ho cs=cs:=by
 rw[N1];exact (kM (g:=id) λc hc=>TU (jq.1 h c hc)).trans (lI _)
inductive BC (st:List Row):List AV->List AV->Prop
 | nil:BC st [] []
 | own {α:Type} {l:List α} {enc:α->List AV} {id g size m:Nat} {el:TypeId} {as bs:List AV} (hr:st[id]?=some ⟨g,el,size,l.map enc⟩) (hm:m=l.length) (hp :∀x,(enc x).all simple=true) (h:BC st as bs):BC st (.own id g m::as) (.sl (l.map enc)::bs)
 | ownD {α:Type} {l:List α} {enc enc':α->List AV} {id g size m:Nat} {el:TypeId} {as bs:List AV} (hr:st[id]?=some ⟨g,el,size,l.map enc⟩) (hm:m=l.length) (hp :∀x,(enc x).all EY=true) (hu :∀x,Ho (enc x)=enc' x) (h:BC st as bs):BC st (.own id g m::as) (.sl (l.map enc')::bs)
 | val {v:AV} {as bs:List AV} (hv:simple v=true) (h:BC st as bs):BC st (v::as) (v::bs)
inductive BA (st:List Row):List AV->List AV->Prop
 | nil:BA st [] []
 | own {α:Type} {l:List α} {enc:α->List AV} {id g size m:Nat} {el:TypeId} {as bs:List AV} (hr:st[id]?=some ⟨g,el,size,l.map enc⟩) (hm:m=l.length) (hp :∀x,(enc x).all simple=true) (h:BA st as bs):BA st (.own id g m::as) (.sl (l.map enc)::bs)
 | ownD {α:Type} {l:List α} {enc enc':α->List AV} {id g size m:Nat} {el:TypeId} {as bs:List AV} (hr:st[id]?=some ⟨g,el,size,l.map enc⟩) (hm:m=l.length) (hp :∀x,(enc x).all EY=true) (hu :∀x,Ho (enc x)=enc' x) (h:BA st as bs):BA st (.own id g m::as) (.sl (l.map enc')::bs)
 | agg {cs ds:List AV} {as bs:List AV} (hc:BC st cs ds) (h:BA st as bs):BA st (.agg cs::as) (.agg ds::bs)
 | val {v:AV} {as bs:List AV} (hv:flat v=true) (h:BA st as bs):BA st (v::as) (v::bs)
theorem Rj {v:AV}(h:simple v=true):SG st v=v:=by cases v<;>simp_all [simple,SG]
theorem BC.spec {as bs:List AV}(h:BC st as bs):as.map (SG st)=bs/\bs.all simple=true/\∀id g n,AV.own id g n∈as->∀row,st[id]?=some row->DD row.xs:=by
 induction h with
 | nil=>exact⟨rfl,rfl,by simp⟩
 | own hr hm hp h ih=>
  obtain⟨h1,h2,h3⟩:=ih;subst hm;refine⟨by rw[kI,av hr (λx=>SB (hp x)),h1],by simp[simple,h2],λid' g' n' hx row hrow=>?_⟩;rcases js.1 hx with hx|hx
  ·cases hx;rw[hr]at hrow;cases hrow;exact (AD hp).any
  ·exact h3 id' g' n' hx row hrow
 | ownD hr hm hp hu h ih=>
  obtain⟨h1,h2,h3⟩:=ih;subst hm;refine⟨by rw[kI,av hr hu,h1],by simp[simple,h2],λid' g' n' hx row hrow=>?_⟩;rcases js.1 hx with hx|hx
  ·cases hx;rw[hr]at hrow;cases hrow;exact Ah hp
  ·exact h3 id' g' n' hx row hrow
 | @val v as bs hv h ih=>
  obtain⟨h1,h2,h3⟩:=ih;refine⟨by rw[kI,Rj hv,h1],by simp[hv,h2],λid' g' n' hx row hrow=>?_⟩;rcases js.1 hx with hx|hx
  ·subst hx;simp[simple]at hv
  ·exact h3 id' g' n' hx row hrow
theorem BA.spec {as bs:List AV}(h:BA st as bs):as.map (HI st)=bs/\bs.all flat=true/\∀id g n,Pq as id g n->∀row,st[id]?=some row->DD row.xs:=by
 induction h with
 | nil=>exact⟨rfl,rfl,by rintro id g n (h|⟨_,h,_⟩)<;>simp at h⟩
 | own hr hm hp h ih=>
  obtain⟨h1,h2,h3⟩:=ih;subst hm;refine⟨by rw[kI,h1];congr 1;exact av hr (λx=>SB (hp x)),by simp[flat,h2],λid' g' n' hx row hrow=>?_⟩;rcases hx with hx|⟨cs,hx,hin⟩
  ·rcases js.1 hx with hx|hx
   ·cases hx;rw[hr]at hrow;cases hrow;exact (AD hp).any
   ·exact h3 id' g' n' (.inl hx) row hrow
  ·rcases js.1 hx with hx|hx
   ·cases hx
   ·exact h3 id' g' n' (.inr ⟨cs,hx,hin⟩) row hrow
 | ownD hr hm hp hu h ih=>
  obtain⟨h1,h2,h3⟩:=ih;subst hm;refine⟨by rw[kI,h1];congr 1;exact av hr hu,by simp[flat,h2],λid' g' n' hx row hrow=>?_⟩;rcases hx with hx|⟨cs,hx,hin⟩
  ·rcases js.1 hx with hx|hx
   ·cases hx;rw[hr]at hrow;cases hrow;exact Ah hp
   ·exact h3 id' g' n' (.inl hx) row hrow
  ·rcases js.1 hx with hx|hx
   ·cases hx
   ·exact h3 id' g' n' (.inr ⟨cs,hx,hin⟩) row hrow
 | agg hc h ih=>
  obtain⟨h1,h2,h3⟩:=ih;obtain⟨g1,g2,g3⟩:=hc.spec;refine⟨by rw[kI,h1];simp only[HI,g1],by simp only[lx,h2,Bool.and_true];simpa [flat] using g2,λid' g' n' hx row hrow=>?_⟩;rcases hx with hx|⟨cs,hx,hin⟩
  ·rcases js.1 hx with hx|hx
   ·cases hx
   ·exact h3 id' g' n' (.inl hx) row hrow
  ·rcases js.1 hx with hx|hx
   ·cases hx;exact g3 id' g' n' hin row hrow
   ·exact h3 id' g' n' (.inr ⟨cs,hx,hin⟩) row hrow
 | @val v as bs hv h ih=>
  obtain⟨h1,h2,h3⟩:=ih;have e1:HI st v=v:=by
   cases v<;>simp[flat]at hv<;>try rfl
   rename_i cs;simp only[HI];congr 1;exact (kM (g:=id) λc hc=>Rj (hv c hc)).trans (lI _)
  refine⟨by rw[kI,e1,h1],by simp[hv,h2],λid' g' n' hx row hrow=>?_⟩;rcases hx with hx|⟨cs,hx,hin⟩
  ·rcases js.1 hx with hx|hx
   ·subst hx;simp[flat]at hv
   ·exact h3 id' g' n' (.inl hx) row hrow
  ·rcases js.1 hx with hx|hx
   ·subst hx;have:=jq.1 (show cs.all simple=true from hv) _ hin;simp[simple]at this
   ·exact h3 id' g' n' (.inr ⟨cs,hx,hin⟩) row hrow
def OG:List Row->Prop
 | []=>True
 | row::r=>(DD row.xs/\∀x∈row.xs,∀c∈x,ND c=true)/\OG r
theorem OG.get:∀{l:List Row},OG l->∀row∈l,DD row.xs/\∀x∈row.xs,∀c∈x,ND c=true
 | row::r,h,row',hm=>by
  rcases js.1 hm with rfl|hm
  ·exact h.1
  ·exact OG.get h.2 row' hm
theorem gh {g:Nat}(h :∀x,(enc x).all (λc=>EY c&&ND c)=true)(hr:OG rows):OG (⟨g,el,size,l.map enc⟩::rows):=by
 refine⟨⟨λx hx c hc=>?_,λx hx c hc=>?_⟩,hr⟩ <;>
 ·obtain⟨y,_,rfl⟩:=kC.1 hx;have:=jq.1 (h y) c hc;simp only[kF]at this;first|exact this.1|exact this.2
theorem gF {g:Nat}(h :∀x,(enc x).all (λc=>simple c&&ND c)=true)(hr:OG rows):OG (⟨g,el,size,l.map enc⟩::rows):=
 gh (λx=>jq.2 λc hc=>by
  have:=jq.1 (h x) c hc;simp only[kF]at this⊢;exact⟨Od this.1,this.2⟩) hr
theorem Lz {as:List AV}(hg:GO ds gd e)(hb:Dl P f=true)(hc:Ab P f args [] λr st=>r=v/\st=rows)(ha:ars.toList.map (St.ev ⟨n,e,st⟩)++[]=as)(hba:BA st as args)(hsc:bE v=true)(hp:OG rows)(hv:shift st.length v=v')(hst:st++rows=st')
  (hk:AO P k ops Q (ds++[d]) r (St.put ⟨n,e,st'⟩ d v')):AO P k ops Q ds (⟨d,.call ⟨.value (.func f),ars,ts⟩,ty,ps,ed,gd⟩::r) ⟨n,e,st⟩:=by
 subst hv;subst hst;subst ha;obtain⟨h1,h2,h3⟩:=hba.spec;refine MB hg ?_;rw[NS];refine⟨hb,Na (R:=λr st=>r=v/\st=rows) ?_ ?_ h3 ?_⟩
 ·show Ab P f (List.map (HI st) _) [] _;rw[h1];exact hc
 ·show (List.map (HI st) _).all flat=true;rw[h1];exact h2
 ·rintro r st' ⟨rfl,rfl⟩;exact⟨⟨hsc,λrow hrow=>(hp.get row hrow).2⟩,λrow hrow=>(hp.get row hrow).1,hk⟩
theorem Yr {as:List AV}{KS:St->Prop}{t:Tmp}(hg:GO ds gd e)(hb:Dl P f=true)(hc:Ab P f args [] λr st=>r=v/\st=[])(ha:ars.toList.map (St.ev ⟨n,e,st⟩)++[]=as)(hba:BA st as args)(hsc:bE v=true)(hv:shift st.length v=v')
  (hk:D6 P (ds++[some t]) r KS ⟨n,ED e t v',st⟩):D6 P ds (⟨some t,.call ⟨.value (.func f),ars,ts⟩,ty,ps,ed,gd⟩::r) KS ⟨n,e,st⟩:=by
 subst hv;subst ha;obtain⟨h1,h2,h3⟩:=hba.spec;refine cj hg rfl (λs0 e1 e2 hd k F os a w hr next Q hn=>?_) hk;refine Ko (k:=k) (K:=(·=s0.put (some t) (shift st.length v))) hr hd ?_ hn;show Dl P f=true/\callThen P k s0 f (ars.toList.map s0.ev++[]) (some t) _;rw[RO e2];refine⟨hb,?_⟩;subst e1;refine Na (R:=λr st'=>r=v/\st'=[]) ?_ ?_ h3 ?_
 ·show Ab P f (List.map (HI s0.st) _) [] _;rw[h1];exact hc
 ·show (List.map (HI s0.st) _).all flat=true;rw[h1];exact h2
 ·rintro r st' ⟨rfl,rfl⟩;refine⟨⟨hsc,by simp⟩,by simp,?_⟩;rw[ky]
end
section
variable {P : Program} {k : Nat} {Q : Exit -> St -> Prop} {s s' : St} {x y c : Code}
theorem GV {o:Operand}{b:Bool}(ho:s.ev o=.bool b)(h1:b=true->AW P k x Q s)(h2:b=false->AW P k y Q s):AW P k (.cond o x y) Q s:=
 AW.cond λK1 K2 e1 e2=>by rw[ho];exact⟨λh=>e1 (h1 h),λh=>e2 (h2 h)⟩
theorem Ax {σ:Type}(I:Nat->σ->Prop)(canon:σ->St)(n0:Nat)(v0:σ)(h0:I n0 v0)(hw:Wk k s (canon v0))(hz :∀v,¬ I 0 v)
  (round :∀n v,I (n+1) v->AW P k c (KG (λs'=>∃v',I n v'/\Wk k s' (canon v')) Q) (canon v)):AW P k (.loop c) Q s:=by
 refine AK hw ?_;have key:∀n v,I n v->∀F os a w,Rel F os (canon v) a w->∀(b:Frame) (kk:List Item) (cs:List Frame),
   ∃e a' w',J5 k Q F os w e a' w'/\Arrives P (lone (b.at a (.code c::.inLoop c::kk)) cs w) b kk cs e a' w':=by
  intro n
  induction n with
  | zero=>intro v hI;exact absurd hI (hz v)
  | succ n ih=>
   intro v hI F os a w hr b kk cs;obtain⟨e,a₁,w₁,⟨s1,F1,os1,hq,hR1,hE1⟩,harr⟩:=round n v hI F os a w hr b (.inLoop c::kk) cs;cases e with
   | normal=>
    obtain⟨v2,hI2,hw2⟩:=hq;obtain⟨F2,os2,hR2,hE2⟩:=hw2 F1 os1 a₁ w₁ hR1;obtain⟨e₂,a₂,w₂,hq₂,harr₂⟩:=ih v2 hI2 F2 os2 a₁ w₁ hR2 b kk cs;exact⟨e₂,a₂,w₂,hq₂.trans (hE1.trans hE2),.of_steps (Steps.trans harr (.one step_inLoop)) harr₂⟩
   | exit id=>exact⟨_,a₁,w₁,⟨s1,F1,os1,hq,hR1,hE1⟩,.pass (x:=.inLoop c) rfl (λ_ _=>.inl (by simp)) harr⟩
   | goto l=>exact⟨_,a₁,w₁,⟨s1,F1,os1,hq,hR1,hE1⟩,.pass (x:=.inLoop c) rfl (λ_ _=>.inl (by simp)) harr⟩
   | ret=>exact⟨_,a₁,w₁,⟨s1,F1,os1,hq,hR1,hE1⟩,.pass (x:=.inLoop c) rfl (λ_ _=>.inl (by simp)) harr⟩
   | panic ch=>exact⟨_,a₁,w₁,⟨s1,F1,os1,hq,hR1,hE1⟩,.pass (x:=.inLoop c) rfl (λ_ _=>.inl (by simp)) harr⟩
   | outgrown=>exact⟨_,a₁,w₁,⟨s1,F1,os1,hq,hR1,hE1⟩,.pass (x:=.inLoop c) rfl (λ_ _=>.inl (by simp)) harr⟩
 intro F os a w hr b kk cs;obtain⟨e,a',w',hq,harr⟩:=key n0 v0 h0 F os a w hr b kk cs;exact⟨e,a',w',hq,.of_steps (.one step_loop) harr⟩
end
end Go.Abs
