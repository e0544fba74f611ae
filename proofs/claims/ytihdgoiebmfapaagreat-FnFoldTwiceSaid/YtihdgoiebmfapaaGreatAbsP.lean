import Derived.Test.YtihdgoiebmfapaaGreatAbsO
set_option linter.all false
namespace Go.Abs
open Go
def AQ (P:Program)(s:St)(op:Op)(v:AV):Prop:=∀K:AV->Prop,K v->JU P s op K
def EL (st:List Row)(v:AV)(ys:List (List AV)):Prop:=∀K:List (List AV)->Prop,K ys->Xy st v K
section
variable {P : Program} {s : St} {x y z c : Operand} {v : AV} {t t' : TypeId} {kk : IntKind} {a b : Int} {p q : Bool}
theorem BT (h:s.ev x=v):AQ P s (.move x) v:=λK hk=>by show K (s.ev x);rw[h];exact hk
theorem Sx (h:s.ev x=v):AQ P s (.assign x) v:=λK hk=>by show K (s.ev x);rw[h];exact hk
theorem dw {x y:AV}{K:AV->Prop}(h:K x):Pj (.bool true) x y K:=by
 cases x<;>cases y<;>first|exact h|exact⟨λ_=>h,λh=>by cases h⟩
theorem cx {x y:AV}{K:AV->Prop}(h:K y):Pj (.bool false) x y K:=by
 cases x<;>cases y<;>first|exact h|exact⟨λh=>(by cases h),λ_=>h⟩
theorem KV (hc:s.ev c=.bool p)(hp:p=true)(hx:s.ev x=v):AQ P s (.pick c x y) v:=λK hk=>by
 show Pj (s.ev c) (s.ev x) (s.ev y) K;rw[hc,hp,hx];exact dw hk
theorem Kx (hc:s.ev c=.bool p)(hp:p=false)(hy:s.ev y=v):AQ P s (.pick c x y) v:=λK hk=>by
 show Pj (s.ev c) (s.ev x) (s.ev y) K;rw[hc,hp,hy];exact cx hk
variable (hx : s.ev x = .int kk a) (hy : s.ev y = .int kk b)
include hx hy
theorem Hg {op:BinOp}(h :∀K:AV->Prop,K v->Yx op kk a b K):AQ P s (.binOp op t x y t') v:=λK hk=>by
 show Um P t op (s.ev x) (s.ev y) K;rw[hx,hy];exact⟨rfl,h K hk⟩
theorem dL:AQ P s (.binOp .add t x y t') (.int kk (Sh.wk kk (a+b))):=Hg hx hy λ_ hk=>hk
theorem dr:AQ P s (.binOp .sub t x y t') (.int kk (Sh.wk kk (a-b))):=Hg hx hy λ_ hk=>hk
theorem eK:AQ P s (.binOp .mul t x y t') (.int kk (Sh.wk kk (a*b))):=Hg hx hy λ_ hk=>hk
theorem R3 {q:Int}(h:Sh.rem a b=some q):AQ P s (.binOp .rem t x y t') (.int kk q):=Hg hx hy λ_ hk=>by
 obtain⟨h1,rfl⟩:=Sh.bk h;exact⟨h1,hk⟩
theorem ab:AQ P s (.binOp .lss t x y t') (.bool (decide (a<b))):=Hg hx hy λ_ hk=>hk
theorem gT:AQ P s (.binOp .leq t x y t') (.bool (decide (a<=b))):=Hg hx hy λ_ hk=>hk
theorem gR:AQ P s (.binOp .gtr t x y t') (.bool (decide (b<a))):=Hg hx hy λ_ hk=>hk
theorem gv:AQ P s (.binOp .geq t x y t') (.bool (decide (b<=a))):=Hg hx hy λ_ hk=>hk
theorem iB:AQ P s (.binOp .eql t x y t') (.bool (decide (a=b))):=Hg hx hy λ_ hk=>hk
theorem gN:AQ P s (.binOp .neq t x y t') (.bool (!decide (a=b))):=Hg hx hy λ_ hk=>hk
end
section
variable {P : Program} {s : St} {x y z c : Operand} {v : AV} {t t' : TypeId} {kk : IntKind} {a b : Int} {p q : Bool}
variable (hx : s.ev x = i64 a) (hy : s.ev y = i64 b)
include hx hy
theorem RZ:AQ P s (.binOp .add t x y t') (i64 (Sh.w (a+b))):=Hg hx hy λ_ hk=>hk
theorem N7:AQ P s (.binOp .sub t x y t') (i64 (Sh.w (a-b))):=Hg hx hy λ_ hk=>hk
theorem fH:AQ P s (.binOp .mul t x y t') (i64 (Sh.w (a*b))):=Hg hx hy λ_ hk=>hk
theorem fM:AQ P s (.binOp .xor t x y t') (i64 (Sh.xor a b)):=Hg hx hy λ_ hk=>hk
theorem Up {q:Int}(h:Sh.quo a b=some q):AQ P s (.binOp .quo t x y t') (i64 q):=Hg hx hy λ_ hk=>by
 obtain⟨h1,rfl⟩:=Sh.cJ h;exact⟨h1,hk⟩
theorem UL (h:b≠0):AQ P s (.binOp .quo t x y t') (i64 (Sh.w (a.tdiv b))):=Hg hx hy λ_ hk=>⟨h,hk⟩
end
section
variable {P : Program} {s : St} {x y z c : Operand} {v : AV} {t t' : TypeId} {kk sX : IntKind} {a b : Int} {p q ag : Bool} {id g i off ru f size sz bytes m j : Nat} {cs vs : List AV} {xs : List (List AV)} {el : TypeId}
theorem fO (ht:Nu P t=true)(hx:s.ev x=.bool p)(hy:s.ev y=.bool q):AQ P s (.binOp .eql t x y t') (.bool (p==q)):=λK hk=>by
 show Um P t .eql (s.ev x) (s.ev y) K;rw[hx,hy];exact⟨ht,hk⟩
theorem ff (ht:Nu P t=true)(hx:s.ev x=.bool p)(hy:s.ev y=.bool q):AQ P s (.binOp .neq t x y t') (.bool (p != q)):=λK hk=>by
 show Um P t .neq (s.ev x) (s.ev y) K;rw[hx,hy];exact⟨ht,hk⟩
theorem fJ (hx:s.ev x=.bool p):AQ P s (.unOp .not t x) (.bool (!p)):=λK hk=>by
 show bj .not (s.ev x) K;rw[hx];exact hk
theorem ez (hx:s.ev x=i64 a):AQ P s (.unOp .neg t x) (i64 (Sh.w (-a))):=λK hk=>by
 show bj .neg (s.ev x) K;rw[hx];exact hk
def Zr (P:Program)(src dst:TypeId):Option IntKind:=
 match P.underlying src,P.underlying dst with
 | some _,some (.int k)=>some k
 | _,_=>none
theorem Zz (hc:Zr P t t'=some sX)(hx:s.ev x=.int kk a):AQ P s (.convert t t' x) (.int sX (Sh.wk sX a)):=λK hk=>by
 show Vh P t t' (s.ev x) K;rw[hx];unfold Zr at hc;unfold Vh;split at hc
 ·rename_i h1 h2;simp only[jh]at hc;subst hc;simp only[h1,h2];exact hk
 ·cases hc
theorem gV (hx:s.ev x=.Dp vs)(hv:vs[i]?=some v):AQ P s (.extract x i) v:=λK hk=>by
 show Pq (s.ev x) i K;rw[hx];exact Ap v hv hk
theorem ak (hx:s.ev x=.int kk a)(hy:s.ev y=.int kk b){ts:Array TypeId}:AQ P s (.call ⟨.builtin .max,#[x,y],ts⟩) (.int kk (if b > a then b else a)):=λK hk=>by
 show au (s.ev x) (s.ev y) K;rw[hx,hy];exact hk
theorem bQ (hx:s.ev x=.int kk a)(hy:s.ev y=.int kk b){ts:Array TypeId}:AQ P s (.call ⟨.builtin .min,#[x,y],ts⟩) (.int kk (if b<a then b else a)):=λK hk=>by
 show bE (s.ev x) (s.ev y) K;rw[hx,hy];exact hk
theorem dh {fn:FuncId}{pc:Array Operand}(hc:pc.toList.map s.ev=cs):AQ P s (.makeFunc (.func fn) #[] pc) (.fn fn cs):=λK hk=>by
 subst hc;exact⟨rfl,hk⟩
theorem Hf (ht:D7 P t=some (false,sz))(hx:s.ev x=.Bh cs off)(hv:cs[off]?=some v):AQ P s (.load t x) v:=λK hk=>by
 show PV P s.st t (s.ev x) K;rw[hx];exact Ap _ ht (Ap v hv hk)
theorem HH (ht:D7 P t=some (true,sz))(hx:s.ev x=.Bh cs off)(hl:off+sz<=cs.length)(hv:(cs.drop off).take sz=vs):AQ P s (.load t x) (.agg vs):=λK hk=>by
 show PV P s.st t (s.ev x) K;rw[hx];subst hv;exact Ap _ ht ⟨hl,hk⟩
theorem Bx (ht:D7 P t=some (false,sz))(hx:s.ev x=.ptr id g i off)(hr:s.st[id]?=some ⟨g,el,size,xs⟩)(hi:xs[i]?=some cs)(hv:cs[off]?=some v):AQ P s (.load t x) v:=λK hk=>by
 show PV P s.st t (s.ev x) K;rw[hx];exact Ap _ ht (Ap _ hr ⟨rfl,Ap cs hi (Ap v hv hk)⟩)
theorem Ar (ht:D7 P t=some (true,sz))(hx:s.ev x=.ptr id g i off)(hr:s.st[id]?=some ⟨g,el,size,xs⟩)(hi:xs[i]?=some cs)(hl:off+sz<=cs.length)(hv:(cs.drop off).take sz=vs):AQ P s (.load t x) (.agg vs):=λK hk=>by
 show PV P s.st t (s.ev x) K;rw[hx];subst hv;exact Ap _ ht (Ap _ hr ⟨rfl,Ap cs hi ⟨hl,hk⟩⟩)
theorem IC (hf:Hd P t f=some j)(hx:s.ev x=.Bh cs off)(ho:off+j=ru):AQ P s (.fieldAddr t x f) (.Bh cs ru):=λK hk=>by
 show LI P t (s.ev x) f s.st K;rw[hx];subst ho;exact Ap _ hf hk
theorem E1 (hf:Hd P t f=some j)(hx:s.ev x=.ptr id g i off)(hr:s.st[id]?=some ⟨g,el,size,xs⟩)(hl:off+j<=size)(ho:off+j=ru):AQ P s (.fieldAddr t x f) (.ptr id g i ru):=λK hk=>by
 show LI P t (s.ev x) f s.st K;rw[hx];subst ho;exact Ap _ hf (Ap _ hr ⟨rfl,hl,hk⟩)
def SY (P:Program)(t:TypeId)(f:Nat):Option (Nat×Bool×Nat):=
 match P.underlying t with
 | some (.struct fs)=>match fs[f]? with
  | some g=>match D7 P g.type with
   | some ti=>some (g.offset,ti)
   | none=>none
  | none=>none
 | _=>none
theorem VU {f o:Nat}{ti:Bool×Nat}{K:AV->Prop}(h:SY P t f=some (o,ti))(hk:Kk ti.1 ti.2 cs o K):Ml P t (.agg cs) f K:=by
 unfold SY at h;unfold Ml;split at h
 ·rename_i fs hu;split at h
  ·rename_i gg hg;split at h
   ·rename_i ti' ht;simp only[jh,nA]at h;obtain⟨rfl,rfl⟩:=h;rw[hu];exact Ap _ hg (Ap _ ht hk)
   ·cases h
  ·cases h
 ·cases h
theorem gW (hf:SY P t f=some (off,false,sz))(hx:s.ev x=.agg cs)(hv:cs[off]?=some v):AQ P s (.field t x f) v:=λK hk=>by
 show Ml P t (s.ev x) f K;rw[hx];exact VU hf (Ap v hv hk)
theorem ft (hf:SY P t f=some (off,true,sz))(hx:s.ev x=.agg cs)(hl:off+sz<=cs.length)(hv:(cs.drop off).take sz=vs):AQ P s (.field t x f) (.agg vs):=λK hk=>by
 show Ml P t (s.ev x) f K;rw[hx];subst hv;exact VU hf ⟨hl,hk⟩
variable {α : Type} {l l' : List α} {enc : α -> List AV} {n : Int} {zz : List AV} {u : α}
theorem CU (h:Sh.get l n=some u):(l.map enc)[n.toNat]?=some (enc u):=by
 rw[ji,(Sh.get_some h).2.1];rfl
theorem Cg (he:D2 P t=some ⟨el,size,bytes,zz⟩)(hx:s.ev x=.sl (l.map enc))(hy:s.ev y=.int kk n)(hg:Sh.get l n=some u)(hs:(enc u).length=size):AQ P s (.indexAddr t x y) (.Bh (enc u) 0):=λK hk=>by
 show JB P s.st t (s.ev x) (s.ev y) K;rw[hx,hy];exact Ap _ he ⟨(Sh.get_some hg).1,Ap _ (CU hg) ⟨hs,hk⟩⟩
theorem Bz (he:D2 P t=some ⟨el,size,bytes,zz⟩)(hx:s.ev x=.own id g m)(hy:s.ev y=.int kk n)(hr:s.st[id]?=some ⟨g,el,size,l.map enc⟩)(hm:m=l.length)(hg:Sh.get l n=some u):
  AQ P s (.indexAddr t x y) (.ptr id g n.toNat 0):=λK hk=>by
 show JB P s.st t (s.ev x) (s.ev y) K;rw[hx,hy];subst hm;exact Ap _ he ⟨(Sh.get_some hg).1,(Sh.get_some hg).2.2,Ap _ hr ⟨rfl,rfl,by simpa using hk⟩⟩
theorem Ch (hs:DT P t=true)(hx:s.ev x=.sl (l.map enc)):AQ P s (.call ⟨.builtin .len,#[x],#[t]⟩) (i64 (Sh.len l)):=λK hk=>by
 refine⟨hs,?_⟩;rw[hx];simp only[bI,kB];exact hk
theorem Cr (hs:DT P t=true)(hx:s.ev x=.own id g m)(hr:s.st[id]?=some ⟨g,el,size,l.map enc⟩)(hm:m=l.length):AQ P s (.call ⟨.builtin .len,#[x],#[t]⟩) (i64 (Sh.len l)):=λK hk=>by
 refine⟨hs,?_⟩;subst hm;rw[hx];exact Ap _ hr ⟨rfl,hk⟩
theorem ZB (hs:DT P t=true)(hx:s.ev x=.zc):AQ P s (.call ⟨.builtin .len,#[x],#[t]⟩) (i64 0):=λK hk=>by
 refine⟨hs,?_⟩;rw[hx];exact hk
theorem fI (hx:s.ev x=.ptr id g i off)(hr:s.st[id]?=some ⟨g,el,size,xs⟩):AQ P s (.nilCheck x) (.ptr id g i off):=λK hk=>by
 show W7 s.st (s.ev x) K;rw[hx];exact Ap _ hr ⟨rfl,hk⟩
theorem eh (hx:s.ev x=.Bh cs off):AQ P s (.nilCheck x) (.Bh cs off):=λK hk=>by
 show W7 s.st (s.ev x) K;rw[hx];exact hk
theorem C8 {parts:Array (Nat×Operand)}{fs:List (Nat×Nat)}{pv:List (Nat×AV)}(ha:IW P t=true)(hf:Js P t=some fs)(hz:ID P t=some zz)(hp:(parts.toList.map λp=>(p.1,s.ev p.2))=pv)(hc:MH (fs[·]?) zz pv=some cs):
  AQ P s (.build t parts) (.agg cs):=λK hk=>by
 show Xu P t (parts.toList.map λp=>(p.1,s.ev p.2)) K;rw[hp];exact⟨ha,Ap _ hf (Ap _ hz (Ap _ hc hk))⟩
variable {st : List Row} {ys : List (List AV)}
theorem Lh:EL st (.sl ys) ys:=λ_ hk=>hk
theorem HO (hr:st[id]?=some ⟨g,el,size,l.map enc⟩)(hm:m=l.length)(pn :∀x,(enc x).all AV.leaf=true:=by exact λ_=>rfl):EL st (.own id g m) (l.map enc):=λK hk=>by
 subst hm;refine Ap _ hr ⟨rfl,λy hy c hc=>?_,?_⟩
 ·obtain⟨x,_,rfl⟩:=kC.1 hy;exact jq.1 (pn x) c hc
 rw[<- kB (f:=enc) (as:=l),lM];exact⟨rfl,hk⟩
end
section
variable {P : Program} {k : Nat} {ops : Array Oper} {Q : Exit -> St -> Prop} {ds : List (Option Tmp)} {r : List Oper} {n : Nat} {e : Nat -> AV} {st st' : List Row} {op : Op} {ty : TypeId} {ps : String} {ed : Array Edge} {d : Option Tmp} {t : Tmp} {v v' : AV}
variable {jj : Nat} {want b : Bool} {tg : Tmp} {gd : Option (Nat × Bool)}
def GO (ds:List (Option Tmp))(gd:Option (Nat×Bool))(e:Nat->AV):Prop:=
 match gd with
 | none=>True
 | some (jj,want)=>∃tg,ds[jj]?=some (some tg)/\e tg=.bool want
theorem AI:GO ds none e:=jf
theorem CW (hj:ds[jj]?=some (some tg))(ht:e tg=.bool b)(hb:b=want):GO ds (some (jj,want)) e:=⟨tg,hj,by rw[ht,hb]⟩
theorem GO.guard {A B:Prop}(hg:GO ds gd e)(h:A):Iu ds ⟨d,op,ty,ps,ed,gd⟩ ⟨n,e,st⟩ A B:=by
 unfold GO at hg;unfold Iu;cases gd with
 | none=>exact h
 | some q=>
  obtain⟨jj,want⟩:=q;obtain⟨tg,hj,ht⟩:=hg;simp only[hj,ht,ZI];exact⟨λ_=>h,λhh=>absurd rfl hh⟩
theorem Ba (hg:GO ds gd e)(hl:Jt op=false)(hq:AQ P ⟨n,e,st⟩ op v)(hk:AO P k ops Q (ds++[some t]) r ⟨n,EC e t v,st⟩):AO P k ops Q ds (⟨some t,op,ty,ps,ed,gd⟩::r) ⟨n,e,st⟩:=by
 refine OP (hg.guard ?_);unfold Kp;simp only[hl,jk,kH];exact hq _ hk
theorem L9 (hg:GO ds gd e)(h:Kp P k ⟨d,op,ty,ps,ed,gd⟩ ⟨n,e,st⟩ (AO P k ops Q (ds++[d]) r)):AO P k ops Q ds (⟨d,op,ty,ps,ed,gd⟩::r) ⟨n,e,st⟩:=
 OP (hg.guard h)
theorem eO (hj:ds[jj]?=some (some tg))(ht:e tg=.bool b)(hb:b=!want)(h:AO P k ops Q (ds++[some t]) r ⟨n,EC e t .un,st⟩):AO P k ops Q ds (⟨some t,op,ty,ps,ed,some (jj,want)⟩::r) ⟨n,e,st⟩:=by
 refine OP ?_;subst hb;simp only[Iu,hj,ht,ZI];exact⟨λh=>(by cases want<;>cases h),λ_=>h⟩
theorem cy (hj:ds[jj]?=some (some tg))(ht:e tg=.un)(h:AO P k ops Q (ds++[some t]) r ⟨n,EC e t .un,st⟩):AO P k ops Q ds (⟨some t,op,ty,ps,ed,some (jj,want)⟩::r) ⟨n,e,st⟩:=by
 refine OP ?_;simp only[Iu,hj,ht,ZI];exact h
variable {KS : St -> Prop}
theorem H5 (hg:GO ds gd e)(hl:Jt op=false)(hq:AQ P ⟨n,e,st⟩ op v)(hk:D6 P (ds++[some t]) r KS ⟨n,EC e t v,st⟩):D6 P ds (⟨some t,op,ty,ps,ed,gd⟩::r) KS ⟨n,e,st⟩:=by
 refine hg.guard ?_;unfold Kd;simp only[hl,jk,kH];exact hq _ hk
theorem cE (hg:GO ds gd e)(hl:Jt op=true)(hq :∀s0:St,s0.st=st->(∀x∈op.operands,s0.ev x=St.ev ⟨n,e,st⟩ x)->DC s0.n (some t)=true->Yl P ⟨some t,op,ty,ps,ed,gd⟩ s0 v)(hk:D6 P (ds++[some t]) r KS ⟨n,EC e t v,st⟩):D6 P ds (⟨some t,op,ty,ps,ed,gd⟩::r) KS ⟨n,e,st⟩:=by
 refine hg.guard ?_;unfold Kd;simp only[hl,kO];exact⟨v,hq,hk⟩
theorem fc (hj:ds[jj]?=some (some tg))(ht:e tg=.bool b)(hb:b=!want)(h:D6 P (ds++[some t]) r KS ⟨n,EC e t .un,st⟩):D6 P ds (⟨some t,op,ty,ps,ed,some (jj,want)⟩::r) KS ⟨n,e,st⟩:=by
 subst hb;simp only[D6,Iu,hj,ht,ZI];exact⟨λh=>(by cases want<;>cases h),λ_=>h⟩
theorem Aw {s:St}(h:KS s):D6 P ds [] KS s:=h
theorem Rz {pw:Array Operand}{f:FuncId}{ts:Array TypeId}{s0 s1:St}(h :∀x∈(Op.call ⟨.value (.func f),pw,ts⟩).operands,s0.ev x=s1.ev x):pw.toList.map s0.ev=pw.toList.map s1.ev:=
 kM λx hx=>h x (by simp[Op.operands,Call.operands];right;simpa using hx)
theorem BW {f:FuncId}{pw:Array Operand}{ts:Array TypeId}{args:List AV}(hg:GO ds gd e)(hb:Dl P f=true)(hc:Ab P f args [] λr st=>r=v/\st=[])(ha:pw.toList.map (St.ev ⟨n,e,st⟩)++[]=args)(hf:args.all flat=true)(hv:flat v=true)
  (hk:D6 P (ds++[some t]) r KS ⟨n,EC e t v,st⟩):D6 P ds (⟨some t,.call ⟨.value (.func f),pw,ts⟩,ty,ps,ed,gd⟩::r) KS ⟨n,e,st⟩:=by
 refine cE hg rfl (λs0 e1 e2 hd k F os a w hr next Q hn=>?_) hk;refine Kl (k:=k) (K:=(·=s0.put (some t) v)) hr hd ?_ hn;show Dl P f=true/\callThen P k s0 f (pw.toList.map s0.ev++[]) (some t) _;rw[Rz e2,ha];exact⟨hb,UI hc hf hv rfl⟩
variable {α : Type} {l l' l2 : List α} {enc : α -> List AV} {kk sX : IntKind} {j : Int} {el T : TypeId} {size bytes sz id g i m off : Nat} {zz cs us : List AV} {x y : Operand} {xs : List (List AV)} {ag : Bool} {u u' : α}
theorem Av (hg:GO ds gd e)(hz:ID P T=some zz)(hm:st.length=m)(pI:st++[⟨0,T,zz.length,[zz]⟩]=st')(hk:AO P k ops Q (ds++[some t]) r ⟨n,EC e t (.ptr m 0 0 0),st'⟩):AO P k ops Q ds (⟨some t,.alloc T,ty,ps,ed,gd⟩::r) ⟨n,e,st⟩:=by
 subst hm;subst pI;exact L9 hg (Ap _ hz hk)
theorem Bf (hg:GO ds gd e)(hx:St.ev ⟨n,e,st⟩ x=v)(hc:KK v=some cs)(pN:cs.isEmpty=false)(hm:st.length=m)(pI:st++[⟨0,T,cs.length,[cs]⟩]=st')(hk:AO P k ops Q (ds++[some t]) r ⟨n,EC e t (.ptr m 0 0 0),st'⟩):AO P k ops Q ds (⟨some t,.box T x,ty,ps,ed,gd⟩::r) ⟨n,e,st⟩:=by
 subst hm;subst pI;subst hx;exact L9 hg (Ap _ hc ⟨(by intro h;rw[h]at pN;cases pN),hk⟩)
theorem Am (hg:GO ds gd e)(ht:D7 P T=some (ag,sz))(hx:St.ev ⟨n,e,st⟩ x=.ptr id g i off)(hr:st[id]?=some ⟨g,el,size,xs⟩)(hi:xs[i]?=some zz)(hv:St.ev ⟨n,e,st⟩ y=v)(hc:KK v=some cs)(hn:cs.length=sz)(hle:off+cs.length<=size)
  (pI:st.set id ⟨g,el,size,xs.set i (G5 zz off cs)⟩=st') (hk:AO P k ops Q (ds++[none]) r ⟨n,e,st'⟩):AO P k ops Q ds (⟨none,.store T x y,ty,ps,ed,gd⟩::r) ⟨n,e,st⟩:=by
 subst pI;subst hv;refine L9 hg ?_;rw[cW,hx];exact Ap _ ht (Ap _ hr ⟨rfl,Ap _ hi (Ap _ hc ⟨hn,hle,hk⟩)⟩)
theorem Yp {j:Int}:(l.map enc).set j.toNat (enc u)=(Sh.put l j u).map enc:=by simp[Sh.put,ln]
theorem KI (hg:GO ds gd e)(ht:D7 P T=some (ag,sz))(hx:St.ev ⟨n,e,st⟩ x=.ptr id g j.toNat off)(hr:st[id]?=some ⟨g,el,size,l.map enc⟩)(hi:Sh.get l j=some u)(hv:St.ev ⟨n,e,st⟩ y=v)(hc:KK v=some cs)(hn:cs.length=sz)(hle:off+cs.length<=size)
  (hsp:G5 (enc u) off cs=enc u') (pI:st.set id ⟨g,el,size,(Sh.put l j u').map enc⟩=st') (hk:AO P k ops Q (ds++[none]) r ⟨n,e,st'⟩):AO P k ops Q ds (⟨none,.store T x y,ty,ps,ed,gd⟩::r) ⟨n,e,st⟩:=
 Am hg ht hx hr (CU hi) hv hc hn hle (by rw[hsp,Yp];exact pI) hk
theorem Yj (hg:GO ds gd e)(he:D2 P T=some ⟨el,size,bytes,zz⟩)(hx:St.ev ⟨n,e,st⟩ x=.int kk j)(hy:St.ev ⟨n,e,st⟩ y=.int sX j)(hz:enc u=zz)(hl:Sh.mk u j bytes=some l)(hm:st.length=m)(pI:st++[⟨0,el,size,l.map enc⟩]=st')
  (hk:AO P k ops Q (ds++[some t]) r ⟨n,EC e t (.own m 0 l.length),st'⟩):AO P k ops Q ds (⟨some t,.makeSlice T x y,ty,ps,ed,gd⟩::r) ⟨n,e,st⟩:=by
 subst hm;subst pI;subst hz;refine L9 hg ?_;rw[WG];unfold Sh.mk at hl;split at hl
 ·rename_i h;simp only[jh]at hl;subst hl;rw[hx,hy];simp only[nL,mu]at hk;exact Ap _ he ⟨rfl,h.1,h.2.1,h.2.2,hk⟩
 ·cases hl
theorem BF {len:Nat}{parts:Array (Nat×Operand)}{pv:List (Nat×AV)}(hg:GO ds gd e)(he:D2 P T=some ⟨el,size,bytes,zz⟩)(hle:len*size<=16777216)(hp:(parts.toList.map λp=>(p.1,St.ev ⟨n,e,st⟩ p.2))=pv)
  (hc:MH (λi=>some (i*size,size)) ((List.replicate len zz).flatten) pv=some cs) (hck:chunk size len cs=l.map enc) (wT:len=l.length) (hm:st.length=m) (pI:st++[⟨0,el,size,l.map enc⟩]=st') (hk:AO P k ops Q (ds++[some t]) r ⟨n,EC e t (.own m 0 l.length),st'⟩) :
  AO P k ops Q ds (⟨some t,.buildSlice T len parts,ty,ps,ed,gd⟩::r) ⟨n,e,st⟩:=by
 subst hm;subst pI;subst wT;refine L9 hg ?_;rw[VP,hp];exact Ap _ he ⟨hle,Ap _ hc (by rw[hck];exact hk)⟩
theorem C9 {ys:AV}(hg:GO ds gd e)(he:D2 P T=some ⟨el,size,bytes,zz⟩)(hx:St.ev ⟨n,e,st⟩ x=.own id g m)(hr:st[id]?=some ⟨g,el,size,l.map enc⟩)(hm:m=l.length)(hy:St.ev ⟨n,e,st⟩ y=ys)(uM:EL st ys (l2.map enc))(hs :∀a,(enc a).length=size)(ha:Sh.app l l2 bytes=some l')
  (pI:st.set id ⟨g+1,el,size,l'.map enc⟩=st') (hk:AO P k ops Q (ds++[some t]) r ⟨n,EC e t (.own id (g+1) l'.length),st'⟩):AO P k ops Q ds (⟨some t,.call ⟨.builtin .append,#[x,y],#[T,T]⟩,ty,ps,ed,gd⟩::r) ⟨n,e,st⟩:=by
 subst pI;subst hy;subst hm;refine L9 hg ?_;rw[Uk];refine⟨rfl,?_⟩;rw[hx];unfold Sh.app at ha;split at ha
 ·rename_i h;simp only[jh]at ha;subst ha;refine Ap _ he (uM _ ⟨λz hz=>?_,Ap _ hr ⟨rfl,(kB _).symm,rfl,rfl,by simpa using h.1,by simpa using h.2,?_⟩⟩)
  ·obtain⟨q,_,rfl⟩:=kC.1 hz;exact hs q
  ·have e1:(l.map enc).take l.length=l.map enc:=by rw[<- kB (f:=enc) (as:=l),lM]
   have e2:l.length+(l2.map enc).length=(l++l2).length:=by simp
   simp only[e1,e2,<- lJ];exact hk
 ·cases ha
theorem bM {wU:Operand}(hg:GO ds gd e)(he:D2 P T=some ⟨el,size,bytes,zz⟩)(hx:St.ev ⟨n,e,st⟩ x=.own id g m)(hr:st[id]?=some ⟨g,el,size,l.map enc⟩)(hm:m=l.length)(hh:St.ev ⟨n,e,st⟩ wU=.int kk j)(hl:Sh.hi l j=some l')
  (pI:st.set id ⟨g+1,el,size,l'.map enc⟩=st') (hk:AO P k ops Q (ds++[some t]) r ⟨n,EC e t (.own id (g+1) l'.length),st'⟩):AO P k ops Q ds (⟨some t,.slice T x none (some wU) none,ty,ps,ed,gd⟩::r) ⟨n,e,st⟩:=by
 subst pI;subst hm;refine L9 hg ?_;rw[S0];simp only[kb,ni];rw[hx,hh];unfold Sh.hi at hl;split at hl
 ·rename_i h;simp only[jh]at hl;subst hl;refine Ap _ he (Ap _ hr ⟨rfl,(kB _).symm,rfl,Ap _ rfl ⟨h.1,h.2,?_⟩⟩);have e1:(l.take j.toNat).length=j.toNat:=by rw[lu];omega
  rw[e1,List.map_take]at hk;exact hk
 ·cases hl
theorem RR {lo hi:Option Operand}{i j:Int}(hg:GO ds gd e)(he:D2 P T=some ⟨el,size,bytes,zz⟩)(hx:St.ev ⟨n,e,st⟩ x=.sl (l.map enc))(h1:TM (lo.map (St.ev ⟨n,e,st⟩)) 0=some i)(h2:TM (hi.map (St.ev ⟨n,e,st⟩)) l.length=some j)(hs :∀a,(enc a).length=size)(hl:Sh.sl l i j=some l')
  (hk:AO P k ops Q (ds++[some t]) r ⟨n,EC e t (.sl (l'.map enc)),st⟩):AO P k ops Q ds (⟨some t,.slice T x lo hi none,ty,ps,ed,gd⟩::r) ⟨n,e,st⟩:=by
 refine L9 hg ?_;rw[S0];simp only[ni];rw[hx];unfold Sh.sl at hl;split at hl
 ·rename_i h;simp only[jh]at hl;subst hl;refine Ap _ he (Ap _ h1 (Ap _ (by rw[kB];exact h2) ⟨h.1,h.2.1,by simpa using h.2.2,λz hz=>?_,?_⟩))
  ·obtain⟨q,_,rfl⟩:=kC.1 hz;exact hs q
  ·rw[List.map_drop,List.map_take]at hk;exact hk
 ·cases hl
theorem UM (hg:GO ds gd e)(hs:DT P T=true)(hx:St.ev ⟨n,e,st⟩ x=.sl (l.map enc))(h1:l=[]->AO P k ops Q (ds++[some t]) r ⟨n,EC e t (.bool true),st⟩)(h2:AO P k ops Q (ds++[some t]) r ⟨n,EC e t (.bool false),st⟩){yT:TypeId}:
  AO P k ops Q ds (⟨some t,.binOp .eql T x (.const (.slice none 0 0)) yT,ty,ps,ed,gd⟩::r) ⟨n,e,st⟩:=by
 refine L9 hg ?_;rw[Yq];refine⟨hs,?_⟩;rw[hx];exact⟨λh=>h1 (mX.1 h),h2⟩
def Vo:List Row->Prop
 | []=>True
 | row::r=>DD row.xs/\Vo r
theorem Vo.get:∀{l:List Row},Vo l->∀row∈l,DD row.xs
 | row::r,h,rr,hm=>by
  rcases js.1 hm with rfl|hm
  ·exact h.1
  ·exact Vo.get h.2 rr hm
variable {f : FuncId} {pw : Array Operand} {ts : Array TypeId} {args : List AV} {rows : List Row} {s : St}
theorem CM (hg:GO ds gd e)(hb:Dl P f=true)(hc:Ab P f args [] λr st=>r=v/\st=rows)(ha:pw.toList.map (St.ev ⟨n,e,st⟩)++[]=args)(hf:args.all flat=true)(hp:Vo rows)(hv:shift st.length v=v')(pI:st++rows=st')
  (hk:AO P k ops Q (ds++[d]) r (St.put ⟨n,e,st'⟩ d v')):AO P k ops Q ds (⟨d,.call ⟨.value (.func f),pw,ts⟩,ty,ps,ed,gd⟩::r) ⟨n,e,st⟩:=by
 subst hv;subst pI;subst ha;refine L9 hg ?_;rw[NL];refine⟨hb,Ux hc hf ?_⟩;rintro r st' ⟨rfl,rfl⟩;exact⟨hp.get,hk⟩
theorem bS {g:Nat}{qK:α->List AV}(hr:st[id]?=some ⟨g,el,size,l.map enc⟩)(hu :∀x,Hz (enc x)=qK x):SD st (.own id g l.length)=.sl (l.map qK):=by
 simp only[SD,hr,kO];rw[<- kB (f:=enc) (as:=l),lW,lj,Hx,lU];congr 1;exact kM λx _=>hu x
theorem Rr {cs:List AV}(h:cs.all simple=true):Hz cs=cs:=by
 rw[Nl];exact (kM (g:=id) λc hc=>TU (jq.1 h c hc)).trans (lI _)
inductive BC (st:List Row):List AV->List AV->Prop
 | nil:BC st [] []
 | own {α:Type} {l:List α} {enc:α->List AV} {id g size m:Nat} {el:TypeId} {as bs:List AV} (hr:st[id]?=some ⟨g,el,size,l.map enc⟩) (hm:m=l.length) (hp :∀x,(enc x).all simple=true) (h:BC st as bs):BC st (.own id g m::as) (.sl (l.map enc)::bs)
 | ownD {α:Type} {l:List α} {enc qK:α->List AV} {id g size m:Nat} {el:TypeId} {as bs:List AV} (hr:st[id]?=some ⟨g,el,size,l.map enc⟩) (hm:m=l.length) (hp :∀x,(enc x).all Ed=true) (hu :∀x,Hz (enc x)=qK x) (h:BC st as bs):BC st (.own id g m::as) (.sl (l.map qK)::bs)
 | val {v:AV} {as bs:List AV} (hv:simple v=true) (h:BC st as bs):BC st (v::as) (v::bs)
inductive BA (st:List Row):List AV->List AV->Prop
 | nil:BA st [] []
 | own {α:Type} {l:List α} {enc:α->List AV} {id g size m:Nat} {el:TypeId} {as bs:List AV} (hr:st[id]?=some ⟨g,el,size,l.map enc⟩) (hm:m=l.length) (hp :∀x,(enc x).all simple=true) (h:BA st as bs):BA st (.own id g m::as) (.sl (l.map enc)::bs)
 | ownD {α:Type} {l:List α} {enc qK:α->List AV} {id g size m:Nat} {el:TypeId} {as bs:List AV} (hr:st[id]?=some ⟨g,el,size,l.map enc⟩) (hm:m=l.length) (hp :∀x,(enc x).all Ed=true) (hu :∀x,Hz (enc x)=qK x) (h:BA st as bs):BA st (.own id g m::as) (.sl (l.map qK)::bs)
 | agg {cs ds:List AV} {as bs:List AV} (hc:BC st cs ds) (h:BA st as bs):BA st (.agg cs::as) (.agg ds::bs)
 | val {v:AV} {as bs:List AV} (hv:flat v=true) (h:BA st as bs):BA st (v::as) (v::bs)
theorem R5 {v:AV}(h:simple v=true):SD st v=v:=by cases v<;>simp_all [simple,SD]
theorem BC.spec {as bs:List AV}(h:BC st as bs):as.map (SD st)=bs/\bs.all simple=true/\∀id g n,AV.own id g n∈as->∀row,st[id]?=some row->DD row.xs:=by
 induction h with
 | nil=>exact⟨rfl,rfl,by simp⟩
 | own hr hm hp h ih=>
  obtain⟨h1,h2,h3⟩:=ih;subst hm;refine⟨by rw[kI,bS hr (λx=>Rr (hp x)),h1],by simp[simple,h2],λpW g' n' hx row oY=>?_⟩;rcases js.1 hx with hx|hx
  ·cases hx;rw[hr]at oY;cases oY;exact (AD hp).any
  ·exact h3 pW g' n' hx row oY
 | ownD hr hm hp hu h ih=>
  obtain⟨h1,h2,h3⟩:=ih;subst hm;refine⟨by rw[kI,bS hr hu,h1],by simp[simple,h2],λpW g' n' hx row oY=>?_⟩;rcases js.1 hx with hx|hx
  ·cases hx;rw[hr]at oY;cases oY;exact Ah hp
  ·exact h3 pW g' n' hx row oY
 | @val v as bs hv h ih=>
  obtain⟨h1,h2,h3⟩:=ih;refine⟨by rw[kI,R5 hv,h1],by simp[hv,h2],λpW g' n' hx row oY=>?_⟩;rcases js.1 hx with hx|hx
  ·subst hx;simp[simple]at hv
  ·exact h3 pW g' n' hx row oY
theorem BA.spec {as bs:List AV}(h:BA st as bs):as.map (HQ st)=bs/\bs.all flat=true/\∀id g n,Pn as id g n->∀row,st[id]?=some row->DD row.xs:=by
 induction h with
 | nil=>exact⟨rfl,rfl,by rintro id g n (h|⟨_,h,_⟩)<;>simp at h⟩
 | own hr hm hp h ih=>
  obtain⟨h1,h2,h3⟩:=ih;subst hm;refine⟨by rw[kI,h1];congr 1;exact bS hr (λx=>Rr (hp x)),by simp[flat,h2],λpW g' n' hx row oY=>?_⟩;rcases hx with hx|⟨cs,hx,pt⟩
  ·rcases js.1 hx with hx|hx
   ·cases hx;rw[hr]at oY;cases oY;exact (AD hp).any
   ·exact h3 pW g' n' (.inl hx) row oY
  ·rcases js.1 hx with hx|hx
   ·cases hx
   ·exact h3 pW g' n' (.inr ⟨cs,hx,pt⟩) row oY
 | ownD hr hm hp hu h ih=>
  obtain⟨h1,h2,h3⟩:=ih;subst hm;refine⟨by rw[kI,h1];congr 1;exact bS hr hu,by simp[flat,h2],λpW g' n' hx row oY=>?_⟩;rcases hx with hx|⟨cs,hx,pt⟩
  ·rcases js.1 hx with hx|hx
   ·cases hx;rw[hr]at oY;cases oY;exact Ah hp
   ·exact h3 pW g' n' (.inl hx) row oY
  ·rcases js.1 hx with hx|hx
   ·cases hx
   ·exact h3 pW g' n' (.inr ⟨cs,hx,pt⟩) row oY
 | agg hc h ih=>
  obtain⟨h1,h2,h3⟩:=ih;obtain⟨g1,g2,g3⟩:=hc.spec;refine⟨by rw[kI,h1];simp only[HQ,g1],by simp only[lx,h2,Bool.and_true];simpa [flat] using g2,λpW g' n' hx row oY=>?_⟩;rcases hx with hx|⟨cs,hx,pt⟩
  ·rcases js.1 hx with hx|hx
   ·cases hx
   ·exact h3 pW g' n' (.inl hx) row oY
  ·rcases js.1 hx with hx|hx
   ·cases hx;exact g3 pW g' n' pt row oY
   ·exact h3 pW g' n' (.inr ⟨cs,hx,pt⟩) row oY
 | @val v as bs hv h ih=>
  obtain⟨h1,h2,h3⟩:=ih;have e1:HQ st v=v:=by
   cases v<;>simp[flat]at hv<;>try rfl
   rename_i cs;simp only[HQ];congr 1;exact (kM (g:=id) λc hc=>R5 (hv c hc)).trans (lI _)
  refine⟨by rw[kI,e1,h1],by simp[hv,h2],λpW g' n' hx row oY=>?_⟩;rcases hx with hx|⟨cs,hx,pt⟩
  ·rcases js.1 hx with hx|hx
   ·subst hx;simp[flat]at hv
   ·exact h3 pW g' n' (.inl hx) row oY
  ·rcases js.1 hx with hx|hx
   ·subst hx;have:=jq.1 (show cs.all simple=true from hv) _ pt;simp[simple]at this
   ·exact h3 pW g' n' (.inr ⟨cs,hx,pt⟩) row oY
def N9:List Row->Prop
 | []=>True
 | row::r=>(DD row.xs/\∀x∈row.xs,∀c∈x,NG c=true)/\N9 r
theorem N9.get:∀{l:List Row},N9 l->∀row∈l,DD row.xs/\∀x∈row.xs,∀c∈x,NG c=true
 | row::r,h,rr,hm=>by
  rcases js.1 hm with rfl|hm
  ·exact h.1
  ·exact N9.get h.2 rr hm
theorem gS {g:Nat}(h :∀x,(enc x).all (λc=>Ed c&&NG c)=true)(hr:N9 rows):N9 (⟨g,el,size,l.map enc⟩::rows):=by
 refine⟨⟨λx hx c hc=>?_,λx hx c hc=>?_⟩,hr⟩ <;>
 ·obtain⟨y,_,rfl⟩:=kC.1 hx;have:=jq.1 (h y) c hc;simp only[kF]at this;first|exact this.1|exact this.2
theorem gI {g:Nat}(h :∀x,(enc x).all (λc=>simple c&&NG c)=true)(hr:N9 rows):N9 (⟨g,el,size,l.map enc⟩::rows):=
 gS (λx=>jq.2 λc hc=>by
  have:=jq.1 (h x) c hc;simp only[kF]at this⊢;exact⟨Of this.1,this.2⟩) hr
theorem L3 {as:List AV}(hg:GO ds gd e)(hb:Dl P f=true)(hc:Ab P f args [] λr st=>r=v/\st=rows)(ha:pw.toList.map (St.ev ⟨n,e,st⟩)++[]=as)(hba:BA st as args)(zG:ax v=true)(hp:N9 rows)(hv:shift st.length v=v')(pI:st++rows=st')
  (hk:AO P k ops Q (ds++[d]) r (St.put ⟨n,e,st'⟩ d v')):AO P k ops Q ds (⟨d,.call ⟨.value (.func f),pw,ts⟩,ty,ps,ed,gd⟩::r) ⟨n,e,st⟩:=by
 subst hv;subst pI;subst ha;obtain⟨h1,h2,h3⟩:=hba.spec;refine L9 hg ?_;rw[NL];refine⟨hb,Ns (R:=λr st=>r=v/\st=rows) ?_ ?_ h3 ?_⟩
 ·show Ab P f (List.map (HQ st) _) [] _;rw[h1];exact hc
 ·show (List.map (HQ st) _).all flat=true;rw[h1];exact h2
 ·rintro r st' ⟨rfl,rfl⟩;exact⟨⟨zG,λrow oY=>(hp.get row oY).2⟩,λrow oY=>(hp.get row oY).1,hk⟩
theorem YV {as:List AV}{KS:St->Prop}{t:Tmp}(hg:GO ds gd e)(hb:Dl P f=true)(hc:Ab P f args [] λr st=>r=v/\st=[])(ha:pw.toList.map (St.ev ⟨n,e,st⟩)++[]=as)(hba:BA st as args)(zG:ax v=true)(hv:shift st.length v=v')
  (hk:D6 P (ds++[some t]) r KS ⟨n,EC e t v',st⟩):D6 P ds (⟨some t,.call ⟨.value (.func f),pw,ts⟩,ty,ps,ed,gd⟩::r) KS ⟨n,e,st⟩:=by
 subst hv;subst ha;obtain⟨h1,h2,h3⟩:=hba.spec;refine cE hg rfl (λs0 e1 e2 hd k F os a w hr next Q hn=>?_) hk;refine Kl (k:=k) (K:=(·=s0.put (some t) (shift st.length v))) hr hd ?_ hn;show Dl P f=true/\callThen P k s0 f (pw.toList.map s0.ev++[]) (some t) _;rw[Rz e2];refine⟨hb,?_⟩;subst e1;refine Ns (R:=λr st'=>r=v/\st'=[]) ?_ ?_ h3 ?_
 ·show Ab P f (List.map (HQ s0.st) _) [] _;rw[h1];exact hc
 ·show (List.map (HQ s0.st) _).all flat=true;rw[h1];exact h2
 ·rintro r st' ⟨rfl,rfl⟩;refine⟨⟨zG,by simp⟩,by simp,?_⟩;rw[ky]
end
section
variable {P : Program} {k : Nat} {Q : Exit -> St -> Prop} {s s' : St} {x y c : Code}
theorem GN {o:Operand}{b:Bool}(ho:s.ev o=.bool b)(h1:b=true->AW P k x Q s)(h2:b=false->AW P k y Q s):AW P k (.cond o x y) Q s:=
 AW.cond λK1 K2 e1 e2=>by rw[ho];exact⟨λh=>e1 (h1 h),λh=>e2 (h2 h)⟩
theorem Ax {σ:Type}(I:Nat->σ->Prop)(canon:σ->St)(n0:Nat)(v0:σ)(h0:I n0 v0)(hw:Wk k s (canon v0))(hz :∀v,¬ I 0 v)
  (round :∀n v,I (n+1) v->AW P k c (KF (λs'=>∃v',I n v'/\Wk k s' (canon v')) Q) (canon v)):AW P k (.loop c) Q s:=by
 refine AK hw ?_;have key:∀n v,I n v->∀F os a w,Rel F os (canon v) a w->∀(b:Frame) (kk:List Item) (cs:List Frame),
   ∃e a' w',J4 k Q F os w e a' w'/\Arrives P (lone (b.at a (.code c::.inLoop c::kk)) cs w) b kk cs e a' w':=by
  intro n
  induction n with
  | zero=>intro v hI;exact absurd hI (hz v)
  | succ n ih=>
   intro v hI F os a w hr b kk cs;obtain⟨e,a₁,w₁,⟨s1,F1,pU,hq,hR1,hE1⟩,harr⟩:=round n v hI F os a w hr b (.inLoop c::kk) cs;cases e with
   | normal=>
    obtain⟨v2,hI2,hw2⟩:=hq;obtain⟨F2,os2,hR2,hE2⟩:=hw2 F1 pU a₁ w₁ hR1;obtain⟨e₂,a₂,w₂,hq₂,harr₂⟩:=ih v2 hI2 F2 os2 a₁ w₁ hR2 b kk cs;exact⟨e₂,a₂,w₂,hq₂.trans (hE1.trans hE2),.of_steps (Steps.trans harr (.one step_inLoop)) harr₂⟩
   | exit id=>exact⟨_,a₁,w₁,⟨s1,F1,pU,hq,hR1,hE1⟩,.pass (x:=.inLoop c) rfl (λ_ _=>.inl (by simp)) harr⟩
   | goto l=>exact⟨_,a₁,w₁,⟨s1,F1,pU,hq,hR1,hE1⟩,.pass (x:=.inLoop c) rfl (λ_ _=>.inl (by simp)) harr⟩
   | ret=>exact⟨_,a₁,w₁,⟨s1,F1,pU,hq,hR1,hE1⟩,.pass (x:=.inLoop c) rfl (λ_ _=>.inl (by simp)) harr⟩
   | panic ch=>exact⟨_,a₁,w₁,⟨s1,F1,pU,hq,hR1,hE1⟩,.pass (x:=.inLoop c) rfl (λ_ _=>.inl (by simp)) harr⟩
   | outgrown=>exact⟨_,a₁,w₁,⟨s1,F1,pU,hq,hR1,hE1⟩,.pass (x:=.inLoop c) rfl (λ_ _=>.inl (by simp)) harr⟩
 intro F os a w hr b kk cs;obtain⟨e,a',w',hq,harr⟩:=key n0 v0 h0 F os a w hr b kk cs;exact⟨e,a',w',hq,.of_steps (.one step_loop) harr⟩
end
end Go.Abs
