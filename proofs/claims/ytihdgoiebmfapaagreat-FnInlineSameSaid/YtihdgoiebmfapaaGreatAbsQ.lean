import Derived.Test.YtihdgoiebmfapaaGreatAbsW
set_option linter.all false
namespace Go.Abs
open Go
structure LN (P:Program) where
 t:List (Nat×Bool×Nat)
 f:List (Nat×Nat×Nat)
 v:List (Nat×Nat×Nat×Bool×Nat)
 b:List Nat
 s:List Nat
 ht:(t.all λx=>decide (Dc P x.1=some x.2))=true
 hf:(f.all λx=>decide (IH P x.1 x.2.1=some x.2.2))=true
 hv:(v.all λx=>decide (VU P x.1 x.2.1=some x.2.2))=true
 hb:(b.all λx=>Oo P x)=true
 hs:(s.all λx=>DG P x)=true
def look {α:Type}:List (Nat×α)->Nat->Option α
 | [],_=>none
 |(a,x)::r,k=>bif Nat.beq a k then some x else look r k
def OR {α:Type}:List (Nat×Nat×α)->Nat->Nat->Option α
 | [],_,_=>none
 |(a,b,x)::r,k,m=>bif Nat.beq a k&&Nat.beq b m then some x else OR r k m
theorem Zn {α:Type}{k:Nat}{x:α}:∀{l:List (Nat×α)},look l k=some x->(k,x)∈l
 |(a,y)::r,h=>by
  unfold look at h;cases hb:Nat.beq a k with
  |true=>rw[hb]at h;cases h;cases qa hb;exact rI
  |false=>rw[hb]at h;exact qT _ (Zn h)
theorem TB {α:Type}{k m:Nat}{x:α}:∀{l:List (Nat×Nat×α)},OR l k m=some x->(k,m,x)∈l
 |(a,b,y)::r,h=>by
  unfold OR at h;cases hb:Nat.beq a k&&Nat.beq b m with
  |true=>
   rw[hb]at h;cases h;rw[pZ]at hb;cases qa hb.1;cases qa hb.2;exact rI
  |false=>rw[hb]at h;exact qT _ (TB h)
def has:List Nat->Nat->Bool
 | [],_=>false
 |a::r,k=>bif Nat.beq a k then true else has r k
theorem YR {k:Nat}:∀{l:List Nat},has l k=true->k∈l
 |a::r,h=>by
  unfold has at h;cases hb:Nat.beq a k with
  |true=>cases qa hb;exact rI
  |false=>rw[hb]at h;exact qT _ (YR h)
variable {P : Program} {T : LN P} {k m : Nat}
theorem Ky {x:Bool×Nat}(h:look T.t k=some x):Dc P k=some x:=ql (pG.1 T.ht _ (Zn h))
theorem RO {x:Nat}(h:OR T.f k m=some x):IH P k m=some x:=ql (pG.1 T.hf _ (TB h))
theorem ZP {x:Nat×Bool×Nat}(h:OR T.v k m=some x):VU P k m=some x:=ql (pG.1 T.hv _ (TB h))
theorem LN.bo (h:has T.b k=true):Oo P k=true:=pG.1 T.hb _ (YR h)
theorem LN.sl (h:has T.s k=true):DG P k=true:=pG.1 T.hs _ (YR h)
def fo:AV->Option AV
 |.FZ=>none
 |.un=>some .un
 |.int k n=>some (.int k n)
 |.bool b=>some (.bool b)
 |.str s=>some (.str s)
 |.zc=>some .zc
 |.SL=>some .SL
 |.SE=>some .SE
 |.sl xs=>some (.sl xs)
 |.own a b c=>some (.own a b c)
 |.ptr a b c d=>some (.ptr a b c d)
 |.C9 x o=>some (.C9 x o)
 |.fn f c=>some (.fn f c)
 |.agg c=>some (.agg c)
 |.C8 c=>some (.C8 c)
 |.dv a b c=>some (.dv a b c)
theorem Pa {a v:AV}(h:fo a=some v):a=v:=by cases a<;>cases h<;>rfl
def arith (o:BinOp)(k:IntKind)(a b:Int):Option AV:=
 match o with
 |.add=>match k with
  |.i64=>some (i64 (Sh.w (a+b)))
  |k=>some (.int k (Sh.wk k (a+b)))
 |.sub=>match k with
  |.i64=>some (i64 (Sh.w (a-b)))
  |k=>some (.int k (Sh.wk k (a-b)))
 |.mul=>match k with
  |.i64=>some (i64 (Sh.w (a*b)))
  |k=>some (.int k (Sh.wk k (a*b)))
 |.lss=>some (.bool (decide (a<b)))
 |.leq=>some (.bool (decide (a<=b)))
 |.gtr=>some (.bool (decide (b<a)))
 |.geq=>some (.bool (decide (b<=a)))
 |.eql=>some (.bool (decide (a=b)))
 |.neq=>some (.bool (!decide (a=b)))
 |_=>none
def jQ (k k':IntKind):Bool:=decide (k=k')
def jN (T:LN P)(o:BinOp)(t:Nat):AV->AV->Option AV
 |.int k a,.int k' b=>bif jQ k k' then arith o k a b else none
 | .bool p,.bool q=>bif has T.b t then (match o with
  |.eql=>some (.bool (p==q))
  |.neq=>some (.bool (p != q))
  | _=>none) else none
 |_,_=>none
def VD (xs:List (List AV))(cs:List AV)(off:Nat):Bool×Nat->Option AV
 |(false,_)=>(cs[off]?).bind fo
 |(true,sz)=>bif Nat.ble (off+sz) cs.length then some (.agg ((cs.drop off).take sz)) else none
def Ze (g:Nat)(r:Option Row){α:Type}(f:Row->Option α):Option α:=
 match r with
 |none=>none
 |some r=>bif Nat.beq r.gen g then f r else none
def Xi (T:LN P)(s:St)(t:Nat):AV->Option AV
 |.C9 cs off=>(look T.t t).bind (VD [] cs off)
 |.ptr id g i off=>Ze g s.st[id]? λr=>(r.xs[i]?).bind λcs=>(look T.t t).bind (VD [] cs off)
 |_=>none
def qE (T:LN P)(s:St):Op->Option AV
 |.move x=>fo (s.ev x)
 |.assign x=>fo (s.ev x)
 |.binOp o t x y _=>jN T o t (s.ev x) (s.ev y)
 |.unOp .not _ x=>match s.ev x with
  |.bool p=>some (.bool (!p))
  |_=>none
 |.unOp .neg _ x=>match s.ev x with
  |.int .i64 a=>some (i64 (Sh.w (-a)))
  |_=>none
 |.extract x i=>match s.ev x with
  |.C8 vs=>(vs[i]?).bind fo
  |_=>none
 |.nilCheck x=>match s.ev x with
  |.ptr id g i off=>Ze g s.st[id]? λ_=>some (.ptr id g i off)
  |.C9 cs off=>some (.C9 cs off)
  |_=>none
 |.fieldAddr t x f=>match s.ev x with
  |.C9 cs off=>(OR T.f t f).bind λj=>some (.C9 cs (off+j))
  |.ptr id g i off=>(OR T.f t f).bind λj=>Ze g s.st[id]? λr=>bif Nat.ble (off+j) r.size then some (.ptr id g i (off+j)) else none
  |_=>none
 |.load t x=>Xi T s t (s.ev x)
 |.field t x f=>match s.ev x with
  |.agg cs=>(OR T.v t f).bind λi=>VD [] cs i.1 i.2
  |_=>none
 |_=>none
theorem NU {α:Type}{g:Nat}{r:Option Row}{f:Row->Option α}{v:α}(h:Ze g r f=some v):∃el size xs,r=some ⟨g,el,size,xs⟩/\f ⟨g,el,size,xs⟩=some v:=by
 unfold Ze at h;split at h
 .cases h
 .rename_i r;cases hb:Nat.beq r.gen g with
  |true=>rw[hb]at h;cases qa hb;exact⟨_,_,_,rfl,h⟩
  |false=>rw[hb]at h;cases h
theorem kJ {s:St}{o:BinOp}{t t':TypeId}{x y:Operand}{v:AV}(h:jN T o t (s.ev x) (s.ev y)=some v):AQ P s (.binOp o t x y t') v:=by
 unfold jN at h;split at h
 .rename_i kk a yh b hx hy;cases hk:jQ kk yh with
  |false=>rw[hk]at h;cases h
  |true=>
   rw[hk]at h;have wY:kk=yh:=ql hk;subst wY;simp only[cond_true]at h;cases o<;>simp only[arith]at h;all_goals try (cases kk<;>cases h<;>first|exact UB hx hy|exact PH hx hy|exact kV hx hy|exact kG hx hy|exact kL hx hy|exact jA hx hy)
   all_goals first
    |(cases h;done)
    |(cases h;first|exact dx hx hy|exact mV hx hy|exact mM hx hy|exact nM hx hy|exact mc hx hy|exact nE hx hy)
 .rename_i p q hx hy;cases hb:has T.b t with
  |false=>rw[hb]at h;cases h
  |true=>
   rw[hb]at h;simp only[cond_true]at h;cases o<;>first
    |(cases h;done)
    |(cases h;first|exact lU (T.bo hb) hx hy|exact kv (T.bo hb) hx hy)
 .cases h
theorem MJ {cs:List AV}{off:Nat}{i:Bool×Nat}{v:AV}(h:VD [] cs off i=some v):(i.1=false/\cs[off]?=some v)∨(i.1=true/\off+i.2<=cs.length/\v=.agg ((cs.drop off).take i.2)):=by
 obtain⟨b,sz⟩:=i;cases b with
 |false=>
  simp only[VD]at h;obtain⟨a,h1,h2⟩:=pz.1 h;rw[h1,Pa h2];exact .inl ⟨rfl,rfl⟩
 |true=>
  simp only[VD]at h;cases hb:Nat.ble (off+sz) cs.length with
  |false=>rw[hb]at h;cases h
  |true=>rw[hb]at h;cases h;exact .inr ⟨rfl,qW hb,rfl⟩
theorem gk {s:St}{t:TypeId}{x:Operand}{v:AV}(h:Xi T s t (s.ev x)=some v):AQ P s (.load t x) v:=by
 unfold Xi at h;split at h
 .rename_i cs off hx;obtain⟨⟨b,sz⟩,h1,h2⟩:=pz.1 h;rcases MJ h2 with ⟨hb,h3⟩|⟨hb,h3,rfl⟩<;>simp only at hb<;>subst hb
  .exact IM (Ky h1) hx h3
  .exact H0 (Ky h1) hx h3 rfl
 .rename_i id g i off hx;obtain⟨el,size,xs,hr,h⟩:=NU h;obtain⟨cs,hi,h⟩:=pz.1 h;obtain⟨⟨b,sz⟩,h1,h2⟩:=pz.1 h;rcases MJ h2 with ⟨hb,h3⟩|⟨hb,h3,rfl⟩<;>simp only at hb<;>subst hb
  .exact CF (Ky h1) hx hr hi h3
  .exact Cp (Ky h1) hx hr hi h3 rfl
 .cases h
theorem ar {s:St}{op:Op}{v:AV}(h:qE T s op=some v):AQ P s op v:=by
 unfold qE at h;split at h
 .exact BQ (Pa h)
 .exact VY (Pa h)
 .exact kJ h
 .split at h
  .rename_i hx;cases h;exact kX hx
  .cases h
 .split at h
  .rename_i hx;cases h;exact lP hx
  .cases h
 .split at h
  .rename_i vs hx;obtain⟨a,h1,h2⟩:=pz.1 h;rw[Pa h2]at h1;exact mg hx h1
  .cases h
 .split at h
  .rename_i hx;obtain⟨el,size,xs,hr,h⟩:=NU h;cases h;exact lz hx hr
  .rename_i hx;cases h;exact lL hx
  .cases h
 .split at h
  .rename_i hx;obtain⟨j,h1,h2⟩:=pz.1 h;cases h2;exact Iu (RO h1) hx rfl
  .rename_i hx;obtain⟨j,h1,h2⟩:=pz.1 h;obtain⟨el,size,xs,hr,h2⟩:=NU h2;simp only at h2;cases hb:Nat.ble (_+j) size with
   |false=>rw[hb]at h2;cases h2
   |true=>rw[hb]at h2;cases h2;exact FN (RO h1) hx hr (qW hb) rfl
  .cases h
 .exact gk h
 .split at h
  .rename_i hx;obtain⟨⟨o,b,sz⟩,h1,h2⟩:=pz.1 h;rcases MJ h2 with ⟨hb,h3⟩|⟨hb,h3,rfl⟩<;>simp only at hb<;>subst hb
   .exact mT (ZP h1) hx h3
   .exact kY (ZP h1) hx h3 rfl
  .cases h
 .cases h
abbrev ow {α:Type}(i g:Nat)(l:List α):AV:=.own i g l.length
abbrev ro {α:Type}(g el size:Nat)(enc:α->List AV)(l:List α):Row:=⟨g,el,size,l.map enc⟩
abbrev ls {α:Type}(enc:α->List AV)(l:List α):AV:=.sl (l.map enc)
def ll:AV->Option Bool
 |.bool b=>some b
 |_=>none
theorem Tf {v:AV}{b:Bool}(h:ll v=some b):v=.bool b:=by cases v<;>cases h;rfl
def gE (ds:List (Option Tmp))(jj:Nat)(e:Nat->AV):Option Bool:=
 match ds[jj]? with
 |some (some t)=>ll (e t)
 |_=>none
def uE (ds:List (Option Tmp))(jj:Nat)(e:Nat->AV):Bool:=
 match ds[jj]? with
 |some (some t)=>match e t with
  |.un=>true
  |_=>false
 |_=>false
section
variable {P : Program} {k : Nat} {ops : Array Oper} {Q : Exit -> St -> Prop} {ds : List (Option Tmp)} {r : List Oper} {n : Nat} {e : Nat -> AV} {st st' : List Row} {op : Op} {ty t' : TypeId} {ps : String} {ed : Array Edge} {d : Option Tmp} {t : Tmp} {v v' : AV}
variable {jj : Nat} {want b p : Bool} {tg : Tmp} {gd : Option (Nat × Bool)} {x y c : Operand} {KS : St -> Prop}
theorem dV (h:gE ds jj e=some b)(hb:b=want):GO ds (some (jj,want)) e:=by
 unfold gE at h;split at h
 .rename_i tg hj;exact CR hj (Tf h) hb
 .cases h
def qL (T:LN P)(s:St)(op:Op):Option AV:=bif Kk op then none else qE T s op
theorem QH {s:St}(h:qL T s op=some v):Kk op=false/\qE T s op=some v:=by
 unfold qL at h;cases hl:Kk op with
 |true=>rw[hl]at h;cases h
 |false=>rw[hl]at h;exact⟨rfl,h⟩
def gL (T:LN P)(ds:List (Option Tmp))(jj:Nat)(s:St)(op:Op):Option (Bool×AV):=
 match gE ds jj s.env with
 |some b=>match qL T s op with
  |some v=>some (b,v)
  |none=>none
 |none=>none
theorem OU {s:St}(h:gL T ds jj s op=some (b,v)):gE ds jj s.env=some b/\Kk op=false/\qE T s op=some v:=by
 unfold gL at h;split at h
 .rename_i b' hg;split at h
  .rename_i v' hv;cases h;exact⟨hg,QH hv⟩
  .cases h
 .cases h
def pE (s:St)(c x:Operand):Option (Bool×AV):=
 match ll (s.ev c) with
 |some b=>match fo (s.ev x) with
  |some v=>some (b,v)
  |none=>none
 |none=>none
theorem MK {s:St}{c x:Operand}(h:pE s c x=some (b,v)):s.ev c=.bool b/\s.ev x=v:=by
 unfold pE at h;split at h
 .rename_i b' hg;split at h
  .rename_i v' hv;cases h;exact⟨Tf hg,Pa hv⟩
  .cases h
 .cases h
theorem zq (T:LN P)(h:qL T ⟨n,e,st⟩ op=some v)(hk:AO P k ops Q (ds++[some t]) r ⟨n,DQ e t v,st⟩):AO P k ops Q ds (⟨some t,op,ty,ps,ed,none⟩::r) ⟨n,e,st⟩:=BW AN (QH h).1 (ar (QH h).2) hk
theorem zg (T:LN P)(hb:b=want)(h:gL T ds jj ⟨n,e,st⟩ op=some (b,v))(hk:AO P k ops Q (ds++[some t]) r ⟨n,DQ e t v,st⟩):AO P k ops Q ds (⟨some t,op,ty,ps,ed,some (jj,want)⟩::r) ⟨n,e,st⟩:=BW (dV (OU h).1 hb) (OU h).2.1 (ar (OU h).2.2) hk
theorem zz (v:AV)(h:AQ P ⟨n,e,st⟩ op v)(hl:Kk op=false)(hk:AO P k ops Q (ds++[some t]) r ⟨n,DQ e t v,st⟩):AO P k ops Q ds (⟨some t,op,ty,ps,ed,none⟩::r) ⟨n,e,st⟩:=BW AN hl h hk
theorem yq (T:LN P)(h:qL T ⟨n,e,st⟩ op=some v)(hk:EK P (ds++[some t]) r KS ⟨n,DQ e t v,st⟩):EK P ds (⟨some t,op,ty,ps,ed,none⟩::r) KS ⟨n,e,st⟩:=Io AN (QH h).1 (ar (QH h).2) hk
theorem yg (T:LN P)(hb:b=want)(h:gL T ds jj ⟨n,e,st⟩ op=some (b,v))(hk:EK P (ds++[some t]) r KS ⟨n,DQ e t v,st⟩):EK P ds (⟨some t,op,ty,ps,ed,some (jj,want)⟩::r) KS ⟨n,e,st⟩:=Io (dV (OU h).1 hb) (OU h).2.1 (ar (OU h).2.2) hk
theorem yz (v:AV)(h:AQ P ⟨n,e,st⟩ op v)(hl:Kk op=false)(hk:EK P (ds++[some t]) r KS ⟨n,DQ e t v,st⟩):EK P ds (⟨some t,op,ty,ps,ed,none⟩::r) KS ⟨n,e,st⟩:=Io AN hl h hk
theorem zs (hb:b=!want)(hg:gE ds jj e=some b)(h:AO P k ops Q (ds++[some t]) r ⟨n,DQ e t .un,st⟩):AO P k ops Q ds (⟨some t,op,ty,ps,ed,some (jj,want)⟩::r) ⟨n,e,st⟩:=by
 unfold gE at hg;split at hg
 .rename_i tg hj;exact kI hj (Tf hg) hb h
 .cases hg
theorem ys (hb:b=!want)(hg:gE ds jj e=some b)(h:EK P (ds++[some t]) r KS ⟨n,DQ e t .un,st⟩):EK P ds (⟨some t,op,ty,ps,ed,some (jj,want)⟩::r) KS ⟨n,e,st⟩:=by
 unfold gE at hg;split at hg
 .rename_i tg hj;exact lj hj (Tf hg) hb h
 .cases hg
theorem jq (hu:uE ds jj e=true):∃tg,ds[jj]?=some (some tg)/\e tg=.un:=by
 unfold uE at hu;split at hu
 .rename_i tg hj;refine⟨tg,hj,?_⟩;cases he:e tg<;>rw[he]at hu<;>cases hu
 .cases hu
theorem zn (hu:uE ds jj e=true)(h:AO P k ops Q (ds++[some t]) r ⟨n,DQ e t .un,st⟩):AO P k ops Q ds (⟨some t,op,ty,ps,ed,some (jj,want)⟩::r) ⟨n,e,st⟩:=by
 obtain⟨tg,h1,h2⟩:=jq hu;exact kH h1 h2 h
def ZX (T:LN P)(n:Nat)(st:List Row):List Oper->(Nat->AV)->Option (Nat->AV)
 | [],e=>some e
 |⟨some t,op,_,_,_,none⟩::r,e=>match qL T ⟨n,e,st⟩ op with
  |some v=>ZX T n st r (DQ e t v)
  |none=>none
 |_,_=>none
theorem bW {T:LN P}:∀{l:List Oper} {e e':Nat->AV} {ds:List (Option Tmp)},ZX T n st l e=some e'->(∀ds,AO P k ops Q ds [] ⟨n,e',st⟩)->AO P k ops Q ds l ⟨n,e,st⟩
 | [],e,e',ds,h,hk=>by
  simp only[ZX,pC]at h;subst h;exact hk ds
 |o::r,e,e',ds,h,hk=>by
  unfold ZX at h;split at h
  .rename_i h0;cases h0
  .rename_i t op ty ps ed r' e0 h0;cases h0;split at h
   .rename_i v hv;exact zq T hv (bW h hk)
   .cases h
  .cases h
def runN (T:LN P)(n:Nat)(st:List Row):Nat->List Oper->List (Option Tmp)->(Nat->AV)->Option (List Oper×List (Option Tmp)×(Nat->AV))
 |0,l,ds,e=>some (l,ds,e)
 |m+1,⟨some t,op,_,_,_,none⟩::r,ds,e=>match qL T ⟨n,e,st⟩ op with
  |some v=>runN T n st m r (ds++[some t]) (DQ e t v)
  |none=>none
 |_,_,_,_=>none
theorem zm (T:LN P):∀(m:Nat) {l l':List Oper} {e e':Nat->AV} {ds ds':List (Option Tmp)},runN T n st m l ds e=some (l',ds',e')->AO P k ops Q ds' l' ⟨n,e',st⟩->AO P k ops Q ds l ⟨n,e,st⟩
 |0,l,l',e,e',ds,ds',h,hk=>by
  simp only[runN,pC,rA]at h;obtain⟨rfl,rfl,rfl⟩:=h;exact hk
 |m+1,[],l',e,e',ds,ds',h,hk=>by simp[runN]at h
 |m+1,o::r,l',e,e',ds,ds',h,hk=>by
  unfold runN at h;split at h
  .rename_i h0;cases h0
  .rename_i m0 t op ty ps ed r' hm h0;cases h0;cases hm;split at h
   .rename_i v hv;exact zq T hv (zm T m h hk)
   .cases h
  .cases h
theorem zt (hp:p=true)(h:pE ⟨n,e,st⟩ c x=some (p,v))(hk:AO P k ops Q (ds++[some t]) r ⟨n,DQ e t v,st⟩):AO P k ops Q ds (⟨some t,.pick c x y,ty,ps,ed,none⟩::r) ⟨n,e,st⟩:=BW AN rfl (Km (MK h).1 hp (MK h).2) hk
theorem zf (hp:p=false)(h:pE ⟨n,e,st⟩ c y=some (p,v))(hk:AO P k ops Q (ds++[some t]) r ⟨n,DQ e t v,st⟩):AO P k ops Q ds (⟨some t,.pick c x y,ty,ps,ed,none⟩::r) ⟨n,e,st⟩:=BW AN rfl (LR (MK h).1 hp (MK h).2) hk
theorem yt (hp:p=true)(h:pE ⟨n,e,st⟩ c x=some (p,v))(hk:EK P (ds++[some t]) r KS ⟨n,DQ e t v,st⟩):EK P ds (⟨some t,.pick c x y,ty,ps,ed,none⟩::r) KS ⟨n,e,st⟩:=Io AN rfl (Km (MK h).1 hp (MK h).2) hk
theorem yf (hp:p=false)(h:pE ⟨n,e,st⟩ c y=some (p,v))(hk:EK P (ds++[some t]) r KS ⟨n,DQ e t v,st⟩):EK P ds (⟨some t,.pick c x y,ty,ps,ed,none⟩::r) KS ⟨n,e,st⟩:=Io AN rfl (LR (MK h).1 hp (MK h).2) hk
variable {α : Type} {l : List α} {enc : α -> List AV} {kk : IntKind} {j : Int} {u : α} {el size bytes : Nat} {zz : List AV}
theorem zl (T:LN P)(hs:has T.s t'=true)(hx:St.ev ⟨n,e,st⟩ x=.sl (l.map enc))(hk:AO P k ops Q (ds++[some t]) r ⟨n,DQ e t (i64 (Sh.len l)),st⟩):AO P k ops Q ds (⟨some t,.call ⟨.builtin .len,#[x],#[t']⟩,ty,ps,ed,none⟩::r) ⟨n,e,st⟩:=BW AN rfl (CU (T.sl hs) hx) hk
theorem yl (T:LN P)(hs:has T.s t'=true)(hx:St.ev ⟨n,e,st⟩ x=.sl (l.map enc))(hk:EK P (ds++[some t]) r KS ⟨n,DQ e t (i64 (Sh.len l)),st⟩):EK P ds (⟨some t,.call ⟨.builtin .len,#[x],#[t']⟩,ty,ps,ed,none⟩::r) KS ⟨n,e,st⟩:=Io AN rfl (CU (T.sl hs) hx) hk
theorem zx (he:DB P t'=some ⟨el,size,bytes,zz⟩)(hg:Sh.get l j=some u)(hx:St.ev ⟨n,e,st⟩ x=.sl (l.map enc))(hy:St.ev ⟨n,e,st⟩ y=.int kk j)(hs:(enc u).length=size)(hk:AO P k ops Q (ds++[some t]) r ⟨n,DQ e t (.C9 (enc u) 0),st⟩):AO P k ops Q ds (⟨some t,.indexAddr t' x y,ty,ps,ed,none⟩::r) ⟨n,e,st⟩:=BW AN rfl (CZ he hx hy hg hs) hk
theorem yx (he:DB P t'=some ⟨el,size,bytes,zz⟩)(hg:Sh.get l j=some u)(hx:St.ev ⟨n,e,st⟩ x=.sl (l.map enc))(hy:St.ev ⟨n,e,st⟩ y=.int kk j)(hs:(enc u).length=size)(hk:EK P (ds++[some t]) r KS ⟨n,DQ e t (.C9 (enc u) 0),st⟩):EK P ds (⟨some t,.indexAddr t' x y,ty,ps,ed,none⟩::r) KS ⟨n,e,st⟩:=Io AN rfl (CZ he hx hy hg hs) hk
variable {f : FuncId} {vI : Array Operand} {ts : Array TypeId} {args : List AV}
theorem zd (hbw:b=want)(hb:Cq P f=true)(hc:BJ P f args [] λr st=>r=v/\st=[])(ha:vI.toList.map (St.ev ⟨n,e,st⟩)++[]=args)(hf:args.all flat=true)(hv:fo (shift st.length v)=some v')
  (hg:gE ds jj e=some b) (hk:AO P k ops Q (ds++[d]) r (St.put ⟨n,e,st⟩ d v')):AO P k ops Q ds (⟨d,.call ⟨.value (.func f),vI,ts⟩,ty,ps,ed,some (jj,want)⟩::r) ⟨n,e,st⟩:=
 Bo (dV hg hbw) hb hc ha hf oz (Pa hv) (qR st) hk
theorem zc (hb:Cq P f=true)(hc:BJ P f args [] λr st=>r=v/\st=[])(ha:vI.toList.map (St.ev ⟨n,e,st⟩)++[]=args)(hf:args.all flat=true)(hv:fo (shift st.length v)=some v')
  (hk:AO P k ops Q (ds++[d]) r (St.put ⟨n,e,st⟩ d v')):AO P k ops Q ds (⟨d,.call ⟨.value (.func f),vI,ts⟩,ty,ps,ed,none⟩::r) ⟨n,e,st⟩:=
 Bo AN hb hc ha hf oz (Pa hv) (qR st) hk
theorem sr {id:Nat}{y:Code}{s:St}(hd:(ops.toList.all λo=>Cy s.n o.dst)=true)(h :∀K:St->Prop,(∀s,AW P k y Q s->K s)->AO P k ops (LQ K Q) [] ops.toList s):AW P k (.seq (.region id ops false) y) Q s:=
 AE λK hK=>AF hd (h K hK)
def Vc:Nat->List AV->List (Nat×AV)
 |_,[]=>[]
 |i,a::r=>(i,a)::Vc (i+1) r
theorem Uz:∀(l:List AV) (i t:Nat),AP (Vc i l) t=if t<i then .FZ else (l[t-i]?).getD .FZ
 | [],i,t=>by simp[Vc,AP]
 |a::r,i,t=>by
  simp only[Vc,AP,Uz r (i+1) t];by_cases h:t=i
  .subst h;simp
  .by_cases h2:t<i
   .simp[h,h2,Nat.lt_succ_of_lt h2]
   .obtain⟨d,hd⟩ :∃d,t-i=d+1:=⟨t-i-1,by omega⟩
    have h3:¬ t<i+1:=by omega
    simp[h,h2,h3,hd,show t-(i+1)=d by omega]
theorem ai {k N:Nat}{f:FuncId}{fn:Func}{c:Code}{args:List AV}{st:List Row}{R:AV->List Row->Prop}(hf:P.funcs[f]?=some fn)(hb:fn.body=some c)(hN:fn.ntmps=N)(hn:Nat.ble args.length N=true)(hk:st.length=k)
  (h:AW P k c (fy P k fn R) ⟨N,AP (Vc 0 args),st⟩):BJ P f args st R:=by
 subst hN;subst hk;refine BJ.intro hf hb (qW hn) ?_;have e:Pm args=AP (Vc 0 args):=by
  funext t;rw[Uz];simp[Pm,rM]
 rw[e];exact h
theorem zr (T:LN P){id:Nat}{y:Code}{e':Nat->AV}(h:ZX T n st ops.toList e=some e')(hd:(ops.toList.all λo=>Cy n o.dst)=true)(hk:AW P k y Q ⟨n,e',st⟩):AW P k (.seq (.region id ops false) y) Q ⟨n,e,st⟩:=
 AE λK hK=>AF hd (bW h λds=>AB (hK _ hk))
theorem dn {s:St}{K p:St->Prop}(hK :∀s,p s->K s)(hq:Q .normal s=K s)(h:p s):AO P k ops Q ds [] s:=AB (hq▸hK s h)
theorem ci {α:Type}{o:Operand}{x y:Code}{s:St}{A B C:α}(h:(if b=true then A else B)=C)(ho:ll (s.ev o)=some b)(h1:b=true->A=C->AW P k x Q s)(h2:b=false->B=C->AW P k y Q s):AW P k (.cond o x y) Q s:=
 G0 (Tf ho) (λhb=>h1 hb (by rw[<- h,pI hb])) (λhb=>h2 hb (by rw[<- h,pJ (by rw[hb];decide)]))
theorem bs {α β:Type}{x:Option α}{f:α->Option β}{r:β}{G:Prop}(h:x.bind f=some r)(k :∀v,x=some v->f v=some r->G):G:=
 let ⟨v,h1,h2⟩:=Sh.bind_some h;k v h1 h2
theorem xi {α:Type}{p q:α->Prop}(a:α)(h:p a)(g:q a):∃a,p a/\q a:=⟨a,h,g⟩
theorem xr {α:Type}{p q:α->Prop}{a:α}(h:p a)(g:q a:=by exact And.intro rfl rfl):∃a,p a/\q a:=⟨a,h,g⟩
def Tw (e:Nat->AV):List (Nat×AV)->List AV
 | []=>[]
 |(t,_)::r=>e t::Tw e r
def TF:List (Nat×AV)->List AV
 | []=>[]
 |(_,v)::r=>v::TF r
theorem ME.of {e:Nat->AV}:∀{L:List (Nat×AV)},Tw e L=TF L->ME e L
 | [],_=>trivial
 |(t,v)::r,h=>by
  simp only[Tw,TF,rp]at h;exact⟨le.of h.1,ME.of h.2⟩
theorem Bz {L:List (Nat×AV)}(h:Tw e L=TF L):Wk k ⟨n,e,st⟩ ⟨n,AP L,st⟩:=Ag (ME.of h)
theorem Be (L:List (Nat×AV))(h:Tw (λt=>Jn [] (e t)) L=TF L):Wk 0 ⟨n,e,st⟩ ⟨n,AP L,[]⟩:=
 Qq (L:=L) (st':=[]) (st1:=[]) [] rfl .nil (by decide) rfl rfl .nil (ME.of h)
end
end Go.Abs
