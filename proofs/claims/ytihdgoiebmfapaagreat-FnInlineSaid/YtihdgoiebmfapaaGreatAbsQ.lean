import Derived.Test.YtihdgoiebmfapaaGreatAbsW
set_option linter.all false
namespace Go.Abs
open Go
structure LP (P:Program) where
 t:List (Nat×Bool×Nat)
 f:List (Nat×Nat×Nat)
 v:List (Nat×Nat×Nat×Bool×Nat)
 b:List Nat
 s:List Nat
 ht:(t.all λx=>decide (Dd P x.1=some x.2))=true
 hf:(f.all λx=>decide (IJ P x.1 x.2.1=some x.2.2))=true
 hv:(v.all λx=>decide (Uk P x.1 x.2.1=some x.2.2))=true
 hb:(b.all λx=>OV P x)=true
 hs:(s.all λx=>DH P x)=true
def look {α:Type}:List (Nat×α)->Nat->Option α
 | [],_=>none
 |(a,x)::r,k=>bif Nat.beq a k then some x else look r k
def OG {α:Type}:List (Nat×Nat×α)->Nat->Nat->Option α
 | [],_,_=>none
 |(a,b,x)::r,k,m=>bif Nat.beq a k&&Nat.beq b m then some x else OG r k m
theorem Zb {α:Type}{k:Nat}{x:α}:∀{l:List (Nat×α)},look l k=some x->(k,x)∈l
 |(a,y)::r,h=>by
  unfold look at h;cases hb:Nat.beq a k with
  |true=>rw[hb]at h;cases h;cases qb hb;exact rJ
  |false=>rw[hb]at h;exact qU _ (Zb h)
theorem Su {α:Type}{k m:Nat}{x:α}:∀{l:List (Nat×Nat×α)},OG l k m=some x->(k,m,x)∈l
 |(a,b,y)::r,h=>by
  unfold OG at h;cases hb:Nat.beq a k&&Nat.beq b m with
  |true=>
   rw[hb]at h;cases h;rw[pb]at hb;cases qb hb.1;cases qb hb.2;exact rJ
  |false=>rw[hb]at h;exact qU _ (Su h)
def has:List Nat->Nat->Bool
 | [],_=>false
 |a::r,k=>bif Nat.beq a k then true else has r k
theorem X9 {k:Nat}:∀{l:List Nat},has l k=true->k∈l
 |a::r,h=>by
  unfold has at h;cases hb:Nat.beq a k with
  |true=>cases qb hb;exact rJ
  |false=>rw[hb]at h;exact qU _ (X9 h)
variable {P : Program} {T : LP P} {k m : Nat}
theorem Kx {x:Bool×Nat}(h:look T.t k=some x):Dd P k=some x:=qm (pH.1 T.ht _ (Zb h))
theorem RZ {x:Nat}(h:OG T.f k m=some x):IJ P k m=some x:=qm (pH.1 T.hf _ (Su h))
theorem Zm {x:Nat×Bool×Nat}(h:OG T.v k m=some x):Uk P k m=some x:=qm (pH.1 T.hv _ (Su h))
theorem LP.bo (h:has T.b k=true):OV P k=true:=pH.1 T.hb _ (X9 h)
theorem LP.sl (h:has T.s k=true):DH P k=true:=pH.1 T.hs _ (X9 h)
def fo:AV->Option AV
 |.FY=>none
 |.un=>some .un
 |.int k n=>some (.int k n)
 |.bool b=>some (.bool b)
 |.str s=>some (.str s)
 |.zc=>some .zc
 |.SK=>some .SK
 |.R9=>some .R9
 |.sl xs=>some (.sl xs)
 |.own a b c=>some (.own a b c)
 |.ptr a b c d=>some (.ptr a b c d)
 |.C8 x o=>some (.C8 x o)
 |.fn f c=>some (.fn f c)
 |.agg c=>some (.agg c)
 |.DF c=>some (.DF c)
 |.dv a b c=>some (.dv a b c)
theorem PL {a v:AV}(h:fo a=some v):a=v:=by cases a<;>cases h<;>rfl
def arith (o:BinOp)(k:IntKind)(a b:Int):Option AV:=
 match o with
 |.add=>match k with
  |.i64=>some (i64 (Sh.w (a+b)))
  |k=>some (.int k (Sh.wk k (a+b)))
 |.sub=>match k with
  |.i64=>some (i64 (Sh.w (a-b)))
  |k=>some (.int k (Sh.wk k (a-b)))
 |.mul=>match k with
  |.i64=>some (i64 (Sh.w (a*b)))
  |k=>some (.int k (Sh.wk k (a*b)))
 |.lss=>some (.bool (decide (a<b)))
 |.leq=>some (.bool (decide (a<=b)))
 |.gtr=>some (.bool (decide (b<a)))
 |.geq=>some (.bool (decide (b<=a)))
 |.eql=>some (.bool (decide (a=b)))
 |.neq=>some (.bool (!decide (a=b)))
 |_=>none
def iy (k k':IntKind):Bool:=decide (k=k')
def ji (T:LP P)(o:BinOp)(t:Nat):AV->AV->Option AV
 |.int k a,.int k' b=>bif iy k k' then arith o k a b else none
 | .bool p,.bool q=>bif has T.b t then (match o with
  |.eql=>some (.bool (p==q))
  |.neq=>some (.bool (p != q))
  | _=>none) else none
 |_,_=>none
def Ug (xs:List (List AV))(cs:List AV)(off:Nat):Bool×Nat->Option AV
 |(false,_)=>(cs[off]?).bind fo
 |(true,sz)=>bif Nat.ble (off+sz) cs.length then some (.agg ((cs.drop off).take sz)) else none
def Zg (g:Nat)(r:Option Row){α:Type}(f:Row->Option α):Option α:=
 match r with
 |none=>none
 |some r=>bif Nat.beq r.gen g then f r else none
def X6 (T:LP P)(s:St)(t:Nat):AV->Option AV
 |.C8 cs off=>(look T.t t).bind (Ug [] cs off)
 |.ptr id g i off=>Zg g s.st[id]? λr=>(r.xs[i]?).bind λcs=>(look T.t t).bind (Ug [] cs off)
 |_=>none
def qE (T:LP P)(s:St):Op->Option AV
 |.move x=>fo (s.ev x)
 |.assign x=>fo (s.ev x)
 |.binOp o t x y _=>ji T o t (s.ev x) (s.ev y)
 |.unOp .not _ x=>match s.ev x with
  |.bool p=>some (.bool (!p))
  |_=>none
 |.unOp .neg _ x=>match s.ev x with
  |.int .i64 a=>some (i64 (Sh.w (-a)))
  |_=>none
 |.extract x i=>match s.ev x with
  |.DF vs=>(vs[i]?).bind fo
  |_=>none
 |.nilCheck x=>match s.ev x with
  |.ptr id g i off=>Zg g s.st[id]? λ_=>some (.ptr id g i off)
  |.C8 cs off=>some (.C8 cs off)
  |_=>none
 |.fieldAddr t x f=>match s.ev x with
  |.C8 cs off=>(OG T.f t f).bind λj=>some (.C8 cs (off+j))
  |.ptr id g i off=>(OG T.f t f).bind λj=>Zg g s.st[id]? λr=>bif Nat.ble (off+j) r.size then some (.ptr id g i (off+j)) else none
  |_=>none
 |.load t x=>X6 T s t (s.ev x)
 |.field t x f=>match s.ev x with
  |.agg cs=>(OG T.v t f).bind λi=>Ug [] cs i.1 i.2
  |_=>none
 |_=>none
theorem NS {α:Type}{g:Nat}{r:Option Row}{f:Row->Option α}{v:α}(h:Zg g r f=some v):∃el size xs,r=some ⟨g,el,size,xs⟩/\f ⟨g,el,size,xs⟩=some v:=by
 unfold Zg at h;split at h
 .cases h
 .rename_i r;cases hb:Nat.beq r.gen g with
  |true=>rw[hb]at h;cases qb hb;exact⟨_,_,_,rfl,h⟩
  |false=>rw[hb]at h;cases h
theorem kT {s:St}{o:BinOp}{t t':TypeId}{x y:Operand}{v:AV}(h:ji T o t (s.ev x) (s.ev y)=some v):AQ P s (.binOp o t x y t') v:=by
 unfold ji at h;split at h
 .rename_i kk a yh b hx hy;cases hk:iy kk yh with
  |false=>rw[hk]at h;cases h
  |true=>
   rw[hk]at h;have wY:kk=yh:=qm hk;subst wY;simp only[cond_true]at h;cases o<;>simp only[arith]at h;all_goals try (cases kk<;>cases h<;>first|exact Td hx hy|exact Pp hx hy|exact lv hx hy|exact jn hx hy|exact il hx hy|exact jg hx hy)
   all_goals first
    |(cases h;done)
    |(cases h;first|exact eR hx hy|exact nK hx hy|exact mP hx hy|exact nI hx hy|exact nJ hx hy|exact nN hx hy)
 .rename_i p q hx hy;cases hb:has T.b t with
  |false=>rw[hb]at h;cases h
  |true=>
   rw[hb]at h;simp only[cond_true]at h;cases o<;>first
    |(cases h;done)
    |(cases h;first|exact kg (T.bo hb) hx hy|exact kY (T.bo hb) hx hy)
 .cases h
theorem MH {cs:List AV}{off:Nat}{i:Bool×Nat}{v:AV}(h:Ug [] cs off i=some v):(i.1=false/\cs[off]?=some v)∨(i.1=true/\off+i.2<=cs.length/\v=.agg ((cs.drop off).take i.2)):=by
 obtain⟨b,sz⟩:=i;cases b with
 |false=>
  simp only[Ug]at h;obtain⟨a,h1,h2⟩:=qA.1 h;rw[h1,PL h2];exact .inl ⟨rfl,rfl⟩
 |true=>
  simp only[Ug]at h;cases hb:Nat.ble (off+sz) cs.length with
  |false=>rw[hb]at h;cases h
  |true=>rw[hb]at h;cases h;exact .inr ⟨rfl,qX hb,rfl⟩
theorem gQ {s:St}{t:TypeId}{x:Operand}{v:AV}(h:X6 T s t (s.ev x)=some v):AQ P s (.load t x) v:=by
 unfold X6 at h;split at h
 .rename_i cs off hx;obtain⟨⟨b,sz⟩,h1,h2⟩:=qA.1 h;rcases MH h2 with ⟨hb,h3⟩|⟨hb,h3,rfl⟩<;>simp only at hb<;>subst hb
  .exact IP (Kx h1) hx h3
  .exact IF (Kx h1) hx h3 rfl
 .rename_i id g i off hx;obtain⟨el,size,xs,hr,h⟩:=NS h;obtain⟨cs,hi,h⟩:=qA.1 h;obtain⟨⟨b,sz⟩,h1,h2⟩:=qA.1 h;rcases MH h2 with ⟨hb,h3⟩|⟨hb,h3,rfl⟩<;>simp only at hb<;>subst hb
  .exact CG (Kx h1) hx hr hi h3
  .exact Cq (Kx h1) hx hr hi h3 rfl
 .cases h
theorem Z7 {s:St}{op:Op}{v:AV}(h:qE T s op=some v):AQ P s op v:=by
 unfold qE at h;split at h
 .exact BP (PL h)
 .exact Va (PL h)
 .exact kT h
 .split at h
  .rename_i hx;cases h;exact kp hx
  .cases h
 .split at h
  .rename_i hx;cases h;exact lG hx
  .cases h
 .split at h
  .rename_i vs hx;obtain⟨a,h1,h2⟩:=qA.1 h;rw[PL h2]at h1;exact mg hx h1
  .cases h
 .split at h
  .rename_i hx;obtain⟨el,size,xs,hr,h⟩:=NS h;cases h;exact lE hx hr
  .rename_i hx;cases h;exact kv hx
  .cases h
 .split at h
  .rename_i hx;obtain⟨j,h1,h2⟩:=qA.1 h;cases h2;exact It (RZ h1) hx rfl
  .rename_i hx;obtain⟨j,h1,h2⟩:=qA.1 h;obtain⟨el,size,xs,hr,h2⟩:=NS h2;simp only at h2;cases hb:Nat.ble (_+j) size with
   |false=>rw[hb]at h2;cases h2
   |true=>rw[hb]at h2;cases h2;exact FT (RZ h1) hx hr (qX hb) rfl
  .cases h
 .exact gQ h
 .split at h
  .rename_i hx;obtain⟨⟨o,b,sz⟩,h1,h2⟩:=qA.1 h;rcases MH h2 with ⟨hb,h3⟩|⟨hb,h3,rfl⟩<;>simp only at hb<;>subst hb
   .exact mT (Zm h1) hx h3
   .exact lx (Zm h1) hx h3 rfl
  .cases h
 .cases h
abbrev ow {α:Type}(i g:Nat)(l:List α):AV:=.own i g l.length
abbrev ro {α:Type}(g el size:Nat)(enc:α->List AV)(l:List α):Row:=⟨g,el,size,l.map enc⟩
abbrev ls {α:Type}(enc:α->List AV)(l:List α):AV:=.sl (l.map enc)
def mA:AV->Option Bool
 |.bool b=>some b
 |_=>none
theorem Tz {v:AV}{b:Bool}(h:mA v=some b):v=.bool b:=by cases v<;>cases h;rfl
def gE (ds:List (Option Tmp))(jj:Nat)(e:Nat->AV):Option Bool:=
 match ds[jj]? with
 |some (some t)=>mA (e t)
 |_=>none
def uE (ds:List (Option Tmp))(jj:Nat)(e:Nat->AV):Bool:=
 match ds[jj]? with
 |some (some t)=>match e t with
  |.un=>true
  |_=>false
 |_=>false
section
variable {P : Program} {k : Nat} {ops : Array Oper} {Q : Exit -> St -> Prop} {ds : List (Option Tmp)} {r : List Oper} {n : Nat} {e : Nat -> AV} {st st' : List Row} {op : Op} {ty t' : TypeId} {ps : String} {ed : Array Edge} {d : Option Tmp} {t : Tmp} {v v' : AV}
variable {jj : Nat} {want b p : Bool} {tg : Tmp} {gd : Option (Nat × Bool)} {x y c : Operand} {KS : St -> Prop}
theorem da (h:gE ds jj e=some b)(hb:b=want):GO ds (some (jj,want)) e:=by
 unfold gE at h;split at h
 .rename_i tg hj;exact CQ hj (Tz h) hb
 .cases h
def qL (T:LP P)(s:St)(op:Op):Option AV:=bif Kg op then none else qE T s op
theorem Qg {s:St}(h:qL T s op=some v):Kg op=false/\qE T s op=some v:=by
 unfold qL at h;cases hl:Kg op with
 |true=>rw[hl]at h;cases h
 |false=>rw[hl]at h;exact⟨rfl,h⟩
def gL (T:LP P)(ds:List (Option Tmp))(jj:Nat)(s:St)(op:Op):Option (Bool×AV):=
 match gE ds jj s.env with
 |some b=>match qL T s op with
  |some v=>some (b,v)
  |none=>none
 |none=>none
theorem Oh {s:St}(h:gL T ds jj s op=some (b,v)):gE ds jj s.env=some b/\Kg op=false/\qE T s op=some v:=by
 unfold gL at h;split at h
 .rename_i b' hg;split at h
  .rename_i v' hv;cases h;exact⟨hg,Qg hv⟩
  .cases h
 .cases h
def pE (s:St)(c x:Operand):Option (Bool×AV):=
 match mA (s.ev c) with
 |some b=>match fo (s.ev x) with
  |some v=>some (b,v)
  |none=>none
 |none=>none
theorem MR {s:St}{c x:Operand}(h:pE s c x=some (b,v)):s.ev c=.bool b/\s.ev x=v:=by
 unfold pE at h;split at h
 .rename_i b' hg;split at h
  .rename_i v' hv;cases h;exact⟨Tz hg,PL hv⟩
  .cases h
 .cases h
theorem zq (T:LP P)(h:qL T ⟨n,e,st⟩ op=some v)(hk:AO P k ops Q (ds++[some t]) r ⟨n,DQ e t v,st⟩):AO P k ops Q ds (⟨some t,op,ty,ps,ed,none⟩::r) ⟨n,e,st⟩:=BW AN (Qg h).1 (Z7 (Qg h).2) hk
theorem zg (T:LP P)(hb:b=want)(h:gL T ds jj ⟨n,e,st⟩ op=some (b,v))(hk:AO P k ops Q (ds++[some t]) r ⟨n,DQ e t v,st⟩):AO P k ops Q ds (⟨some t,op,ty,ps,ed,some (jj,want)⟩::r) ⟨n,e,st⟩:=BW (da (Oh h).1 hb) (Oh h).2.1 (Z7 (Oh h).2.2) hk
theorem zz (v:AV)(h:AQ P ⟨n,e,st⟩ op v)(hl:Kg op=false)(hk:AO P k ops Q (ds++[some t]) r ⟨n,DQ e t v,st⟩):AO P k ops Q ds (⟨some t,op,ty,ps,ed,none⟩::r) ⟨n,e,st⟩:=BW AN hl h hk
theorem yq (T:LP P)(h:qL T ⟨n,e,st⟩ op=some v)(hk:EN P (ds++[some t]) r KS ⟨n,DQ e t v,st⟩):EN P ds (⟨some t,op,ty,ps,ed,none⟩::r) KS ⟨n,e,st⟩:=H3 AN (Qg h).1 (Z7 (Qg h).2) hk
theorem yg (T:LP P)(hb:b=want)(h:gL T ds jj ⟨n,e,st⟩ op=some (b,v))(hk:EN P (ds++[some t]) r KS ⟨n,DQ e t v,st⟩):EN P ds (⟨some t,op,ty,ps,ed,some (jj,want)⟩::r) KS ⟨n,e,st⟩:=H3 (da (Oh h).1 hb) (Oh h).2.1 (Z7 (Oh h).2.2) hk
theorem yz (v:AV)(h:AQ P ⟨n,e,st⟩ op v)(hl:Kg op=false)(hk:EN P (ds++[some t]) r KS ⟨n,DQ e t v,st⟩):EN P ds (⟨some t,op,ty,ps,ed,none⟩::r) KS ⟨n,e,st⟩:=H3 AN hl h hk
theorem zs (hb:b=!want)(hg:gE ds jj e=some b)(h:AO P k ops Q (ds++[some t]) r ⟨n,DQ e t .un,st⟩):AO P k ops Q ds (⟨some t,op,ty,ps,ed,some (jj,want)⟩::r) ⟨n,e,st⟩:=by
 unfold gE at hg;split at hg
 .rename_i tg hj;exact kF hj (Tz hg) hb h
 .cases hg
theorem ys (hb:b=!want)(hg:gE ds jj e=some b)(h:EN P (ds++[some t]) r KS ⟨n,DQ e t .un,st⟩):EN P ds (⟨some t,op,ty,ps,ed,some (jj,want)⟩::r) KS ⟨n,e,st⟩:=by
 unfold gE at hg;split at hg
 .rename_i tg hj;exact ku hj (Tz hg) hb h
 .cases hg
theorem jX (hu:uE ds jj e=true):∃tg,ds[jj]?=some (some tg)/\e tg=.un:=by
 unfold uE at hu;split at hu
 .rename_i tg hj;refine⟨tg,hj,?_⟩;cases he:e tg<;>rw[he]at hu<;>cases hu
 .cases hu
theorem zn (hu:uE ds jj e=true)(h:AO P k ops Q (ds++[some t]) r ⟨n,DQ e t .un,st⟩):AO P k ops Q ds (⟨some t,op,ty,ps,ed,some (jj,want)⟩::r) ⟨n,e,st⟩:=by
 obtain⟨tg,h1,h2⟩:=jX hu;exact jc h1 h2 h
def Zf (T:LP P)(n:Nat)(st:List Row):List Oper->(Nat->AV)->Option (Nat->AV)
 | [],e=>some e
 |⟨some t,op,_,_,_,none⟩::r,e=>match qL T ⟨n,e,st⟩ op with
  |some v=>Zf T n st r (DQ e t v)
  |none=>none
 |_,_=>none
theorem bn {T:LP P}:∀{l:List Oper} {e e':Nat->AV} {ds:List (Option Tmp)},Zf T n st l e=some e'->(∀ds,AO P k ops Q ds [] ⟨n,e',st⟩)->AO P k ops Q ds l ⟨n,e,st⟩
 | [],e,e',ds,h,hk=>by
  simp only[Zf,pD]at h;subst h;exact hk ds
 |o::r,e,e',ds,h,hk=>by
  unfold Zf at h;split at h
  .rename_i h0;cases h0
  .rename_i t op ty ps ed r' e0 h0;cases h0;split at h
   .rename_i v hv;exact zq T hv (bn h hk)
   .cases h
  .cases h
def runN (T:LP P)(n:Nat)(st:List Row):Nat->List Oper->List (Option Tmp)->(Nat->AV)->Option (List Oper×List (Option Tmp)×(Nat->AV))
 |0,l,ds,e=>some (l,ds,e)
 |m+1,⟨some t,op,_,_,_,none⟩::r,ds,e=>match qL T ⟨n,e,st⟩ op with
  |some v=>runN T n st m r (ds++[some t]) (DQ e t v)
  |none=>none
 |_,_,_,_=>none
theorem zm (T:LP P):∀(m:Nat) {l l':List Oper} {e e':Nat->AV} {ds ds':List (Option Tmp)},runN T n st m l ds e=some (l',ds',e')->AO P k ops Q ds' l' ⟨n,e',st⟩->AO P k ops Q ds l ⟨n,e,st⟩
 |0,l,l',e,e',ds,ds',h,hk=>by
  simp only[runN,pD,rB]at h;obtain⟨rfl,rfl,rfl⟩:=h;exact hk
 |m+1,[],l',e,e',ds,ds',h,hk=>by simp[runN]at h
 |m+1,o::r,l',e,e',ds,ds',h,hk=>by
  unfold runN at h;split at h
  .rename_i h0;cases h0
  .rename_i m0 t op ty ps ed r' hm h0;cases h0;cases hm;split at h
   .rename_i v hv;exact zq T hv (zm T m h hk)
   .cases h
  .cases h
theorem zt (hp:p=true)(h:pE ⟨n,e,st⟩ c x=some (p,v))(hk:AO P k ops Q (ds++[some t]) r ⟨n,DQ e t v,st⟩):AO P k ops Q ds (⟨some t,.pick c x y,ty,ps,ed,none⟩::r) ⟨n,e,st⟩:=BW AN rfl (LG (MR h).1 hp (MR h).2) hk
theorem zf (hp:p=false)(h:pE ⟨n,e,st⟩ c y=some (p,v))(hk:AO P k ops Q (ds++[some t]) r ⟨n,DQ e t v,st⟩):AO P k ops Q ds (⟨some t,.pick c x y,ty,ps,ed,none⟩::r) ⟨n,e,st⟩:=BW AN rfl (L8 (MR h).1 hp (MR h).2) hk
theorem yt (hp:p=true)(h:pE ⟨n,e,st⟩ c x=some (p,v))(hk:EN P (ds++[some t]) r KS ⟨n,DQ e t v,st⟩):EN P ds (⟨some t,.pick c x y,ty,ps,ed,none⟩::r) KS ⟨n,e,st⟩:=H3 AN rfl (LG (MR h).1 hp (MR h).2) hk
theorem yf (hp:p=false)(h:pE ⟨n,e,st⟩ c y=some (p,v))(hk:EN P (ds++[some t]) r KS ⟨n,DQ e t v,st⟩):EN P ds (⟨some t,.pick c x y,ty,ps,ed,none⟩::r) KS ⟨n,e,st⟩:=H3 AN rfl (L8 (MR h).1 hp (MR h).2) hk
variable {α : Type} {l : List α} {enc : α -> List AV} {kk : IntKind} {j : Int} {u : α} {el size bytes : Nat} {zz : List AV}
theorem zl (T:LP P)(hs:has T.s t'=true)(hx:St.ev ⟨n,e,st⟩ x=.sl (l.map enc))(hk:AO P k ops Q (ds++[some t]) r ⟨n,DQ e t (i64 (Sh.len l)),st⟩):AO P k ops Q ds (⟨some t,.call ⟨.builtin .len,#[x],#[t']⟩,ty,ps,ed,none⟩::r) ⟨n,e,st⟩:=BW AN rfl (CU (T.sl hs) hx) hk
theorem yl (T:LP P)(hs:has T.s t'=true)(hx:St.ev ⟨n,e,st⟩ x=.sl (l.map enc))(hk:EN P (ds++[some t]) r KS ⟨n,DQ e t (i64 (Sh.len l)),st⟩):EN P ds (⟨some t,.call ⟨.builtin .len,#[x],#[t']⟩,ty,ps,ed,none⟩::r) KS ⟨n,e,st⟩:=H3 AN rfl (CU (T.sl hs) hx) hk
theorem zx (he:DB P t'=some ⟨el,size,bytes,zz⟩)(hg:Sh.get l j=some u)(hx:St.ev ⟨n,e,st⟩ x=.sl (l.map enc))(hy:St.ev ⟨n,e,st⟩ y=.int kk j)(hs:(enc u).length=size)(hk:AO P k ops Q (ds++[some t]) r ⟨n,DQ e t (.C8 (enc u) 0),st⟩):AO P k ops Q ds (⟨some t,.indexAddr t' x y,ty,ps,ed,none⟩::r) ⟨n,e,st⟩:=BW AN rfl (CR he hx hy hg hs) hk
theorem yx (he:DB P t'=some ⟨el,size,bytes,zz⟩)(hg:Sh.get l j=some u)(hx:St.ev ⟨n,e,st⟩ x=.sl (l.map enc))(hy:St.ev ⟨n,e,st⟩ y=.int kk j)(hs:(enc u).length=size)(hk:EN P (ds++[some t]) r KS ⟨n,DQ e t (.C8 (enc u) 0),st⟩):EN P ds (⟨some t,.indexAddr t' x y,ty,ps,ed,none⟩::r) KS ⟨n,e,st⟩:=H3 AN rfl (CR he hx hy hg hs) hk
variable {f : FuncId} {vJ : Array Operand} {ts : Array TypeId} {args : List AV}
theorem zd (hbw:b=want)(hb:Cp P f=true)(hc:BJ P f args [] λr st=>r=v/\st=[])(ha:vJ.toList.map (St.ev ⟨n,e,st⟩)++[]=args)(hf:args.all flat=true)(hv:fo (shift st.length v)=some v')
  (hg:gE ds jj e=some b) (hk:AO P k ops Q (ds++[d]) r (St.put ⟨n,e,st⟩ d v')):AO P k ops Q ds (⟨d,.call ⟨.value (.func f),vJ,ts⟩,ty,ps,ed,some (jj,want)⟩::r) ⟨n,e,st⟩:=
 Bo (da hg hbw) hb hc ha hf pA (PL hv) (qS st) hk
theorem zc (hb:Cp P f=true)(hc:BJ P f args [] λr st=>r=v/\st=[])(ha:vJ.toList.map (St.ev ⟨n,e,st⟩)++[]=args)(hf:args.all flat=true)(hv:fo (shift st.length v)=some v')
  (hk:AO P k ops Q (ds++[d]) r (St.put ⟨n,e,st⟩ d v')):AO P k ops Q ds (⟨d,.call ⟨.value (.func f),vJ,ts⟩,ty,ps,ed,none⟩::r) ⟨n,e,st⟩:=
 Bo AN hb hc ha hf pA (PL hv) (qS st) hk
theorem sr {id:Nat}{y:Code}{s:St}(hd:(ops.toList.all λo=>Cx s.n o.dst)=true)(h :∀K:St->Prop,(∀s,AW P k y Q s->K s)->AO P k ops (LX K Q) [] ops.toList s):AW P k (.seq (.region id ops false) y) Q s:=
 AE λK hK=>AF hd (h K hK)
def Vw:Nat->List AV->List (Nat×AV)
 |_,[]=>[]
 |i,a::r=>(i,a)::Vw (i+1) r
theorem U2:∀(l:List AV) (i t:Nat),AP (Vw i l) t=if t<i then .FY else (l[t-i]?).getD .FY
 | [],i,t=>by simp[Vw,AP]
 |a::r,i,t=>by
  simp only[Vw,AP,U2 r (i+1) t];by_cases h:t=i
  .subst h;simp
  .by_cases h2:t<i
   .simp[h,h2,Nat.lt_succ_of_lt h2]
   .obtain⟨d,hd⟩ :∃d,t-i=d+1:=⟨t-i-1,by omega⟩
    have h3:¬ t<i+1:=by omega
    simp[h,h2,h3,hd,show t-(i+1)=d by omega]
theorem ai {k N:Nat}{f:FuncId}{fn:Func}{c:Code}{args:List AV}{st:List Row}{R:AV->List Row->Prop}(hf:P.funcs[f]?=some fn)(hb:fn.body=some c)(hN:fn.ntmps=N)(hn:Nat.ble args.length N=true)(hk:st.length=k)
  (h:AW P k c (fa P k fn R) ⟨N,AP (Vw 0 args),st⟩):BJ P f args st R:=by
 subst hN;subst hk;refine BJ.intro hf hb (qX hn) ?_;have e:Pe args=AP (Vw 0 args):=by
  funext t;rw[U2];simp[Pe,rN]
 rw[e];exact h
theorem zr (T:LP P){id:Nat}{y:Code}{e':Nat->AV}(h:Zf T n st ops.toList e=some e')(hd:(ops.toList.all λo=>Cx n o.dst)=true)(hk:AW P k y Q ⟨n,e',st⟩):AW P k (.seq (.region id ops false) y) Q ⟨n,e,st⟩:=
 AE λK hK=>AF hd (bn h λds=>AB (hK _ hk))
theorem dn {s:St}{K p:St->Prop}(hK :∀s,p s->K s)(hq:Q .normal s=K s)(h:p s):AO P k ops Q ds [] s:=AB (hq▸hK s h)
theorem ci {α:Type}{o:Operand}{x y:Code}{s:St}{A B C:α}(h:(if b=true then A else B)=C)(ho:mA (s.ev o)=some b)(h1:b=true->A=C->AW P k x Q s)(h2:b=false->B=C->AW P k y Q s):AW P k (.cond o x y) Q s:=
 G3 (Tz ho) (λhb=>h1 hb (by rw[<- h,pJ hb])) (λhb=>h2 hb (by rw[<- h,pK (by rw[hb];decide)]))
theorem bs {α β:Type}{x:Option α}{f:α->Option β}{r:β}{G:Prop}(h:x.bind f=some r)(k :∀v,x=some v->f v=some r->G):G:=
 let ⟨v,h1,h2⟩:=Sh.bind_some h;k v h1 h2
theorem xi {α:Type}{p q:α->Prop}(a:α)(h:p a)(g:q a):∃a,p a/\q a:=⟨a,h,g⟩
theorem xr {α:Type}{p q:α->Prop}{a:α}(h:p a)(g:q a:=by exact And.intro rfl rfl):∃a,p a/\q a:=⟨a,h,g⟩
def UJ (e:Nat->AV):List (Nat×AV)->List AV
 | []=>[]
 |(t,_)::r=>e t::UJ e r
def UQ:List (Nat×AV)->List AV
 | []=>[]
 |(_,v)::r=>v::UQ r
theorem ME.of {e:Nat->AV}:∀{L:List (Nat×AV)},UJ e L=UQ L->ME e L
 | [],_=>trivial
 |(t,v)::r,h=>by
  simp only[UJ,UQ,rq]at h;exact⟨le.of h.1,ME.of h.2⟩
theorem CF {L:List (Nat×AV)}(h:UJ e L=UQ L):Wk k ⟨n,e,st⟩ ⟨n,AP L,st⟩:=Ag (ME.of h)
theorem Be (L:List (Nat×AV))(h:UJ (λt=>Jk [] (e t)) L=UQ L):Wk 0 ⟨n,e,st⟩ ⟨n,AP L,[]⟩:=
 Qy (L:=L) (st':=[]) (st1:=[]) [] rfl .nil (by decide) rfl rfl .nil (ME.of h)
end
end Go.Abs
