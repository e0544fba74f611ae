import Derived.Test.YtihdgoiebmfapaaGreatAbsW
set_option linter.all false
namespace Go.Abs
open Go
structure KY (P:Program) where
 t:List (Nat×Bool×Nat)
 f:List (Nat×Nat×Nat)
 v:List (Nat×Nat×Nat×Bool×Nat)
 b:List Nat
 s:List Nat
 ht:(t.all λx=>decide (EN P x.1=some x.2))=true
 hf:(f.all λx=>decide (HM P x.1 x.2.1=some x.2.2))=true
 hv:(v.all λx=>decide (R5 P x.1 x.2.1=some x.2.2))=true
 hb:(b.all λx=>NL P x)=true
 hs:(s.all λx=>DI P x)=true
def look {α:Type}:List (Nat×α)->Nat->Option α
 | [],_=>none
 | (a,x)::r,k=>bif Nat.beq a k then some x else look r k
def Mk {α:Type}:List (Nat×Nat×α)->Nat->Nat->Option α
 | [],_,_=>none
 | (a,b,x)::r,k,m=>bif Nat.beq a k&&Nat.beq b m then some x else Mk r k m
theorem Vk {α:Type}{k:Nat}{x:α}:∀{l:List (Nat×α)},look l k=some x->(k,x)∈l
 | (a,y)::r,h=>by
  unfold look at h;cases hb:Nat.beq a k with
  | true=>rw[hb]at h;cases h;cases iW hb;exact iI
  | false=>rw[hb]at h;exact gw _ (Vk h)
theorem QK {α:Type}{k m:Nat}{x:α}:∀{l:List (Nat×Nat×α)},Mk l k m=some x->(k,m,x)∈l
 | (a,b,y)::r,h=>by
  unfold Mk at h;cases hb:Nat.beq a k&&Nat.beq b m with
  | true=>
   rw[hb]at h;cases h;rw[gN]at hb;cases iW hb.1;cases iW hb.2;exact iI
  | false=>rw[hb]at h;exact gw _ (QK h)
def has:List Nat->Nat->Bool
 | [],_=>false
 | a::r,k=>bif Nat.beq a k then true else has r k
theorem Uj {k:Nat}:∀{l:List Nat},has l k=true->k∈l
 | a::r,h=>by
  unfold has at h;cases hb:Nat.beq a k with
  | true=>cases iW hb;exact iI
  | false=>rw[hb]at h;exact gw _ (Uj h)
variable {P : Program} {T : KY P} {k m : Nat}
theorem Jl {x:Bool×Nat}(h:look T.t k=some x):EN P k=some x:=iF (fk.1 T.ht _ (Vk h))
theorem PT {x:Nat}(h:Mk T.f k m=some x):HM P k m=some x:=iF (fk.1 T.hf _ (QK h))
theorem Vs {x:Nat×Bool×Nat}(h:Mk T.v k m=some x):R5 P k m=some x:=iF (fk.1 T.hv _ (QK h))
theorem KY.bo (h:has T.b k=true):NL P k=true:=fk.1 T.hb _ (Uj h)
theorem KY.sl (h:has T.s k=true):DI P k=true:=fk.1 T.hs _ (Uj h)
def fo:AV->Option AV
 | .E2=>none
 | .un=>some .un
 | .int k n=>some (.int k n)
 | .bool b=>some (.bool b)
 | .str s=>some (.str s)
 | .zc=>some .zc
 | .P2=>some .P2
 | .Px=>some .Px
 | .sl xs=>some (.sl xs)
 | .own a b c=>some (.own a b c)
 | .ptr a b c d=>some (.ptr a b c d)
 | .Bc x o=>some (.Bc x o)
 | .fn f c=>some (.fn f c)
 | .agg c=>some (.agg c)
 | .Dm c=>some (.Dm c)
 | .dv a b c=>some (.dv a b c)
theorem N1 {a v:AV}(h:fo a=some v):a=v:=by cases a<;>cases h<;>rfl
def arith (o:BinOp)(k:IntKind)(a b:Int):Option AV:=
 match o with
 | .add=>match k with
  | .i64=>some (i64 (Sh.w (a+b)))
  | k=>some (.int k (Sh.wk k (a+b)))
 | .sub=>match k with
  | .i64=>some (i64 (Sh.w (a-b)))
  | k=>some (.int k (Sh.wk k (a-b)))
 | .mul=>match k with
  | .i64=>some (i64 (Sh.w (a*b)))
  | k=>some (.int k (Sh.wk k (a*b)))
 | .lss=>some (.bool (decide (a<b)))
 | .leq=>some (.bool (decide (a<=b)))
 | .gtr=>some (.bool (decide (b<a)))
 | .geq=>some (.bool (decide (b<=a)))
 | .eql=>some (.bool (decide (a=b)))
 | .neq=>some (.bool (!decide (a=b)))
 | _=>none
def aS (k k':IntKind):Bool:=decide (k=k')
def au (T:KY P)(o:BinOp)(t:Nat):AV->AV->Option AV
 | .int k a,.int k' b=>bif aS k k' then arith o k a b else none
 | .bool p,.bool q=>bif has T.b t then (match o with
  | .eql=>some (.bool (p==q))
  | .neq=>some (.bool (p != q))
  | _=>none) else none
 | _,_=>none
def R0 (xs:List (List AV))(cs:List AV)(off:Nat):Bool×Nat->Option AV
 | (false,_)=>(cs[off]?).bind fo
 | (true,sz)=>bif Nat.ble (off+sz) cs.length then some (.agg ((cs.drop off).take sz)) else none
def VV (g:Nat)(r:Option Row){α:Type}(f:Row->Option α):Option α:=
 match r with
 | none=>none
 | some r=>bif Nat.beq r.gen g then f r else none
def TV (T:KY P)(s:St)(t:Nat):AV->Option AV
 | .Bc cs off=>(look T.t t).bind (R0 [] cs off)
 | .ptr id g i off=>VV g s.st[id]? λr=>(r.xs[i]?).bind λcs=>(look T.t t).bind (R0 [] cs off)
 | _=>none
def qE (T:KY P)(s:St):Op->Option AV
 | .move x=>fo (s.ev x)
 | .assign x=>fo (s.ev x)
 | .binOp o t x y _=>au T o t (s.ev x) (s.ev y)
 | .unOp .not _ x=>match s.ev x with
  | .bool p=>some (.bool (!p))
  | _=>none
 | .unOp .neg _ x=>match s.ev x with
  | .int .i64 a=>some (i64 (Sh.w (-a)))
  | _=>none
 | .extract x i=>match s.ev x with
  | .Dm vs=>(vs[i]?).bind fo
  | _=>none
 | .nilCheck x=>match s.ev x with
  | .ptr id g i off=>VV g s.st[id]? λ_=>some (.ptr id g i off)
  | .Bc cs off=>some (.Bc cs off)
  | _=>none
 | .fieldAddr t x f=>match s.ev x with
  | .Bc cs off=>(Mk T.f t f).bind λj=>some (.Bc cs (off+j))
  | .ptr id g i off=>(Mk T.f t f).bind λj=>VV g s.st[id]? λr=>bif Nat.ble (off+j) r.size then some (.ptr id g i (off+j)) else none
  | _=>none
 | .load t x=>TV T s t (s.ev x)
 | .field t x f=>match s.ev x with
  | .agg cs=>(Mk T.v t f).bind λi=>R0 [] cs i.1 i.2
  | _=>none
 | _=>none
theorem Ld {α:Type}{g:Nat}{r:Option Row}{f:Row->Option α}{v:α}(h:VV g r f=some v):∃el size xs,r=some ⟨g,el,size,xs⟩/\f ⟨g,el,size,xs⟩=some v:=by
 unfold VV at h;split at h
 ·cases h
 ·rename_i r;cases hb:Nat.beq r.gen g with
  | true=>rw[hb]at h;cases iW hb;exact⟨_,_,_,rfl,h⟩
  | false=>rw[hb]at h;cases h
theorem bF {s:St}{o:BinOp}{t t':TypeId}{x y:Operand}{v:AV}(h:au T o t (s.ev x) (s.ev y)=some v):AQ P s (.binOp o t x y t') v:=by
 unfold au at h;split at h
 ·rename_i kk a pL b hx hy;cases hk:aS kk pL with
  | false=>rw[hk]at h;cases h
  | true=>
   rw[hk]at h;have ng:kk=pL:=iF hk;subst ng;simp only[cond_true]at h;cases o<;>simp only[arith]at h;all_goals try (cases kk<;>cases h<;>first|exact Qi hx hy|exact NP hx hy|exact bx hx hy|exact bg hx hy|exact aj hx hy|exact bb hx hy)
   all_goals first
    | (cases h;done)
    | (cases h;first|exact Ye hx hy|exact eA hx hy|exact eD hx hy|exact eK hx hy|exact dM hx hy|exact dm hx hy)
 ·rename_i p q hx hy;cases hb:has T.b t with
  | false=>rw[hb]at h;cases h
  | true=>
   rw[hb]at h;simp only[cond_true]at h;cases o<;>first
    | (cases h;done)
    | (cases h;first|exact bl (T.bo hb) hx hy|exact cg (T.bo hb) hx hy)
 ·cases h
theorem Kp {cs:List AV}{off:Nat}{i:Bool×Nat}{v:AV}(h:R0 [] cs off i=some v):(i.1=false/\cs[off]?=some v)∨(i.1=true/\off+i.2<=cs.length/\v=.agg ((cs.drop off).take i.2)):=by
 obtain⟨b,sz⟩:=i;cases b with
 | false=>
  simp only[R0]at h;obtain⟨a,h1,h2⟩:=gX.1 h;rw[h1,N1 h2];exact .inl ⟨rfl,rfl⟩
 | true=>
  simp only[R0]at h;cases hb:Nat.ble (off+sz) cs.length with
  | false=>rw[hb]at h;cases h
  | true=>rw[hb]at h;cases h;exact .inr ⟨rfl,jK hb,rfl⟩
theorem ZW {s:St}{t:TypeId}{x:Operand}{v:AV}(h:TV T s t (s.ev x)=some v):AQ P s (.load t x) v:=by
 unfold TV at h;split at h
 ·rename_i cs off hx;obtain⟨⟨b,sz⟩,h1,h2⟩:=gX.1 h;rcases Kp h2 with ⟨hb,h3⟩|⟨hb,h3,rfl⟩<;>simp only at hb<;>subst hb
  ·exact HT (Jl h1) hx h3
  ·exact HH (Jl h1) hx h3 rfl
 ·rename_i id g i off hx;obtain⟨el,size,xs,hr,h⟩:=Ld h;obtain⟨cs,hi,h⟩:=gX.1 h;obtain⟨⟨b,sz⟩,h1,h2⟩:=gX.1 h;rcases Kp h2 with ⟨hb,h3⟩|⟨hb,h3,rfl⟩<;>simp only at hb<;>subst hb
  ·exact Bp (Jl h1) hx hr hi h3
  ·exact Ar (Jl h1) hx hr hi h3 rfl
 ·cases h
theorem Wc {s:St}{op:Op}{v:AV}(h:qE T s op=some v):AQ P s op v:=by
 unfold qE at h;split at h
 ·exact BN (N1 h)
 ·exact Ry (N1 h)
 ·exact bF h
 ·split at h
  ·rename_i hx;cases h;exact bz hx
  ·cases h
 ·split at h
  ·rename_i hx;cases h;exact cP hx
  ·cases h
 ·split at h
  ·rename_i vs hx;obtain⟨a,h1,h2⟩:=gX.1 h;rw[N1 h2]at h1;exact dH hx h1
  ·cases h
 ·split at h
  ·rename_i hx;obtain⟨el,size,xs,hr,h⟩:=Ld h;cases h;exact ca hx hr
  ·rename_i hx;cases h;exact cF hx
  ·cases h
 ·split at h
  ·rename_i hx;obtain⟨j,h1,h2⟩:=gX.1 h;cases h2;exact Hy (PT h1) hx rfl
  ·rename_i hx;obtain⟨j,h1,h2⟩:=gX.1 h;obtain⟨el,size,xs,hr,h2⟩:=Ld h2;simp only at h2;cases hb:Nat.ble (_+j) size with
   | false=>rw[hb]at h2;cases h2
   | true=>rw[hb]at h2;cases h2;exact Es (PT h1) hx hr (jK hb) rfl
  ·cases h
 ·exact ZW h
 ·split at h
  ·rename_i hx;obtain⟨⟨o,b,sz⟩,h1,h2⟩:=gX.1 h;rcases Kp h2 with ⟨hb,h3⟩|⟨hb,h3,rfl⟩<;>simp only at hb<;>subst hb
   ·exact dP (Vs h1) hx h3
   ·exact cK (Vs h1) hx h3 rfl
  ·cases h
 ·cases h
abbrev ow {α:Type}(i g:Nat)(l:List α):AV:=.own i g l.length
abbrev ro {α:Type}(g el size:Nat)(enc:α->List AV)(l:List α):Row:=⟨g,el,size,l.map enc⟩
abbrev ls {α:Type}(enc:α->List AV)(l:List α):AV:=.sl (l.map enc)
def ck:AV->Option Bool
 | .bool b=>some b
 | _=>none
theorem Qr {v:AV}{b:Bool}(h:ck v=some b):v=.bool b:=by cases v<;>cases h;rfl
def gE (ds:List (Option Tmp))(jj:Nat)(e:Nat->AV):Option Bool:=
 match ds[jj]? with
 | some (some t)=>ck (e t)
 | _=>none
def uE (ds:List (Option Tmp))(jj:Nat)(e:Nat->AV):Bool:=
 match ds[jj]? with
 | some (some t)=>match e t with
  | .un=>true
  | _=>false
 | _=>false
section
variable {P : Program} {k : Nat} {ops : Array Oper} {Q : Exit -> St -> Prop} {ds : List (Option Tmp)} {r : List Oper} {n : Nat} {e : Nat -> AV} {st st' : List Row} {op : Op} {ty t' : TypeId} {ps : String} {ed : Array Edge} {d : Option Tmp} {t : Tmp} {v v' : AV}
variable {jj : Nat} {want b p : Bool} {tg : Tmp} {gd : Option (Nat × Bool)} {x y c : Operand} {KS : St -> Prop}
theorem Yb (h:gE ds jj e=some b)(hb:b=want):GO ds (some (jj,want)) e:=by
 unfold gE at h;split at h
 ·rename_i tg hj;exact CM hj (Qr h) hb
 ·cases h
def qL (T:KY P)(s:St)(op:Op):Option AV:=bif JU op then none else qE T s op
theorem Oq {s:St}(h:qL T s op=some v):JU op=false/\qE T s op=some v:=by
 unfold qL at h;cases hl:JU op with
 | true=>rw[hl]at h;cases h
 | false=>rw[hl]at h;exact⟨rfl,h⟩
def gL (T:KY P)(ds:List (Option Tmp))(jj:Nat)(s:St)(op:Op):Option (Bool×AV):=
 match gE ds jj s.env with
 | some b=>match qL T s op with
  | some v=>some (b,v)
  | none=>none
 | none=>none
theorem Mo {s:St}(h:gL T ds jj s op=some (b,v)):gE ds jj s.env=some b/\JU op=false/\qE T s op=some v:=by
 unfold gL at h;split at h
 ·rename_i b' hg;split at h
  ·rename_i v' hv;cases h;exact⟨hg,Oq hv⟩
  ·cases h
 ·cases h
def pE (s:St)(c x:Operand):Option (Bool×AV):=
 match ck (s.ev c) with
 | some b=>match fo (s.ev x) with
  | some v=>some (b,v)
  | none=>none
 | none=>none
theorem Kj {s:St}{c x:Operand}(h:pE s c x=some (b,v)):s.ev c=.bool b/\s.ev x=v:=by
 unfold pE at h;split at h
 ·rename_i b' hg;split at h
  ·rename_i v' hv;cases h;exact⟨Qr hg,N1 hv⟩
  ·cases h
 ·cases h
theorem zq (T:KY P)(h:qL T ⟨n,e,st⟩ op=some v)(hk:AO P k ops Q (ds++[some t]) r ⟨n,Em e t v,st⟩):AO P k ops Q ds (⟨some t,op,ty,ps,ed,none⟩::r) ⟨n,e,st⟩:=BV AH (Oq h).1 (Wc (Oq h).2) hk
theorem zg (T:KY P)(hb:b=want)(h:gL T ds jj ⟨n,e,st⟩ op=some (b,v))(hk:AO P k ops Q (ds++[some t]) r ⟨n,Em e t v,st⟩):AO P k ops Q ds (⟨some t,op,ty,ps,ed,some (jj,want)⟩::r) ⟨n,e,st⟩:=BV (Yb (Mo h).1 hb) (Mo h).2.1 (Wc (Mo h).2.2) hk
theorem zz (v:AV)(h:AQ P ⟨n,e,st⟩ op v)(hl:JU op=false)(hk:AO P k ops Q (ds++[some t]) r ⟨n,Em e t v,st⟩):AO P k ops Q ds (⟨some t,op,ty,ps,ed,none⟩::r) ⟨n,e,st⟩:=BV AH hl h hk
theorem yq (T:KY P)(h:qL T ⟨n,e,st⟩ op=some v)(hk:Dy P (ds++[some t]) r KS ⟨n,Em e t v,st⟩):Dy P ds (⟨some t,op,ty,ps,ed,none⟩::r) KS ⟨n,e,st⟩:=HQ AH (Oq h).1 (Wc (Oq h).2) hk
theorem yg (T:KY P)(hb:b=want)(h:gL T ds jj ⟨n,e,st⟩ op=some (b,v))(hk:Dy P (ds++[some t]) r KS ⟨n,Em e t v,st⟩):Dy P ds (⟨some t,op,ty,ps,ed,some (jj,want)⟩::r) KS ⟨n,e,st⟩:=HQ (Yb (Mo h).1 hb) (Mo h).2.1 (Wc (Mo h).2.2) hk
theorem yz (v:AV)(h:AQ P ⟨n,e,st⟩ op v)(hl:JU op=false)(hk:Dy P (ds++[some t]) r KS ⟨n,Em e t v,st⟩):Dy P ds (⟨some t,op,ty,ps,ed,none⟩::r) KS ⟨n,e,st⟩:=HQ AH hl h hk
theorem zs (hb:b=!want)(hg:gE ds jj e=some b)(h:AO P k ops Q (ds++[some t]) r ⟨n,Em e t .un,st⟩):AO P k ops Q ds (⟨some t,op,ty,ps,ed,some (jj,want)⟩::r) ⟨n,e,st⟩:=by
 unfold gE at hg;split at hg
 ·rename_i tg hj;exact bh hj (Qr hg) hb h
 ·cases hg
theorem ys (hb:b=!want)(hg:gE ds jj e=some b)(h:Dy P (ds++[some t]) r KS ⟨n,Em e t .un,st⟩):Dy P ds (⟨some t,op,ty,ps,ed,some (jj,want)⟩::r) KS ⟨n,e,st⟩:=by
 unfold gE at hg;split at hg
 ·rename_i tg hj;exact cJ hj (Qr hg) hb h
 ·cases hg
theorem ab (hu:uE ds jj e=true):∃tg,ds[jj]?=some (some tg)/\e tg=.un:=by
 unfold uE at hu;split at hu
 ·rename_i tg hj;refine⟨tg,hj,?_⟩;cases he:e tg<;>rw[he]at hu<;>cases hu
 ·cases hu
theorem zn (hu:uE ds jj e=true)(h:AO P k ops Q (ds++[some t]) r ⟨n,Em e t .un,st⟩):AO P k ops Q ds (⟨some t,op,ty,ps,ed,some (jj,want)⟩::r) ⟨n,e,st⟩:=by
 obtain⟨tg,h1,h2⟩:=ab hu;exact aT h1 h2 h
def Xu (T:KY P)(n:Nat)(st:List Row):List Oper->(Nat->AV)->Option (Nat->AV)
 | [],e=>some e
 | ⟨some t,op,_,_,_,none⟩::r,e=>match qL T ⟨n,e,st⟩ op with
  | some v=>Xu T n st r (Em e t v)
  | none=>none
 | _,_=>none
theorem W6 {T:KY P}:∀{l:List Oper} {e e':Nat->AV} {ds:List (Option Tmp)},Xu T n st l e=some e'->(∀ds,AO P k ops Q ds [] ⟨n,e',st⟩)->AO P k ops Q ds l ⟨n,e,st⟩
 | [],e,e',ds,h,hk=>by
  simp only[Xu,ff]at h;subst h;exact hk ds
 | o::r,e,e',ds,h,hk=>by
  unfold Xu at h;split at h
  ·rename_i h0;cases h0
  ·rename_i t op ty ps ed r' e0 h0;cases h0;split at h
   ·rename_i v hv;exact zq T hv (W6 h hk)
   ·cases h
  ·cases h
def runN (T:KY P)(n:Nat)(st:List Row):Nat->List Oper->List (Option Tmp)->(Nat->AV)->Option (List Oper×List (Option Tmp)×(Nat->AV))
 | 0,l,ds,e=>some (l,ds,e)
 | m+1,⟨some t,op,_,_,_,none⟩::r,ds,e=>match qL T ⟨n,e,st⟩ op with
  | some v=>runN T n st m r (ds++[some t]) (Em e t v)
  | none=>none
 | _,_,_,_=>none
theorem zm (T:KY P):∀(m:Nat) {l l':List Oper} {e e':Nat->AV} {ds vJ:List (Option Tmp)},runN T n st m l ds e=some (l',vJ,e')->AO P k ops Q vJ l' ⟨n,e',st⟩->AO P k ops Q ds l ⟨n,e,st⟩
 | 0,l,l',e,e',ds,vJ,h,hk=>by
  simp only[runN,ff,kF]at h;obtain⟨rfl,rfl,rfl⟩:=h;exact hk
 | m+1,[],l',e,e',ds,vJ,h,hk=>by simp[runN]at h
 | m+1,o::r,l',e,e',ds,vJ,h,hk=>by
  unfold runN at h;split at h
  ·rename_i h0;cases h0
  ·rename_i m0 t op ty ps ed r' hm h0;cases h0;cases hm;split at h
   ·rename_i v hv;exact zq T hv (zm T m h hk)
   ·cases h
  ·cases h
theorem zt (hp:p=true)(h:pE ⟨n,e,st⟩ c x=some (p,v))(hk:AO P k ops Q (ds++[some t]) r ⟨n,Em e t v,st⟩):AO P k ops Q ds (⟨some t,.pick c x y,ty,ps,ed,none⟩::r) ⟨n,e,st⟩:=BV AH rfl (J3 (Kj h).1 hp (Kj h).2) hk
theorem zf (hp:p=false)(h:pE ⟨n,e,st⟩ c y=some (p,v))(hk:AO P k ops Q (ds++[some t]) r ⟨n,Em e t v,st⟩):AO P k ops Q ds (⟨some t,.pick c x y,ty,ps,ed,none⟩::r) ⟨n,e,st⟩:=BV AH rfl (Ka (Kj h).1 hp (Kj h).2) hk
theorem yt (hp:p=true)(h:pE ⟨n,e,st⟩ c x=some (p,v))(hk:Dy P (ds++[some t]) r KS ⟨n,Em e t v,st⟩):Dy P ds (⟨some t,.pick c x y,ty,ps,ed,none⟩::r) KS ⟨n,e,st⟩:=HQ AH rfl (J3 (Kj h).1 hp (Kj h).2) hk
theorem yf (hp:p=false)(h:pE ⟨n,e,st⟩ c y=some (p,v))(hk:Dy P (ds++[some t]) r KS ⟨n,Em e t v,st⟩):Dy P ds (⟨some t,.pick c x y,ty,ps,ed,none⟩::r) KS ⟨n,e,st⟩:=HQ AH rfl (Ka (Kj h).1 hp (Kj h).2) hk
variable {α : Type} {l : List α} {enc : α -> List AV} {kk : IntKind} {j : Int} {u : α} {el size bytes : Nat} {zz : List AV}
theorem zl (T:KY P)(hs:has T.s t'=true)(hx:St.ev ⟨n,e,st⟩ x=.sl (l.map enc))(hk:AO P k ops Q (ds++[some t]) r ⟨n,Em e t (i64 (Sh.len l)),st⟩):AO P k ops Q ds (⟨some t,.call ⟨.builtin .len,#[x],#[t']⟩,ty,ps,ed,none⟩::r) ⟨n,e,st⟩:=BV AH rfl (Ch (T.sl hs) hx) hk
theorem yl (T:KY P)(hs:has T.s t'=true)(hx:St.ev ⟨n,e,st⟩ x=.sl (l.map enc))(hk:Dy P (ds++[some t]) r KS ⟨n,Em e t (i64 (Sh.len l)),st⟩):Dy P ds (⟨some t,.call ⟨.builtin .len,#[x],#[t']⟩,ty,ps,ed,none⟩::r) KS ⟨n,e,st⟩:=HQ AH rfl (Ch (T.sl hs) hx) hk
theorem zx (he:Dt P t'=some ⟨el,size,bytes,zz⟩)(hg:Sh.get l j=some u)(hx:St.ev ⟨n,e,st⟩ x=.sl (l.map enc))(hy:St.ev ⟨n,e,st⟩ y=.int kk j)(hs:(enc u).length=size)(hk:AO P k ops Q (ds++[some t]) r ⟨n,Em e t (.Bc (enc u) 0),st⟩):AO P k ops Q ds (⟨some t,.indexAddr t' x y,ty,ps,ed,none⟩::r) ⟨n,e,st⟩:=BV AH rfl (CZ he hx hy hg hs) hk
theorem yx (he:Dt P t'=some ⟨el,size,bytes,zz⟩)(hg:Sh.get l j=some u)(hx:St.ev ⟨n,e,st⟩ x=.sl (l.map enc))(hy:St.ev ⟨n,e,st⟩ y=.int kk j)(hs:(enc u).length=size)(hk:Dy P (ds++[some t]) r KS ⟨n,Em e t (.Bc (enc u) 0),st⟩):Dy P ds (⟨some t,.indexAddr t' x y,ty,ps,ed,none⟩::r) KS ⟨n,e,st⟩:=HQ AH rfl (CZ he hx hy hg hs) hk
variable {f : FuncId} {mT : Array Operand} {ts : Array TypeId} {args : List AV}
theorem zd (rE:b=want)(hb:D1 P f=true)(hc:Ac P f args [] λr st=>r=v/\st=[])(ha:mT.toList.map (St.ev ⟨n,e,st⟩)++[]=args)(hf:args.all flat=true)(hv:fo (shift st.length v)=some v')
  (hg:gE ds jj e=some b) (hk:AO P k ops Q (ds++[d]) r (St.put ⟨n,e,st⟩ d v')):AO P k ops Q ds (⟨d,.call ⟨.value (.func f),mT,ts⟩,ty,ps,ed,some (jj,want)⟩::r) ⟨n,e,st⟩:=
 CD (Yb hg rE) hb hc ha hf fa (N1 hv) (iK st) hk
theorem zc (hb:D1 P f=true)(hc:Ac P f args [] λr st=>r=v/\st=[])(ha:mT.toList.map (St.ev ⟨n,e,st⟩)++[]=args)(hf:args.all flat=true)(hv:fo (shift st.length v)=some v')
  (hk:AO P k ops Q (ds++[d]) r (St.put ⟨n,e,st⟩ d v')):AO P k ops Q ds (⟨d,.call ⟨.value (.func f),mT,ts⟩,ty,ps,ed,none⟩::r) ⟨n,e,st⟩:=
 CD AH hb hc ha hf fa (N1 hv) (iK st) hk
theorem sr {id:Nat}{y:Code}{s:St}(hd:(ops.toList.all λo=>DM s.n o.dst)=true)(h :∀K:St->Prop,(∀s,AW P k y Q s->K s)->AO P k ops (WM K Q) [] ops.toList s):AW P k (.seq (.region id ops false) y) Q s:=
 AE λK hK=>AI hd (h K hK)
def Vf:Nat->List AV->List (Nat×AV)
 | _,[]=>[]
 | i,a::r=>(i,a)::Vf (i+1) r
theorem Vt:∀(l:List AV) (i t:Nat),Aa (Vf i l) t=if t<i then .E2 else (l[t-i]?).getD .E2
 | [],i,t=>by simp[Vf,Aa]
 | a::r,i,t=>by
  simp only[Vf,Aa,Vt r (i+1) t];by_cases h:t=i
  ·subst h;simp
  ·by_cases h2:t<i
   ·simp[h,h2,Nat.lt_succ_of_lt h2]
   ·obtain⟨d,hd⟩ :∃d,t-i=d+1:=⟨t-i-1,by omega⟩
    have h3:¬ t<i+1:=by omega
    simp[h,h2,h3,hd,show t-(i+1)=d by omega]
theorem ai {k N:Nat}{f:FuncId}{fn:Func}{c:Code}{args:List AV}{st:List Row}{R:AV->List Row->Prop}(hf:P.funcs[f]?=some fn)(hb:fn.body=some c)(hN:fn.ntmps=N)(hn:Nat.ble args.length N=true)(hk:st.length=k)
  (h:AW P k c (bG P k fn R) ⟨N,Aa (Vf 0 args),st⟩):Ac P f args st R:=by
 subst hN;subst hk;refine Ac.intro hf hb (jK hn) ?_;have e:TY args=Aa (Vf 0 args):=by
  funext t;rw[Vt];simp[TY,jO]
 rw[e];exact h
theorem zr (T:KY P){id:Nat}{y:Code}{e':Nat->AV}(h:Xu T n st ops.toList e=some e')(hd:(ops.toList.all λo=>DM n o.dst)=true)(hk:AW P k y Q ⟨n,e',st⟩):AW P k (.seq (.region id ops false) y) Q ⟨n,e,st⟩:=
 AE λK hK=>AI hd (W6 h λds=>AF (hK _ hk))
theorem dn {s:St}{K p:St->Prop}(hK :∀s,p s->K s)(hq:Q .normal s=K s)(h:p s):AO P k ops Q ds [] s:=AF (hq▸hK s h)
theorem ci {α:Type}{o:Operand}{x y:Code}{s:St}{A B C:α}(h:(if b=true then A else B)=C)(ho:ck (s.ev o)=some b)(h1:b=true->A=C->AW P k x Q s)(h2:b=false->B=C->AW P k y Q s):AW P k (.cond o x y) Q s:=
 GC (Qr ho) (λhb=>h1 hb (by rw[<- h,fq hb])) (λhb=>h2 hb (by rw[<- h,fr (by rw[hb];decide)]))
theorem bs {α β:Type}{x:Option α}{f:α->Option β}{r:β}{G:Prop}(h:x.bind f=some r)(k :∀v,x=some v->f v=some r->G):G:=
 let ⟨v,h1,h2⟩:=Sh.bind_some h;k v h1 h2
theorem xi {α:Type}{p q:α->Prop}(a:α)(h:p a)(g:q a):∃a,p a/\q a:=⟨a,h,g⟩
theorem xr {α:Type}{p q:α->Prop}{a:α}(h:p a)(g:q a:=by exact And.intro rfl rfl):∃a,p a/\q a:=⟨a,h,g⟩
def RX (e:Nat->AV):List (Nat×AV)->List AV
 | []=>[]
 | (t,_)::r=>e t::RX e r
def Rk:List (Nat×AV)->List AV
 | []=>[]
 | (_,v)::r=>v::Rk r
theorem ME.of {e:Nat->AV}:∀{L:List (Nat×AV)},RX e L=Rk L->ME e L
 | [],_=>trivial
 | (t,v)::r,h=>by
  simp only[RX,Rk,jD]at h;exact⟨le.of h.1,ME.of h.2⟩
theorem AK {L:List (Nat×AV)}(h:RX e L=Rk L):Wk k ⟨n,e,st⟩ ⟨n,Aa L,st⟩:=Ag (ME.of h)
theorem Bj (L:List (Nat×AV))(h:RX (λt=>Je [] (e t)) L=Rk L):Wk 0 ⟨n,e,st⟩ ⟨n,Aa L,[]⟩:=
 CR (L:=L) (st':=[]) (st1:=[]) [] rfl .nil (by decide) rfl rfl .nil (ME.of h)
end
end Go.Abs
