import Derived.Test.YtihdgoiebmfapaaGreatAbsW
set_option linter.all false
namespace Go.Abs
open Go
structure KZ (P:Program) where
 t:List (Nat×Bool×Nat)
 f:List (Nat×Nat×Nat)
 v:List (Nat×Nat×Nat×Bool×Nat)
 b:List Nat
 s:List Nat
 ht:(t.all λx=>decide (D7 P x.1=some x.2))=true
 hf:(f.all λx=>decide (Hd P x.1 x.2.1=some x.2.2))=true
 hv:(v.all λx=>decide (SY P x.1 x.2.1=some x.2.2))=true
 hb:(b.all λx=>Nu P x)=true
 hs:(s.all λx=>DT P x)=true
def look {α:Type}:List (Nat×α)->Nat->Option α
 | [],_=>none
 | (a,x)::r,k=>bif Nat.beq a k then some x else look r k
def ND {α:Type}:List (Nat×Nat×α)->Nat->Nat->Option α
 | [],_,_=>none
 | (a,b,x)::r,k,m=>bif Nat.beq a k&&Nat.beq b m then some x else ND r k m
theorem XB {α:Type}{k:Nat}{x:α}:∀{l:List (Nat×α)},look l k=some x->(k,x)∈l
 | (a,y)::r,h=>by
  unfold look at h;cases hb:Nat.beq a k with
  | true=>rw[hb]at h;cases h;cases lZ hb;exact ld
  | false=>rw[hb]at h;exact kr _ (XB h)
theorem Q4 {α:Type}{k m:Nat}{x:α}:∀{l:List (Nat×Nat×α)},ND l k m=some x->(k,m,x)∈l
 | (a,b,y)::r,h=>by
  unfold ND at h;cases hb:Nat.beq a k&&Nat.beq b m with
  | true=>
   rw[hb]at h;cases h;rw[kF]at hb;cases lZ hb.1;cases lZ hb.2;exact ld
  | false=>rw[hb]at h;exact kr _ (Q4 h)
def has:List Nat->Nat->Bool
 | [],_=>false
 | a::r,k=>bif Nat.beq a k then true else has r k
theorem Ug {k:Nat}:∀{l:List Nat},has l k=true->k∈l
 | a::r,h=>by
  unfold has at h;cases hb:Nat.beq a k with
  | true=>cases lZ hb;exact ld
  | false=>rw[hb]at h;exact kr _ (Ug h)
variable {P : Program} {T : KZ P} {k m : Nat}
theorem J8 {x:Bool×Nat}(h:look T.t k=some x):D7 P k=some x:=lB (jq.1 T.ht _ (XB h))
theorem Ps {x:Nat}(h:ND T.f k m=some x):Hd P k m=some x:=lB (jq.1 T.hf _ (Q4 h))
theorem XK {x:Nat×Bool×Nat}(h:ND T.v k m=some x):SY P k m=some x:=lB (jq.1 T.hv _ (Q4 h))
theorem KZ.bo (h:has T.b k=true):Nu P k=true:=jq.1 T.hb _ (Ug h)
theorem KZ.sl (h:has T.s k=true):DT P k=true:=jq.1 T.hs _ (Ug h)
def fo:AV->Option AV
 | .E2=>none
 | .un=>some .un
 | .int k n=>some (.int k n)
 | .bool b=>some (.bool b)
 | .str s=>some (.str s)
 | .zc=>some .zc
 | .Qm=>some .Qm
 | .Qb=>some .Qb
 | .sl xs=>some (.sl xs)
 | .own a b c=>some (.own a b c)
 | .ptr a b c d=>some (.ptr a b c d)
 | .Bh x o=>some (.Bh x o)
 | .fn f c=>some (.fn f c)
 | .agg c=>some (.agg c)
 | .Dp c=>some (.Dp c)
 | .dv a b c=>some (.dv a b c)
theorem OS {a v:AV}(h:fo a=some v):a=v:=by cases a<;>cases h<;>rfl
def arith (o:BinOp)(k:IntKind)(a b:Int):Option AV:=
 match o with
 | .add=>match k with
  | .i64=>some (i64 (Sh.w (a+b)))
  | k=>some (.int k (Sh.wk k (a+b)))
 | .sub=>match k with
  | .i64=>some (i64 (Sh.w (a-b)))
  | k=>some (.int k (Sh.wk k (a-b)))
 | .mul=>match k with
  | .i64=>some (i64 (Sh.w (a*b)))
  | k=>some (.int k (Sh.wk k (a*b)))
 | .lss=>some (.bool (decide (a<b)))
 | .leq=>some (.bool (decide (a<=b)))
 | .gtr=>some (.bool (decide (b<a)))
 | .geq=>some (.bool (decide (b<=a)))
 | .eql=>some (.bool (decide (a=b)))
 | .neq=>some (.bool (!decide (a=b)))
 | _=>none
def cm (k k':IntKind):Bool:=decide (k=k')
def dm (T:KZ P)(o:BinOp)(t:Nat):AV->AV->Option AV
 | .int k a,.int k' b=>bif cm k k' then arith o k a b else none
 | .bool p,.bool q=>bif has T.b t then (match o with
  | .eql=>some (.bool (p==q))
  | .neq=>some (.bool (p != q))
  | _=>none) else none
 | _,_=>none
def TB (xs:List (List AV))(cs:List AV)(off:Nat):Bool×Nat->Option AV
 | (false,_)=>(cs[off]?).bind fo
 | (true,sz)=>bif Nat.ble (off+sz) cs.length then some (.agg ((cs.drop off).take sz)) else none
def XH (g:Nat)(r:Option Row){α:Type}(f:Row->Option α):Option α:=
 match r with
 | none=>none
 | some r=>bif Nat.beq r.gen g then f r else none
def Vw (T:KZ P)(s:St)(t:Nat):AV->Option AV
 | .Bh cs off=>(look T.t t).bind (TB [] cs off)
 | .ptr id g i off=>XH g s.st[id]? λr=>(r.xs[i]?).bind λcs=>(look T.t t).bind (TB [] cs off)
 | _=>none
def qE (T:KZ P)(s:St):Op->Option AV
 | .move x=>fo (s.ev x)
 | .assign x=>fo (s.ev x)
 | .binOp o t x y _=>dm T o t (s.ev x) (s.ev y)
 | .unOp .not _ x=>match s.ev x with
  | .bool p=>some (.bool (!p))
  | _=>none
 | .unOp .neg _ x=>match s.ev x with
  | .int .i64 a=>some (i64 (Sh.w (-a)))
  | _=>none
 | .extract x i=>match s.ev x with
  | .Dp vs=>(vs[i]?).bind fo
  | _=>none
 | .nilCheck x=>match s.ev x with
  | .ptr id g i off=>XH g s.st[id]? λ_=>some (.ptr id g i off)
  | .Bh cs off=>some (.Bh cs off)
  | _=>none
 | .fieldAddr t x f=>match s.ev x with
  | .Bh cs off=>(ND T.f t f).bind λj=>some (.Bh cs (off+j))
  | .ptr id g i off=>(ND T.f t f).bind λj=>XH g s.st[id]? λr=>bif Nat.ble (off+j) r.size then some (.ptr id g i (off+j)) else none
  | _=>none
 | .load t x=>Vw T s t (s.ev x)
 | .field t x f=>match s.ev x with
  | .agg cs=>(ND T.v t f).bind λi=>TB [] cs i.1 i.2
  | _=>none
 | _=>none
theorem L8 {α:Type}{g:Nat}{r:Option Row}{f:Row->Option α}{v:α}(h:XH g r f=some v):∃el size xs,r=some ⟨g,el,size,xs⟩/\f ⟨g,el,size,xs⟩=some v:=by
 unfold XH at h;split at h
 ·cases h
 ·rename_i r;cases hb:Nat.beq r.gen g with
  | true=>rw[hb]at h;cases lZ hb;exact⟨_,_,_,rfl,h⟩
  | false=>rw[hb]at h;cases h
theorem eC {s:St}{o:BinOp}{t t':TypeId}{x y:Operand}{v:AV}(h:dm T o t (s.ev x) (s.ev y)=some v):AQ P s (.binOp o t x y t') v:=by
 unfold dm at h;split at h
 ·rename_i kk a sX b hx hy;cases hk:cm kk sX with
  | false=>rw[hk]at h;cases h
  | true=>
   rw[hk]at h;have qd:kk=sX:=lB hk;subst qd;simp only[cond_true]at h;cases o<;>simp only[arith]at h;all_goals try (cases kk<;>cases h<;>first|exact RZ hx hy|exact N7 hx hy|exact fH hx hy|exact dL hx hy|exact dr hx hy|exact eK hx hy)
   all_goals first
    | (cases h;done)
    | (cases h;first|exact ab hx hy|exact gT hx hy|exact gR hx hy|exact gv hx hy|exact iB hx hy|exact gN hx hy)
 ·rename_i p q hx hy;cases hb:has T.b t with
  | false=>rw[hb]at h;cases h
  | true=>
   rw[hb]at h;simp only[cond_true]at h;cases o<;>first
    | (cases h;done)
    | (cases h;first|exact fO (T.bo hb) hx hy|exact ff (T.bo hb) hx hy)
 ·cases h
theorem Ky {cs:List AV}{off:Nat}{i:Bool×Nat}{v:AV}(h:TB [] cs off i=some v):(i.1=false/\cs[off]?=some v)∨(i.1=true/\off+i.2<=cs.length/\v=.agg ((cs.drop off).take i.2)):=by
 obtain⟨b,sz⟩:=i;cases b with
 | false=>
  simp only[TB]at h;obtain⟨a,h1,h2⟩:=kU.1 h;rw[h1,OS h2];exact .inl ⟨rfl,rfl⟩
 | true=>
  simp only[TB]at h;cases hb:Nat.ble (off+sz) cs.length with
  | false=>rw[hb]at h;cases h
  | true=>rw[hb]at h;cases h;exact .inr ⟨rfl,lr hb,rfl⟩
theorem bx {s:St}{t:TypeId}{x:Operand}{v:AV}(h:Vw T s t (s.ev x)=some v):AQ P s (.load t x) v:=by
 unfold Vw at h;split at h
 ·rename_i cs off hx;obtain⟨⟨b,sz⟩,h1,h2⟩:=kU.1 h;rcases Ky h2 with ⟨hb,h3⟩|⟨hb,h3,rfl⟩<;>simp only at hb<;>subst hb
  ·exact Hf (J8 h1) hx h3
  ·exact HH (J8 h1) hx h3 rfl
 ·rename_i id g i off hx;obtain⟨el,size,xs,hr,h⟩:=L8 h;obtain⟨cs,hi,h⟩:=kU.1 h;obtain⟨⟨b,sz⟩,h1,h2⟩:=kU.1 h;rcases Ky h2 with ⟨hb,h3⟩|⟨hb,h3,rfl⟩<;>simp only at hb<;>subst hb
  ·exact Bx (J8 h1) hx hr hi h3
  ·exact Ar (J8 h1) hx hr hi h3 rfl
 ·cases h
theorem X1 {s:St}{op:Op}{v:AV}(h:qE T s op=some v):AQ P s op v:=by
 unfold qE at h;split at h
 ·exact BT (OS h)
 ·exact Sx (OS h)
 ·exact eC h
 ·split at h
  ·rename_i hx;cases h;exact fJ hx
  ·cases h
 ·split at h
  ·rename_i hx;cases h;exact ez hx
  ·cases h
 ·split at h
  ·rename_i vs hx;obtain⟨a,h1,h2⟩:=kU.1 h;rw[OS h2]at h1;exact gV hx h1
  ·cases h
 ·split at h
  ·rename_i hx;obtain⟨el,size,xs,hr,h⟩:=L8 h;cases h;exact fI hx hr
  ·rename_i hx;cases h;exact eh hx
  ·cases h
 ·split at h
  ·rename_i hx;obtain⟨j,h1,h2⟩:=kU.1 h;cases h2;exact IC (Ps h1) hx rfl
  ·rename_i hx;obtain⟨j,h1,h2⟩:=kU.1 h;obtain⟨el,size,xs,hr,h2⟩:=L8 h2;simp only at h2;cases hb:Nat.ble (_+j) size with
   | false=>rw[hb]at h2;cases h2
   | true=>rw[hb]at h2;cases h2;exact E1 (Ps h1) hx hr (lr hb) rfl
  ·cases h
 ·exact bx h
 ·split at h
  ·rename_i hx;obtain⟨⟨o,b,sz⟩,h1,h2⟩:=kU.1 h;rcases Ky h2 with ⟨hb,h3⟩|⟨hb,h3,rfl⟩<;>simp only at hb<;>subst hb
   ·exact gW (XK h1) hx h3
   ·exact ft (XK h1) hx h3 rfl
  ·cases h
 ·cases h
abbrev ow {α:Type}(i g:Nat)(l:List α):AV:=.own i g l.length
abbrev ro {α:Type}(g el size:Nat)(enc:α->List AV)(l:List α):Row:=⟨g,el,size,l.map enc⟩
abbrev ls {α:Type}(enc:α->List AV)(l:List α):AV:=.sl (l.map enc)
def fa:AV->Option Bool
 | .bool b=>some b
 | _=>none
theorem SS {v:AV}{b:Bool}(h:fa v=some b):v=.bool b:=by cases v<;>cases h;rfl
def gE (ds:List (Option Tmp))(jj:Nat)(e:Nat->AV):Option Bool:=
 match ds[jj]? with
 | some (some t)=>fa (e t)
 | _=>none
def uE (ds:List (Option Tmp))(jj:Nat)(e:Nat->AV):Bool:=
 match ds[jj]? with
 | some (some t)=>match e t with
  | .un=>true
  | _=>false
 | _=>false
section
variable {P : Program} {k : Nat} {ops : Array Oper} {Q : Exit -> St -> Prop} {ds : List (Option Tmp)} {r : List Oper} {n : Nat} {e : Nat -> AV} {st st' : List Row} {op : Op} {ty t' : TypeId} {ps : String} {ed : Array Edge} {d : Option Tmp} {t : Tmp} {v v' : AV}
variable {jj : Nat} {want b p : Bool} {tg : Tmp} {gd : Option (Nat × Bool)} {x y c : Operand} {KS : St -> Prop}
theorem ZZ (h:gE ds jj e=some b)(hb:b=want):GO ds (some (jj,want)) e:=by
 unfold gE at h;split at h
 ·rename_i tg hj;exact CW hj (SS h) hb
 ·cases h
def qL (T:KZ P)(s:St)(op:Op):Option AV:=bif Jt op then none else qE T s op
theorem PB {s:St}(h:qL T s op=some v):Jt op=false/\qE T s op=some v:=by
 unfold qL at h;cases hl:Jt op with
 | true=>rw[hl]at h;cases h
 | false=>rw[hl]at h;exact⟨rfl,h⟩
def gL (T:KZ P)(ds:List (Option Tmp))(jj:Nat)(s:St)(op:Op):Option (Bool×AV):=
 match gE ds jj s.env with
 | some b=>match qL T s op with
  | some v=>some (b,v)
  | none=>none
 | none=>none
theorem N0 {s:St}(h:gL T ds jj s op=some (b,v)):gE ds jj s.env=some b/\Jt op=false/\qE T s op=some v:=by
 unfold gL at h;split at h
 ·rename_i b' hg;split at h
  ·rename_i v' hv;cases h;exact⟨hg,PB hv⟩
  ·cases h
 ·cases h
def pE (s:St)(c x:Operand):Option (Bool×AV):=
 match fa (s.ev c) with
 | some b=>match fo (s.ev x) with
  | some v=>some (b,v)
  | none=>none
 | none=>none
theorem LO {s:St}{c x:Operand}(h:pE s c x=some (b,v)):s.ev c=.bool b/\s.ev x=v:=by
 unfold pE at h;split at h
 ·rename_i b' hg;split at h
  ·rename_i v' hv;cases h;exact⟨SS hg,OS hv⟩
  ·cases h
 ·cases h
theorem zq (T:KZ P)(h:qL T ⟨n,e,st⟩ op=some v)(hk:AO P k ops Q (ds++[some t]) r ⟨n,EC e t v,st⟩):AO P k ops Q ds (⟨some t,op,ty,ps,ed,none⟩::r) ⟨n,e,st⟩:=Ba AI (PB h).1 (X1 (PB h).2) hk
theorem zg (T:KZ P)(hb:b=want)(h:gL T ds jj ⟨n,e,st⟩ op=some (b,v))(hk:AO P k ops Q (ds++[some t]) r ⟨n,EC e t v,st⟩):AO P k ops Q ds (⟨some t,op,ty,ps,ed,some (jj,want)⟩::r) ⟨n,e,st⟩:=Ba (ZZ (N0 h).1 hb) (N0 h).2.1 (X1 (N0 h).2.2) hk
theorem zz (v:AV)(h:AQ P ⟨n,e,st⟩ op v)(hl:Jt op=false)(hk:AO P k ops Q (ds++[some t]) r ⟨n,EC e t v,st⟩):AO P k ops Q ds (⟨some t,op,ty,ps,ed,none⟩::r) ⟨n,e,st⟩:=Ba AI hl h hk
theorem yq (T:KZ P)(h:qL T ⟨n,e,st⟩ op=some v)(hk:D6 P (ds++[some t]) r KS ⟨n,EC e t v,st⟩):D6 P ds (⟨some t,op,ty,ps,ed,none⟩::r) KS ⟨n,e,st⟩:=H5 AI (PB h).1 (X1 (PB h).2) hk
theorem yg (T:KZ P)(hb:b=want)(h:gL T ds jj ⟨n,e,st⟩ op=some (b,v))(hk:D6 P (ds++[some t]) r KS ⟨n,EC e t v,st⟩):D6 P ds (⟨some t,op,ty,ps,ed,some (jj,want)⟩::r) KS ⟨n,e,st⟩:=H5 (ZZ (N0 h).1 hb) (N0 h).2.1 (X1 (N0 h).2.2) hk
theorem yz (v:AV)(h:AQ P ⟨n,e,st⟩ op v)(hl:Jt op=false)(hk:D6 P (ds++[some t]) r KS ⟨n,EC e t v,st⟩):D6 P ds (⟨some t,op,ty,ps,ed,none⟩::r) KS ⟨n,e,st⟩:=H5 AI hl h hk
theorem zs (hb:b=!want)(hg:gE ds jj e=some b)(h:AO P k ops Q (ds++[some t]) r ⟨n,EC e t .un,st⟩):AO P k ops Q ds (⟨some t,op,ty,ps,ed,some (jj,want)⟩::r) ⟨n,e,st⟩:=by
 unfold gE at hg;split at hg
 ·rename_i tg hj;exact eO hj (SS hg) hb h
 ·cases hg
theorem ys (hb:b=!want)(hg:gE ds jj e=some b)(h:D6 P (ds++[some t]) r KS ⟨n,EC e t .un,st⟩):D6 P ds (⟨some t,op,ty,ps,ed,some (jj,want)⟩::r) KS ⟨n,e,st⟩:=by
 unfold gE at hg;split at hg
 ·rename_i tg hj;exact fc hj (SS hg) hb h
 ·cases hg
theorem eY (hu:uE ds jj e=true):∃tg,ds[jj]?=some (some tg)/\e tg=.un:=by
 unfold uE at hu;split at hu
 ·rename_i tg hj;refine⟨tg,hj,?_⟩;cases he:e tg<;>rw[he]at hu<;>cases hu
 ·cases hu
theorem zn (hu:uE ds jj e=true)(h:AO P k ops Q (ds++[some t]) r ⟨n,EC e t .un,st⟩):AO P k ops Q ds (⟨some t,op,ty,ps,ed,some (jj,want)⟩::r) ⟨n,e,st⟩:=by
 obtain⟨tg,h1,h2⟩:=eY hu;exact cy h1 h2 h
def YY (T:KZ P)(n:Nat)(st:List Row):List Oper->(Nat->AV)->Option (Nat->AV)
 | [],e=>some e
 | ⟨some t,op,_,_,_,none⟩::r,e=>match qL T ⟨n,e,st⟩ op with
  | some v=>YY T n st r (EC e t v)
  | none=>none
 | _,_=>none
theorem Yr {T:KZ P}:∀{l:List Oper} {e e':Nat->AV} {ds:List (Option Tmp)},YY T n st l e=some e'->(∀ds,AO P k ops Q ds [] ⟨n,e',st⟩)->AO P k ops Q ds l ⟨n,e,st⟩
 | [],e,e',ds,h,hk=>by
  simp only[YY,jh]at h;subst h;exact hk ds
 | o::r,e,e',ds,h,hk=>by
  unfold YY at h;split at h
  ·rename_i h0;cases h0
  ·rename_i t op ty ps ed r' e0 h0;cases h0;split at h
   ·rename_i v hv;exact zq T hv (Yr h hk)
   ·cases h
  ·cases h
def runN (T:KZ P)(n:Nat)(st:List Row):Nat->List Oper->List (Option Tmp)->(Nat->AV)->Option (List Oper×List (Option Tmp)×(Nat->AV))
 | 0,l,ds,e=>some (l,ds,e)
 | m+1,⟨some t,op,_,_,_,none⟩::r,ds,e=>match qL T ⟨n,e,st⟩ op with
  | some v=>runN T n st m r (ds++[some t]) (EC e t v)
  | none=>none
 | _,_,_,_=>none
theorem zm (T:KZ P):∀(m:Nat) {l l':List Oper} {e e':Nat->AV} {ds zS:List (Option Tmp)},runN T n st m l ds e=some (l',zS,e')->AO P k ops Q zS l' ⟨n,e',st⟩->AO P k ops Q ds l ⟨n,e,st⟩
 | 0,l,l',e,e',ds,zS,h,hk=>by
  simp only[runN,jh,nA]at h;obtain⟨rfl,rfl,rfl⟩:=h;exact hk
 | m+1,[],l',e,e',ds,zS,h,hk=>by simp[runN]at h
 | m+1,o::r,l',e,e',ds,zS,h,hk=>by
  unfold runN at h;split at h
  ·rename_i h0;cases h0
  ·rename_i m0 t op ty ps ed r' hm h0;cases h0;cases hm;split at h
   ·rename_i v hv;exact zq T hv (zm T m h hk)
   ·cases h
  ·cases h
theorem zt (hp:p=true)(h:pE ⟨n,e,st⟩ c x=some (p,v))(hk:AO P k ops Q (ds++[some t]) r ⟨n,EC e t v,st⟩):AO P k ops Q ds (⟨some t,.pick c x y,ty,ps,ed,none⟩::r) ⟨n,e,st⟩:=Ba AI rfl (KV (LO h).1 hp (LO h).2) hk
theorem zf (hp:p=false)(h:pE ⟨n,e,st⟩ c y=some (p,v))(hk:AO P k ops Q (ds++[some t]) r ⟨n,EC e t v,st⟩):AO P k ops Q ds (⟨some t,.pick c x y,ty,ps,ed,none⟩::r) ⟨n,e,st⟩:=Ba AI rfl (Kx (LO h).1 hp (LO h).2) hk
theorem yt (hp:p=true)(h:pE ⟨n,e,st⟩ c x=some (p,v))(hk:D6 P (ds++[some t]) r KS ⟨n,EC e t v,st⟩):D6 P ds (⟨some t,.pick c x y,ty,ps,ed,none⟩::r) KS ⟨n,e,st⟩:=H5 AI rfl (KV (LO h).1 hp (LO h).2) hk
theorem yf (hp:p=false)(h:pE ⟨n,e,st⟩ c y=some (p,v))(hk:D6 P (ds++[some t]) r KS ⟨n,EC e t v,st⟩):D6 P ds (⟨some t,.pick c x y,ty,ps,ed,none⟩::r) KS ⟨n,e,st⟩:=H5 AI rfl (Kx (LO h).1 hp (LO h).2) hk
variable {α : Type} {l : List α} {enc : α -> List AV} {kk : IntKind} {j : Int} {u : α} {el size bytes : Nat} {zz : List AV}
theorem zl (T:KZ P)(hs:has T.s t'=true)(hx:St.ev ⟨n,e,st⟩ x=.sl (l.map enc))(hk:AO P k ops Q (ds++[some t]) r ⟨n,EC e t (i64 (Sh.len l)),st⟩):AO P k ops Q ds (⟨some t,.call ⟨.builtin .len,#[x],#[t']⟩,ty,ps,ed,none⟩::r) ⟨n,e,st⟩:=Ba AI rfl (Ch (T.sl hs) hx) hk
theorem yl (T:KZ P)(hs:has T.s t'=true)(hx:St.ev ⟨n,e,st⟩ x=.sl (l.map enc))(hk:D6 P (ds++[some t]) r KS ⟨n,EC e t (i64 (Sh.len l)),st⟩):D6 P ds (⟨some t,.call ⟨.builtin .len,#[x],#[t']⟩,ty,ps,ed,none⟩::r) KS ⟨n,e,st⟩:=H5 AI rfl (Ch (T.sl hs) hx) hk
theorem zx (he:D2 P t'=some ⟨el,size,bytes,zz⟩)(hg:Sh.get l j=some u)(hx:St.ev ⟨n,e,st⟩ x=.sl (l.map enc))(hy:St.ev ⟨n,e,st⟩ y=.int kk j)(hs:(enc u).length=size)(hk:AO P k ops Q (ds++[some t]) r ⟨n,EC e t (.Bh (enc u) 0),st⟩):AO P k ops Q ds (⟨some t,.indexAddr t' x y,ty,ps,ed,none⟩::r) ⟨n,e,st⟩:=Ba AI rfl (Cg he hx hy hg hs) hk
theorem yx (he:D2 P t'=some ⟨el,size,bytes,zz⟩)(hg:Sh.get l j=some u)(hx:St.ev ⟨n,e,st⟩ x=.sl (l.map enc))(hy:St.ev ⟨n,e,st⟩ y=.int kk j)(hs:(enc u).length=size)(hk:D6 P (ds++[some t]) r KS ⟨n,EC e t (.Bh (enc u) 0),st⟩):D6 P ds (⟨some t,.indexAddr t' x y,ty,ps,ed,none⟩::r) KS ⟨n,e,st⟩:=H5 AI rfl (Cg he hx hy hg hs) hk
variable {f : FuncId} {pw : Array Operand} {ts : Array TypeId} {args : List AV}
theorem zd (uw:b=want)(hb:Dl P f=true)(hc:Ab P f args [] λr st=>r=v/\st=[])(ha:pw.toList.map (St.ev ⟨n,e,st⟩)++[]=args)(hf:args.all flat=true)(hv:fo (shift st.length v)=some v')
  (hg:gE ds jj e=some b) (hk:AO P k ops Q (ds++[d]) r (St.put ⟨n,e,st⟩ d v')):AO P k ops Q ds (⟨d,.call ⟨.value (.func f),pw,ts⟩,ty,ps,ed,some (jj,want)⟩::r) ⟨n,e,st⟩:=
 CM (ZZ hg uw) hb hc ha hf jf (OS hv) (ky st) hk
theorem zc (hb:Dl P f=true)(hc:Ab P f args [] λr st=>r=v/\st=[])(ha:pw.toList.map (St.ev ⟨n,e,st⟩)++[]=args)(hf:args.all flat=true)(hv:fo (shift st.length v)=some v')
  (hk:AO P k ops Q (ds++[d]) r (St.put ⟨n,e,st⟩ d v')):AO P k ops Q ds (⟨d,.call ⟨.value (.func f),pw,ts⟩,ty,ps,ed,none⟩::r) ⟨n,e,st⟩:=
 CM AI hb hc ha hf jf (OS hv) (ky st) hk
theorem sr {id:Nat}{y:Code}{s:St}(hd:(ops.toList.all λo=>DC s.n o.dst)=true)(h :∀K:St->Prop,(∀s,AW P k y Q s->K s)->AO P k ops (KF K Q) [] ops.toList s):AW P k (.seq (.region id ops false) y) Q s:=
 AG λK hK=>AH hd (h K hK)
def Tr:Nat->List AV->List (Nat×AV)
 | _,[]=>[]
 | i,a::r=>(i,a)::Tr (i+1) r
theorem Sf:∀(l:List AV) (i t:Nat),Aa (Tr i l) t=if t<i then .E2 else (l[t-i]?).getD .E2
 | [],i,t=>by simp[Tr,Aa]
 | a::r,i,t=>by
  simp only[Tr,Aa,Sf r (i+1) t];by_cases h:t=i
  ·subst h;simp
  ·by_cases h2:t<i
   ·simp[h,h2,Nat.lt_succ_of_lt h2]
   ·obtain⟨d,hd⟩ :∃d,t-i=d+1:=⟨t-i-1,by omega⟩
    have h3:¬ t<i+1:=by omega
    simp[h,h2,h3,hd,show t-(i+1)=d by omega]
theorem ai {k N:Nat}{f:FuncId}{fn:Func}{c:Code}{args:List AV}{st:List Row}{R:AV->List Row->Prop}(hf:P.funcs[f]?=some fn)(hb:fn.body=some c)(hN:fn.ntmps=N)(hn:Nat.ble args.length N=true)(hk:st.length=k)
  (h:AW P k c (bF P k fn R) ⟨N,Aa (Tr 0 args),st⟩):Ab P f args st R:=by
 subst hN;subst hk;refine Ab.intro hf hb (lr hn) ?_;have e:OB args=Aa (Tr 0 args):=by
  funext t;rw[Sf];simp[OB,ll]
 rw[e];exact h
theorem zr (T:KZ P){id:Nat}{y:Code}{e':Nat->AV}(h:YY T n st ops.toList e=some e')(hd:(ops.toList.all λo=>DC n o.dst)=true)(hk:AW P k y Q ⟨n,e',st⟩):AW P k (.seq (.region id ops false) y) Q ⟨n,e,st⟩:=
 AG λK hK=>AH hd (Yr h λds=>AF (hK _ hk))
theorem dn {s:St}{K p:St->Prop}(hK :∀s,p s->K s)(hq:Q .normal s=K s)(h:p s):AO P k ops Q ds [] s:=AF (hq▸hK s h)
theorem ci {α:Type}{o:Operand}{x y:Code}{s:St}{A B C:α}(h:(if b=true then A else B)=C)(ho:fa (s.ev o)=some b)(h1:b=true->A=C->AW P k x Q s)(h2:b=false->B=C->AW P k y Q s):AW P k (.cond o x y) Q s:=
 GN (SS ho) (λhb=>h1 hb (by rw[<- h,jm hb])) (λhb=>h2 hb (by rw[<- h,jn (by rw[hb];decide)]))
theorem bs {α β:Type}{x:Option α}{f:α->Option β}{r:β}{G:Prop}(h:x.bind f=some r)(k :∀v,x=some v->f v=some r->G):G:=
 let ⟨v,h1,h2⟩:=Sh.bind_some h;k v h1 h2
theorem xi {α:Type}{p q:α->Prop}(a:α)(h:p a)(g:q a):∃a,p a/\q a:=⟨a,h,g⟩
theorem xr {α:Type}{p q:α->Prop}{a:α}(h:p a)(g:q a:=by exact And.intro rfl rfl):∃a,p a/\q a:=⟨a,h,g⟩
def TH (e:Nat->AV):List (Nat×AV)->List AV
 | []=>[]
 | (t,_)::r=>e t::TH e r
def TC:List (Nat×AV)->List AV
 | []=>[]
 | (_,v)::r=>v::TC r
theorem ME.of {e:Nat->AV}:∀{L:List (Nat×AV)},TH e L=TC L->ME e L
 | [],_=>trivial
 | (t,v)::r,h=>by
  simp only[TH,TC,mL]at h;exact⟨le.of h.1,ME.of h.2⟩
theorem AJ {L:List (Nat×AV)}(h:TH e L=TC L):Wk k ⟨n,e,st⟩ ⟨n,Aa L,st⟩:=Ag (ME.of h)
theorem Bn (L:List (Nat×AV))(h:TH (λt=>KB [] (e t)) L=TC L):Wk 0 ⟨n,e,st⟩ ⟨n,Aa L,[]⟩:=
 Bj (L:=L) (st':=[]) (st1:=[]) [] rfl .nil (by decide) rfl rfl .nil (ME.of h)
end
end Go.Abs
