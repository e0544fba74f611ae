import Derived.Test.YtgiajkaabnbieaaGreatAbsW
set_option linter.all false
namespace Go.Abs
open Go
structure LM (P:Program) where
 t:List (Nat×Bool×Nat)
 f:List (Nat×Nat×Nat)
 v:List (Nat×Nat×Nat×Bool×Nat)
 b:List Nat
 s:List Nat
 ht:(t.all λx=>decide (DS P x.1=some x.2))=true
 hf:(f.all λx=>decide (Hm P x.1 x.2.1=some x.2.2))=true
 hv:(v.all λx=>decide (TN P x.1 x.2.1=some x.2.2))=true
 hb:(b.all λx=>ON P x)=true
 hs:(s.all λx=>CY P x)=true
def look {α:Type}:List (Nat×α)->Nat->Option α
 | [],_=>none
 | (a,x)::r,k=>bif Nat.beq a k then some x else look r k
def N7 {α:Type}:List (Nat×Nat×α)->Nat->Nat->Option α
 | [],_,_=>none
 | (a,b,x)::r,k,m=>bif Nat.beq a k&&Nat.beq b m then some x else N7 r k m
theorem X2 {α:Type}{k:Nat}{x:α}:∀{l:List (Nat×α)},look l k=some x->(k,x)∈l
 | (a,y)::r,h=>by
  unfold look at h;cases hb:Nat.beq a k with
  | true=>rw[hb]at h;cases h;cases np hb;exact oJ
  | false=>rw[hb]at h;exact nf _ (X2 h)
theorem Re {α:Type}{k m:Nat}{x:α}:∀{l:List (Nat×Nat×α)},N7 l k m=some x->(k,m,x)∈l
 | (a,b,y)::r,h=>by
  unfold N7 at h;cases hb:Nat.beq a k&&Nat.beq b m with
  | true=>
   rw[hb]at h;cases h;rw[mQ]at hb;cases np hb.1;cases np hb.2;exact oJ
  | false=>rw[hb]at h;exact nf _ (Re h)
def has:List Nat->Nat->Bool
 | [],_=>false
 | a::r,k=>bif Nat.beq a k then true else has r k
theorem VR {k:Nat}:∀{l:List Nat},has l k=true->k∈l
 | a::r,h=>by
  unfold has at h;cases hb:Nat.beq a k with
  | true=>cases np hb;exact oJ
  | false=>rw[hb]at h;exact nf _ (VR h)
variable {P : Program} {T : LM P} {k m : Nat}
theorem KT {x:Bool×Nat}(h:look T.t k=some x):DS P k=some x:=nQ (mL.1 T.ht _ (X2 h))
theorem Qe {x:Nat}(h:N7 T.f k m=some x):Hm P k m=some x:=nQ (mL.1 T.hf _ (Re h))
theorem Xf {x:Nat×Bool×Nat}(h:N7 T.v k m=some x):TN P k m=some x:=nQ (mL.1 T.hv _ (Re h))
theorem LM.bo (h:has T.b k=true):ON P k=true:=mL.1 T.hb _ (VR h)
theorem LM.sl (h:has T.s k=true):CY P k=true:=mL.1 T.hs _ (VR h)
def fo:AV->Option AV
 | .FN=>none
 | .un=>some .un
 | .int k n=>some (.int k n)
 | .bool b=>some (.bool b)
 | .str s=>some (.str s)
 | .zc=>some .zc
 | .RW=>some .RW
 | .RZ=>some .RZ
 | .sl xs=>some (.sl xs)
 | .own a b c=>some (.own a b c)
 | .ptr a b c d=>some (.ptr a b c d)
 | .Bt x o=>some (.Bt x o)
 | .fn f c=>some (.fn f c)
 | .agg c=>some (.agg c)
 | .DX c=>some (.DX c)
 | .dv a b c=>some (.dv a b c)
 | .ex v=>some (.ex v)
theorem Ov {a v:AV}(h:fo a=some v):a=v:=by cases a<;>cases h<;>rfl
def arith (o:BinOp)(k:IntKind)(a b:Int):Option AV:=
 match o with
 | .add=>match k with
  | .i64=>some (i64 (Sh.w (a+b)))
  | k=>some (.int k (Sh.wk k (a+b)))
 | .sub=>match k with
  | .i64=>some (i64 (Sh.w (a-b)))
  | k=>some (.int k (Sh.wk k (a-b)))
 | .mul=>match k with
  | .i64=>some (i64 (Sh.w (a*b)))
  | k=>some (.int k (Sh.wk k (a*b)))
 | .lss=>some (.bool (decide (a<b)))
 | .leq=>some (.bool (decide (a<=b)))
 | .gtr=>some (.bool (decide (b<a)))
 | .geq=>some (.bool (decide (b<=a)))
 | .eql=>some (.bool (decide (a=b)))
 | .neq=>some (.bool (!decide (a=b)))
 | _=>none
def gP (k k':IntKind):Bool:=decide (k=k')
def fX (T:LM P)(o:BinOp)(t:Nat):AV->AV->Option AV
 | .int k a,.int k' b=>bif gP k k' then arith o k a b else none
 | .bool p,.bool q=>bif has T.b t then (match o with
  | .eql=>some (.bool (p==q))
  | .neq=>some (.bool (p != q))
  | _=>none) else none
 | _,_=>none
def Tf (xs:List (List AV))(cs:List AV)(off:Nat):Bool×Nat->Option AV
 | (false,_)=>(cs[off]?).bind fo
 | (true,sz)=>bif Nat.ble (off+sz) cs.length then some (.agg ((cs.drop off).take sz)) else none
def Xu (g:Nat)(r:Option Row){α:Type}(f:Row->Option α):Option α:=
 match r with
 | none=>none
 | some r=>bif Nat.beq r.gen g then f r else none
def V3 (T:LM P)(s:St)(t:Nat):AV->Option AV
 | .Bt cs off=>(look T.t t).bind (Tf [] cs off)
 | .ptr id g i off=>Xu g s.st[id]? λr=>(r.xs[i]?).bind λcs=>(look T.t t).bind (Tf [] cs off)
 | _=>none
def qE (T:LM P)(s:St):Op->Option AV
 | .move x=>fo (s.ev x)
 | .assign x=>fo (s.ev x)
 | .binOp o t x y _=>fX T o t (s.ev x) (s.ev y)
 | .unOp .not _ x=>match s.ev x with
  | .bool p=>some (.bool (!p))
  | _=>none
 | .unOp .neg _ x=>match s.ev x with
  | .int .i64 a=>some (i64 (Sh.w (-a)))
  | _=>none
 | .extract x i=>match s.ev x with
  | .DX vs=>(vs[i]?).bind fo
  | _=>none
 | .nilCheck x=>match s.ev x with
  | .ptr id g i off=>Xu g s.st[id]? λ_=>some (.ptr id g i off)
  | .Bt cs off=>some (.Bt cs off)
  | _=>none
 | .fieldAddr t x f=>match s.ev x with
  | .Bt cs off=>(N7 T.f t f).bind λj=>some (.Bt cs (off+j))
  | .ptr id g i off=>(N7 T.f t f).bind λj=>Xu g s.st[id]? λr=>bif Nat.ble (off+j) r.size then some (.ptr id g i (off+j)) else none
  | _=>none
 | .load t x=>V3 T s t (s.ev x)
 | .field t x f=>match s.ev x with
  | .agg cs=>(N7 T.v t f).bind λi=>Tf [] cs i.1 i.2
  | _=>none
 | _=>none
theorem NH {α:Type}{g:Nat}{r:Option Row}{f:Row->Option α}{v:α}(h:Xu g r f=some v):∃el size xs,r=some ⟨g,el,size,xs⟩/\f ⟨g,el,size,xs⟩=some v:=by
 unfold Xu at h;split at h
 ·cases h
 ·rename_i r;cases hb:Nat.beq r.gen g with
  | true=>rw[hb]at h;cases np hb;exact⟨_,_,_,rfl,h⟩
  | false=>rw[hb]at h;cases h
theorem gG {s:St}{o:BinOp}{t t':TypeId}{x y:Operand}{v:AV}(h:fX T o t (s.ev x) (s.ev y)=some v):AQ P s (.binOp o t x y t') v:=by
 unfold fX at h;split at h
 ·rename_i kk a tz b hx hy;cases hk:gP kk tz with
  | false=>rw[hk]at h;cases h
  | true=>
   rw[hk]at h;have hk':kk=tz:=nQ hk;subst hk';simp only[cond_true]at h;cases o<;>simp only[arith]at h;all_goals try (cases kk<;>cases h<;>first|exact YC hx hy|exact iY hx hy|exact hU hx hy|exact fb hx hy|exact fa hx hy|exact fY hx hy)
   all_goals first
    | (cases h;done)
    | (cases h;first|exact bE hx hy|exact ju hx hy|exact jr hx hy|exact jl hx hy|exact ky hx hy|exact jk hx hy)
 ·rename_i p q hx hy;cases hb:has T.b t with
  | false=>rw[hb]at h;cases h
  | true=>
   rw[hb]at h;simp only[cond_true]at h;cases o<;>first
    | (cases h;done)
    | (cases h;first|exact gx (T.bo hb) hx hy|exact iC (T.bo hb) hx hy)
 ·cases h
theorem MD {cs:List AV}{off:Nat}{i:Bool×Nat}{v:AV}(h:Tf [] cs off i=some v):(i.1=false/\cs[off]?=some v)∨(i.1=true/\off+i.2<=cs.length/\v=.agg ((cs.drop off).take i.2)):=by
 obtain⟨b,sz⟩:=i;cases b with
 | false=>
  simp only[Tf]at h;obtain⟨a,h1,h2⟩:=mn.1 h;rw[h1,Ov h2];exact .inl ⟨rfl,rfl⟩
 | true=>
  simp only[Tf]at h;cases hb:Nat.ble (off+sz) cs.length with
  | false=>rw[hb]at h;cases h
  | true=>rw[hb]at h;cases h;exact .inr ⟨rfl,om hb,rfl⟩
theorem eX {s:St}{t:TypeId}{x:Operand}{v:AV}(h:V3 T s t (s.ev x)=some v):AQ P s (.load t x) v:=by
 unfold V3 at h;split at h
 ·rename_i cs off hx;obtain⟨⟨b,sz⟩,h1,h2⟩:=mn.1 h;rcases MD h2 with ⟨hb,h3⟩|⟨hb,h3,rfl⟩<;>simp only at hb<;>subst hb
  ·exact iF (KT h1) hx h3
  ·exact ZU (KT h1) hx h3 rfl
 ·rename_i id g i off hx;obtain⟨el,size,xs,hr,h⟩:=NH h;obtain⟨cs,hi,h⟩:=mn.1 h;obtain⟨⟨b,sz⟩,h1,h2⟩:=mn.1 h;rcases MD h2 with ⟨hb,h3⟩|⟨hb,h3,rfl⟩<;>simp only at hb<;>subst hb
  ·exact DQ (KT h1) hx hr hi h3
  ·exact Ch (KT h1) hx hr hi h3 rfl
 ·cases h
theorem Yj {s:St}{op:Op}{v:AV}(h:qE T s op=some v):AQ P s op v:=by
 unfold qE at h;split at h
 ·exact MV (Ov h)
 ·exact T9 (Ov h)
 ·exact gG h
 ·split at h
  ·rename_i hx;cases h;exact iw hx
  ·cases h
 ·split at h
  ·rename_i hx;cases h;exact iZ hx
  ·cases h
 ·split at h
  ·rename_i vs hx;obtain⟨a,h1,h2⟩:=mn.1 h;rw[Ov h2]at h1;exact jo hx h1
  ·cases h
 ·split at h
  ·rename_i hx;obtain⟨el,size,xs,hr,h⟩:=NH h;cases h;exact iM hx hr
  ·rename_i hx;cases h;exact iq hx
  ·cases h
 ·split at h
  ·rename_i hx;obtain⟨j,h1,h2⟩:=mn.1 h;cases h2;exact jH (Qe h1) hx rfl
  ·rename_i hx;obtain⟨j,h1,h2⟩:=mn.1 h;obtain⟨el,size,xs,hr,h2⟩:=NH h2;simp only at h2;cases hb:Nat.ble (_+j) size with
   | false=>rw[hb]at h2;cases h2
   | true=>rw[hb]at h2;cases h2;exact Jr (Qe h1) hx hr (om hb) rfl
  ·cases h
 ·exact eX h
 ·split at h
  ·rename_i hx;obtain⟨⟨o,b,sz⟩,h1,h2⟩:=mn.1 h;rcases MD h2 with ⟨hb,h3⟩|⟨hb,h3,rfl⟩<;>simp only at hb<;>subst hb
   ·exact kZ (Xf h1) hx h3
   ·exact hZ (Xf h1) hx h3 rfl
  ·cases h
 ·cases h
abbrev ow {α:Type}(i g:Nat)(l:List α):AV:=.own i g l.length
abbrev ro {α:Type}(g el size:Nat)(enc:α->List AV)(l:List α):Row:=⟨g,el,size,l.map enc⟩
abbrev ls {α:Type}(enc:α->List AV)(l:List α):AV:=.sl (l.map enc)
def iB:AV->Option Bool
 | .bool b=>some b
 | _=>none
theorem Sy {v:AV}{b:Bool}(h:iB v=some b):v=.bool b:=by cases v<;>cases h;rfl
def gE (ds:List (Option Tmp))(jj:Nat)(e:Nat->AV):Option Bool:=
 match ds[jj]? with
 | some (some t)=>iB (e t)
 | _=>none
def uE (ds:List (Option Tmp))(jj:Nat)(e:Nat->AV):Bool:=
 match ds[jj]? with
 | some (some t)=>match e t with
  | .un=>true
  | _=>false
 | _=>false
section
variable {P : Program} {k : Nat} {ops : Array Oper} {Q : Exit -> St -> Prop} {ds : List (Option Tmp)} {r : List Oper} {n : Nat} {e : Nat -> AV} {st st' : List Row} {op : Op} {ty t' : TypeId} {ps : String} {ed : Array Edge} {d : Option Tmp} {t : Tmp} {v v' : AV}
variable {jj : Nat} {want b p : Bool} {tg : Tmp} {gd : Option (Nat × Bool)} {x y c : Operand} {KS : St -> Prop}
theorem bx (h:gE ds jj e=some b)(hb:b=want):GO ds (some (jj,want)) e:=by
 unfold gE at h;split at h
 ·rename_i tg hj;exact BH hj (Sy h) hb
 ·cases h
def qL (T:LM P)(s:St)(op:Op):Option AV:=bif Ks op then none else qE T s op
theorem QP {s:St}(h:qL T s op=some v):Ks op=false/\qE T s op=some v:=by
 unfold qL at h;cases hl:Ks op with
 | true=>rw[hl]at h;cases h
 | false=>rw[hl]at h;exact⟨rfl,h⟩
def gL (T:LM P)(ds:List (Option Tmp))(jj:Nat)(s:St)(op:Op):Option (Bool×AV):=
 match gE ds jj s.env with
 | some b=>match qL T s op with
  | some v=>some (b,v)
  | none=>none
 | none=>none
theorem OP {s:St}(h:gL T ds jj s op=some (b,v)):gE ds jj s.env=some b/\Ks op=false/\qE T s op=some v:=by
 unfold gL at h;split at h
 ·rename_i b' hg;split at h
  ·rename_i v' hv;cases h;exact⟨hg,QP hv⟩
  ·cases h
 ·cases h
def pE (s:St)(c x:Operand):Option (Bool×AV):=
 match iB (s.ev c) with
 | some b=>match fo (s.ev x) with
  | some v=>some (b,v)
  | none=>none
 | none=>none
theorem MM {s:St}{c x:Operand}(h:pE s c x=some (b,v)):s.ev c=.bool b/\s.ev x=v:=by
 unfold pE at h;split at h
 ·rename_i b' hg;split at h
  ·rename_i v' hv;cases h;exact⟨Sy hg,Ov hv⟩
  ·cases h
 ·cases h
theorem zq (T:LM P)(h:qL T ⟨n,e,st⟩ op=some v)(hk:AO P k ops Q (ds++[some t]) r ⟨n,FY e t v,st⟩):AO P k ops Q ds (⟨some t,op,ty,ps,ed,none⟩::r) ⟨n,e,st⟩:=Ap AR (QP h).1 (Yj (QP h).2) hk
theorem zg (T:LM P)(hb:b=want)(h:gL T ds jj ⟨n,e,st⟩ op=some (b,v))(hk:AO P k ops Q (ds++[some t]) r ⟨n,FY e t v,st⟩):AO P k ops Q ds (⟨some t,op,ty,ps,ed,some (jj,want)⟩::r) ⟨n,e,st⟩:=Ap (bx (OP h).1 hb) (OP h).2.1 (Yj (OP h).2.2) hk
theorem zz (v:AV)(h:AQ P ⟨n,e,st⟩ op v)(hl:Ks op=false)(hk:AO P k ops Q (ds++[some t]) r ⟨n,FY e t v,st⟩):AO P k ops Q ds (⟨some t,op,ty,ps,ed,none⟩::r) ⟨n,e,st⟩:=Ap AR hl h hk
theorem yq (T:LM P)(h:qL T ⟨n,e,st⟩ op=some v)(hk:Di P (ds++[some t]) r KS ⟨n,FY e t v,st⟩):Di P ds (⟨some t,op,ty,ps,ed,none⟩::r) KS ⟨n,e,st⟩:=IP AR (QP h).1 (Yj (QP h).2) hk
theorem yg (T:LM P)(hb:b=want)(h:gL T ds jj ⟨n,e,st⟩ op=some (b,v))(hk:Di P (ds++[some t]) r KS ⟨n,FY e t v,st⟩):Di P ds (⟨some t,op,ty,ps,ed,some (jj,want)⟩::r) KS ⟨n,e,st⟩:=IP (bx (OP h).1 hb) (OP h).2.1 (Yj (OP h).2.2) hk
theorem yz (v:AV)(h:AQ P ⟨n,e,st⟩ op v)(hl:Ks op=false)(hk:Di P (ds++[some t]) r KS ⟨n,FY e t v,st⟩):Di P ds (⟨some t,op,ty,ps,ed,none⟩::r) KS ⟨n,e,st⟩:=IP AR hl h hk
theorem zs (hb:b=!want)(hg:gE ds jj e=some b)(h:AO P k ops Q (ds++[some t]) r ⟨n,FY e t .un,st⟩):AO P k ops Q ds (⟨some t,op,ty,ps,ed,some (jj,want)⟩::r) ⟨n,e,st⟩:=by
 unfold gE at hg;split at hg
 ·rename_i tg hj;exact fz hj (Sy hg) hb h
 ·cases hg
theorem ys (hb:b=!want)(hg:gE ds jj e=some b)(h:Di P (ds++[some t]) r KS ⟨n,FY e t .un,st⟩):Di P ds (⟨some t,op,ty,ps,ed,some (jj,want)⟩::r) KS ⟨n,e,st⟩:=by
 unfold gE at hg;split at hg
 ·rename_i tg hj;exact iK hj (Sy hg) hb h
 ·cases hg
theorem Z4 (hu:uE ds jj e=true):∃tg,ds[jj]?=some (some tg)/\e tg=.un:=by
 unfold uE at hu;split at hu
 ·rename_i tg hj;refine⟨tg,hj,?_⟩;cases he:e tg<;>rw[he]at hu<;>cases hu
 ·cases hu
theorem zn (hu:uE ds jj e=true)(h:AO P k ops Q (ds++[some t]) r ⟨n,FY e t .un,st⟩):AO P k ops Q ds (⟨some t,op,ty,ps,ed,some (jj,want)⟩::r) ⟨n,e,st⟩:=by
 obtain⟨tg,h1,h2⟩:=Z4 hu;exact fk h1 h2 h
theorem yn (hu:uE ds jj e=true)(h:Di P (ds++[some t]) r KS ⟨n,FY e t .un,st⟩):Di P ds (⟨some t,op,ty,ps,ed,some (jj,want)⟩::r) KS ⟨n,e,st⟩:=by
 obtain⟨tg,h1,h2⟩:=Z4 hu;exact jG h1 h2 h
def aU (T:LM P)(n:Nat)(st:List Row):List Oper->(Nat->AV)->Option (Nat->AV)
 | [],e=>some e
 | ⟨some t,op,_,_,_,none⟩::r,e=>match qL T ⟨n,e,st⟩ op with
  | some v=>aU T n st r (FY e t v)
  | none=>none
 | _,_=>none
theorem ZI {T:LM P}:∀{l:List Oper} {e e':Nat->AV} {ds:List (Option Tmp)},aU T n st l e=some e'->(∀ds,AO P k ops Q ds [] ⟨n,e',st⟩)->AO P k ops Q ds l ⟨n,e,st⟩
 | [],e,e',ds,h,hk=>by
  simp only[aU,mE]at h;subst h;exact hk ds
 | o::r,e,e',ds,h,hk=>by
  unfold aU at h;split at h
  ·rename_i h0;cases h0
  ·rename_i t op ty ps ed r' e0 h0;cases h0;split at h
   ·rename_i v hv;exact zq T hv (ZI h hk)
   ·cases h
  ·cases h
def runN (T:LM P)(n:Nat)(st:List Row):Nat->List Oper->List (Option Tmp)->(Nat->AV)->Option (List Oper×List (Option Tmp)×(Nat->AV))
 | 0,l,ds,e=>some (l,ds,e)
 | m+1,⟨some t,op,_,_,_,none⟩::r,ds,e=>match qL T ⟨n,e,st⟩ op with
  | some v=>runN T n st m r (ds++[some t]) (FY e t v)
  | none=>none
 | _,_,_,_=>none
theorem zm (T:LM P):∀(m:Nat) {l l':List Oper} {e e':Nat->AV} {ds ds':List (Option Tmp)},runN T n st m l ds e=some (l',ds',e')->AO P k ops Q ds' l' ⟨n,e',st⟩->AO P k ops Q ds l ⟨n,e,st⟩
 | 0,l,l',e,e',ds,ds',h,hk=>by
  simp only[runN,mE,pn]at h;obtain⟨rfl,rfl,rfl⟩:=h;exact hk
 | m+1,[],l',e,e',ds,ds',h,hk=>by simp[runN]at h
 | m+1,o::r,l',e,e',ds,ds',h,hk=>by
  unfold runN at h;split at h
  ·rename_i h0;cases h0
  ·rename_i m0 t op ty ps ed r' hm h0;cases h0;cases hm;split at h
   ·rename_i v hv;exact zq T hv (zm T m h hk)
   ·cases h
  ·cases h
theorem zt (hp:p=true)(h:pE ⟨n,e,st⟩ c x=some (p,v))(hk:AO P k ops Q (ds++[some t]) r ⟨n,FY e t v,st⟩):AO P k ops Q ds (⟨some t,.pick c x y,ty,ps,ed,none⟩::r) ⟨n,e,st⟩:=Ap AR rfl (Cc (MM h).1 hp (MM h).2) hk
theorem zf (hp:p=false)(h:pE ⟨n,e,st⟩ c y=some (p,v))(hk:AO P k ops Q (ds++[some t]) r ⟨n,FY e t v,st⟩):AO P k ops Q ds (⟨some t,.pick c x y,ty,ps,ed,none⟩::r) ⟨n,e,st⟩:=Ap AR rfl (CO (MM h).1 hp (MM h).2) hk
theorem yt (hp:p=true)(h:pE ⟨n,e,st⟩ c x=some (p,v))(hk:Di P (ds++[some t]) r KS ⟨n,FY e t v,st⟩):Di P ds (⟨some t,.pick c x y,ty,ps,ed,none⟩::r) KS ⟨n,e,st⟩:=IP AR rfl (Cc (MM h).1 hp (MM h).2) hk
theorem yf (hp:p=false)(h:pE ⟨n,e,st⟩ c y=some (p,v))(hk:Di P (ds++[some t]) r KS ⟨n,FY e t v,st⟩):Di P ds (⟨some t,.pick c x y,ty,ps,ed,none⟩::r) KS ⟨n,e,st⟩:=IP AR rfl (CO (MM h).1 hp (MM h).2) hk
variable {α : Type} {l : List α} {enc : α -> List AV} {kk : IntKind} {j : Int} {u : α} {el size bytes : Nat} {zz : List AV}
theorem zl (T:LM P)(hs:has T.s t'=true)(hx:St.ev ⟨n,e,st⟩ x=.sl (l.map enc))(hk:AO P k ops Q (ds++[some t]) r ⟨n,FY e t (i64 (Sh.len l)),st⟩):AO P k ops Q ds (⟨some t,.call ⟨.builtin .len,#[x],#[t']⟩,ty,ps,ed,none⟩::r) ⟨n,e,st⟩:=Ap AR rfl (Br (T.sl hs) hx) hk
theorem yl (T:LM P)(hs:has T.s t'=true)(hx:St.ev ⟨n,e,st⟩ x=.sl (l.map enc))(hk:Di P (ds++[some t]) r KS ⟨n,FY e t (i64 (Sh.len l)),st⟩):Di P ds (⟨some t,.call ⟨.builtin .len,#[x],#[t']⟩,ty,ps,ed,none⟩::r) KS ⟨n,e,st⟩:=IP AR rfl (Br (T.sl hs) hx) hk
theorem zx (he:Cj P t'=some ⟨el,size,bytes,zz⟩)(hg:Sh.get l j=some u)(hx:St.ev ⟨n,e,st⟩ x=.sl (l.map enc))(hy:St.ev ⟨n,e,st⟩ y=.int kk j)(hs:(enc u).length=size)(hk:AO P k ops Q (ds++[some t]) r ⟨n,FY e t (.Bt (enc u) 0),st⟩):AO P k ops Q ds (⟨some t,.indexAddr t' x y,ty,ps,ed,none⟩::r) ⟨n,e,st⟩:=Ap AR rfl (Bc he hx hy hg hs) hk
theorem yx (he:Cj P t'=some ⟨el,size,bytes,zz⟩)(hg:Sh.get l j=some u)(hx:St.ev ⟨n,e,st⟩ x=.sl (l.map enc))(hy:St.ev ⟨n,e,st⟩ y=.int kk j)(hs:(enc u).length=size)(hk:Di P (ds++[some t]) r KS ⟨n,FY e t (.Bt (enc u) 0),st⟩):Di P ds (⟨some t,.indexAddr t' x y,ty,ps,ed,none⟩::r) KS ⟨n,e,st⟩:=IP AR rfl (Bc he hx hy hg hs) hk
variable {f : FuncId} {sm : Array Operand} {ts : Array TypeId} {args : List AV}
theorem zd (vj:b=want)(hb:Er P f=true)(hc:AS P f args [] λr st=>r=v/\st=[])(ha:sm.toList.map (St.ev ⟨n,e,st⟩)++[]=args)(hf:args.all flat=true)(hv:fo (shift st.length v)=some v')
  (hg:gE ds jj e=some b) (hk:AO P k ops Q (ds++[d]) r (St.put ⟨n,e,st⟩ d v')):AO P k ops Q ds (⟨d,.call ⟨.value (.func f),sm,ts⟩,ty,ps,ed,some (jj,want)⟩::r) ⟨n,e,st⟩:=
 BE (bx hg vj) hb hc ha hf mD (Ov hv) (nK st) hk
theorem zc (hb:Er P f=true)(hc:AS P f args [] λr st=>r=v/\st=[])(ha:sm.toList.map (St.ev ⟨n,e,st⟩)++[]=args)(hf:args.all flat=true)(hv:fo (shift st.length v)=some v')
  (hk:AO P k ops Q (ds++[d]) r (St.put ⟨n,e,st⟩ d v')):AO P k ops Q ds (⟨d,.call ⟨.value (.func f),sm,ts⟩,ty,ps,ed,none⟩::r) ⟨n,e,st⟩:=
 BE AR hb hc ha hf mD (Ov hv) (nK st) hk
theorem sr {id:Nat}{y:Code}{s:St}(hd:(ops.toList.all λo=>DY s.n o.dst)=true)(h :∀K:St->Prop,(∀s,AW P k y Q s->K s)->AO P k ops (YK K Q) [] ops.toList s):AW P k (.seq (.region id ops false) y) Q s:=
 AD λK hK=>AF hd (h K hK)
def Xh:Nat->List AV->List (Nat×AV)
 | _,[]=>[]
 | i,a::r=>(i,a)::Xh (i+1) r
theorem Xx:∀(l:List AV) (i t:Nat),AN (Xh i l) t=if t<i then .FN else (l[t-i]?).getD .FN
 | [],i,t=>by simp[Xh,AN]
 | a::r,i,t=>by
  simp only[Xh,AN,Xx r (i+1) t];by_cases h:t=i
  ·subst h;simp
  ·by_cases h2:t<i
   ·simp[h,h2,Nat.lt_succ_of_lt h2]
   ·obtain⟨d,hd⟩ :∃d,t-i=d+1:=⟨t-i-1,by omega⟩
    have h3:¬ t<i+1:=by omega
    simp[h,h2,h3,hd,show t-(i+1)=d by omega]
theorem ai {k N:Nat}{f:FuncId}{fn:Func}{c:Code}{args:List AV}{st:List Row}{R:AV->List Row->Prop}(hf:P.funcs[f]?=some fn)(hb:fn.body=some c)(hN:fn.ntmps=N)(hn:Nat.ble args.length N=true)(hk:st.length=k)
  (h:AW P k c (gS P k fn R) ⟨N,AN (Xh 0 args),st⟩):AS P f args st R:=by
 subst hN;subst hk;refine AS.intro hf hb (om hn) ?_;have e:VL args=AN (Xh 0 args):=by
  funext t;rw[Xx];simp[VL,oz]
 rw[e];exact h
theorem zr (T:LM P){id:Nat}{y:Code}{e':Nat->AV}(h:aU T n st ops.toList e=some e')(hd:(ops.toList.all λo=>DY n o.dst)=true)(hk:AW P k y Q ⟨n,e',st⟩):AW P k (.seq (.region id ops false) y) Q ⟨n,e,st⟩:=
 AD λK hK=>AF hd (ZI h λds=>AE (hK _ hk))
theorem dn {s:St}{K p:St->Prop}(hK :∀s,p s->K s)(hq:Q .normal s=K s)(h:p s):AO P k ops Q ds [] s:=AE (hq▸hK s h)
theorem ci {α:Type}{o:Operand}{x y:Code}{s:St}{A B C:α}(h:(if b=true then A else B)=C)(ho:iB (s.ev o)=some b)(h1:b=true->A=C->AW P k x Q s)(h2:b=false->B=C->AW P k y Q s):AW P k (.cond o x y) Q s:=
 Fi (Sy ho) (λhb=>h1 hb (by rw[<- h,mI hb])) (λhb=>h2 hb (by rw[<- h,mJ (by rw[hb];decide)]))
theorem bs {α β:Type}{x:Option α}{f:α->Option β}{r:β}{G:Prop}(h:x.bind f=some r)(k :∀v,x=some v->f v=some r->G):G:=
 let ⟨v,h1,h2⟩:=Sh.bind_some h;k v h1 h2
theorem xi {α:Type}{p q:α->Prop}(a:α)(h:p a)(g:q a):∃a,p a/\q a:=⟨a,h,g⟩
theorem xr {α:Type}{p q:α->Prop}{a:α}(h:p a)(g:q a:=by exact And.intro rfl rfl):∃a,p a/\q a:=⟨a,h,g⟩
def Tp (e:Nat->AV):List (Nat×AV)->List AV
 | []=>[]
 | (t,_)::r=>e t::Tp e r
def Tc:List (Nat×AV)->List AV
 | []=>[]
 | (_,v)::r=>v::Tc r
theorem ME.of {e:Nat->AV}:∀{L:List (Nat×AV)},Tp e L=Tc L->ME e L
 | [],_=>trivial
 | (t,v)::r,h=>by
  simp only[Tp,Tc,py]at h;exact⟨le.of h.1,ME.of h.2⟩
theorem AI {L:List (Nat×AV)}(h:Tp e L=Tc L):Wk k ⟨n,e,st⟩ ⟨n,AN L,st⟩:=Ao (ME.of h)
theorem BF (L:List (Nat×AV))(h:Tp (λt=>Ke [] (e t)) L=Tc L):Wk 0 ⟨n,e,st⟩ ⟨n,AN L,[]⟩:=
 Wk.jz (L:=L) (st':=[]) (st1:=[]) [] rfl .nil (by decide) rfl rfl .nil (ME.of h)
end
end Go.Abs
