import Derived.Test.YtccficmcdkcpnaaGreatAbsW
set_option linter.all false
namespace Go.Abs
open Go
structure KV (P:Program) where
 t:List (Nat×Bool×Nat)
 f:List (Nat×Nat×Nat)
 v:List (Nat×Nat×Nat×Bool×Nat)
 b:List Nat
 s:List Nat
 ht:(t.all λx=>decide (CF P x.1=some x.2))=true
 hf:(f.all λx=>decide (Ic P x.1 x.2.1=some x.2.2))=true
 hv:(v.all λx=>decide (Ti P x.1 x.2.1=some x.2.2))=true
 hb:(b.all λx=>Np P x)=true
 hs:(s.all λx=>B1 P x)=true
def look {α:Type}:List (Nat×α)->Nat->Option α
 | [],_=>none
 | (a,x)::r,k=>bif Nat.beq a k then some x else look r k
def NJ {α:Type}:List (Nat×Nat×α)->Nat->Nat->Option α
 | [],_,_=>none
 | (a,b,x)::r,k,m=>bif Nat.beq a k&&Nat.beq b m then some x else NJ r k m
theorem XM {α:Type}{k:Nat}{x:α}:∀{l:List (Nat×α)},look l k=some x->(k,x)∈l
 | (a,y)::r,h=>by
  unfold look at h;cases hb:Nat.beq a k with
  | true=>rw[hb]at h;cases h;cases oP hb;exact oQ
  | false=>rw[hb]at h;exact nv _ (XM h)
theorem RS {α:Type}{k m:Nat}{x:α}:∀{l:List (Nat×Nat×α)},NJ l k m=some x->(k,m,x)∈l
 | (a,b,y)::r,h=>by
  unfold NJ at h;cases hb:Nat.beq a k&&Nat.beq b m with
  | true=>
   rw[hb]at h;cases h;rw[mh]at hb;cases oP hb.1;cases oP hb.2;exact oQ
  | false=>rw[hb]at h;exact nv _ (RS h)
def has:List Nat->Nat->Bool
 | [],_=>false
 | a::r,k=>bif Nat.beq a k then true else has r k
theorem V4 {k:Nat}:∀{l:List Nat},has l k=true->k∈l
 | a::r,h=>by
  unfold has at h;cases hb:Nat.beq a k with
  | true=>cases oP hb;exact oQ
  | false=>rw[hb]at h;exact nv _ (V4 h)
variable {P : Program} {T : KV P} {k m : Nat}
theorem Jd {x:Bool×Nat}(h:look T.t k=some x):CF P k=some x:=nh (ma.1 T.ht _ (XM h))
theorem QM {x:Nat}(h:NJ T.f k m=some x):Ic P k m=some x:=nh (ma.1 T.hf _ (RS h))
theorem XI {x:Nat×Bool×Nat}(h:NJ T.v k m=some x):Ti P k m=some x:=nh (ma.1 T.hv _ (RS h))
theorem KV.bo (h:has T.b k=true):Np P k=true:=ma.1 T.hb _ (V4 h)
theorem KV.sl (h:has T.s k=true):B1 P k=true:=ma.1 T.hs _ (V4 h)
def fo:AV->Option AV
 | .FQ=>none
 | .un=>some .un
 | .int k n=>some (.int k n)
 | .bool b=>some (.bool b)
 | .str s=>some (.str s)
 | .zc=>some .zc
 | .O5=>some .O5
 | .Po=>some .Po
 | .sl xs=>some (.sl xs)
 | .own a b c=>some (.own a b c)
 | .ptr a b c d=>some (.ptr a b c d)
 | .Bz x o=>some (.Bz x o)
 | .fn f c=>some (.fn f c)
 | .agg c=>some (.agg c)
 | .C7 c=>some (.C7 c)
 | .dv a b c=>some (.dv a b c)
 | .ex v=>some (.ex v)
 | .bd f c=>some (.bd f c)
theorem OA {a v:AV}(h:fo a=some v):a=v:=by cases a<;>cases h<;>rfl
def arith (o:BinOp)(k:IntKind)(a b:Int):Option AV:=
 match o with
 | .add=>match k with
  | .i64=>some (i64 (Sh.w (a+b)))
  | k=>some (.int k (Sh.wk k (a+b)))
 | .sub=>match k with
  | .i64=>some (i64 (Sh.w (a-b)))
  | k=>some (.int k (Sh.wk k (a-b)))
 | .mul=>match k with
  | .i64=>some (i64 (Sh.w (a*b)))
  | k=>some (.int k (Sh.wk k (a*b)))
 | .lss=>some (.bool (decide (a<b)))
 | .leq=>some (.bool (decide (a<=b)))
 | .gtr=>some (.bool (decide (b<a)))
 | .geq=>some (.bool (decide (b<=a)))
 | .eql=>some (.bool (decide (a=b)))
 | .neq=>some (.bool (!decide (a=b)))
 | _=>none
def gS (k k':IntKind):Bool:=decide (k=k')
def gb (T:KV P)(o:BinOp)(t:Nat):AV->AV->Option AV
 | .int k a,.int k' b=>bif gS k k' then arith o k a b else none
 | .bool p,.bool q=>bif has T.b t then (match o with
  | .eql=>some (.bool (p==q))
  | .neq=>some (.bool (p != q))
  | _=>none) else none
 | _,_=>none
def TT (xs:List (List AV))(cs:List AV)(off:Nat):Bool×Nat->Option AV
 | (false,_)=>(cs[off]?).bind fo
 | (true,sz)=>bif Nat.ble (off+sz) cs.length then some (.agg ((cs.drop off).take sz)) else none
def Wi (g:Nat)(r:Option Row){α:Type}(f:Row->Option α):Option α:=
 match r with
 | none=>none
 | some r=>bif Nat.beq r.gen g then f r else none
def Vh (T:KV P)(s:St)(t:Nat):AV->Option AV
 | .Bz cs off=>(look T.t t).bind (TT [] cs off)
 | .ptr id g i off=>Wi g s.st[id]? λr=>(r.xs[i]?).bind λcs=>(look T.t t).bind (TT [] cs off)
 | _=>none
def qE (T:KV P)(s:St):Op->Option AV
 | .move x=>fo (s.ev x)
 | .assign x=>fo (s.ev x)
 | .binOp o t x y _=>gb T o t (s.ev x) (s.ev y)
 | .unOp .not _ x=>match s.ev x with
  | .bool p=>some (.bool (!p))
  | _=>none
 | .unOp .neg _ x=>match s.ev x with
  | .int .i64 a=>some (i64 (Sh.w (-a)))
  | _=>none
 | .extract x i=>match s.ev x with
  | .C7 vs=>(vs[i]?).bind fo
  | _=>none
 | .nilCheck x=>match s.ev x with
  | .ptr id g i off=>Wi g s.st[id]? λ_=>some (.ptr id g i off)
  | .Bz cs off=>some (.Bz cs off)
  | _=>none
 | .fieldAddr t x f=>match s.ev x with
  | .Bz cs off=>(NJ T.f t f).bind λj=>some (.Bz cs (off+j))
  | .ptr id g i off=>(NJ T.f t f).bind λj=>Wi g s.st[id]? λr=>bif Nat.ble (off+j) r.size then some (.ptr id g i (off+j)) else none
  | _=>none
 | .load t x=>Vh T s t (s.ev x)
 | .field t x f=>match s.ev x with
  | .agg cs=>(NJ T.v t f).bind λi=>TT [] cs i.1 i.2
  | _=>none
 | _=>none
theorem MM {α:Type}{g:Nat}{r:Option Row}{f:Row->Option α}{v:α}(h:Wi g r f=some v):∃el size xs,r=some ⟨g,el,size,xs⟩/\f ⟨g,el,size,xs⟩=some v:=by
 unfold Wi at h;split at h
 ·cases h
 ·rename_i r;cases hb:Nat.beq r.gen g with
  | true=>rw[hb]at h;cases oP hb;exact⟨_,_,_,rfl,h⟩
  | false=>rw[hb]at h;cases h
theorem fG {s:St}{o:BinOp}{t t':TypeId}{x y:Operand}{v:AV}(h:gb T o t (s.ev x) (s.ev y)=some v):AQ P s (.binOp o t x y t') v:=by
 unfold gb at h;split at h
 ·rename_i kk a uz b hx hy;cases hk:gS kk uz with
  | false=>rw[hk]at h;cases h
  | true=>
   rw[hk]at h;have hk':kk=uz:=nh hk;subst hk';simp only[qj]at h;cases o<;>simp only[arith]at h;all_goals try (cases kk<;>cases h<;>first|exact Xc hx hy|exact gi hx hy|exact jF hx hy|exact fF hx hy|exact gT hx hy|exact ek hx hy)
   all_goals first
    | (cases h;done)
    | (cases h;first|exact an hx hy|exact kQ hx hy|exact jz hx hy|exact kT hx hy|exact kr hx hy|exact jb hx hy)
 ·rename_i p q hx hy;cases hb:has T.b t with
  | false=>rw[hb]at h;cases h
  | true=>
   rw[hb]at h;simp only[qj]at h;cases o<;>first
    | (cases h;done)
    | (cases h;first|exact gh (T.bo hb) hx hy|exact iB (T.bo hb) hx hy)
 ·cases h
theorem LO {cs:List AV}{off:Nat}{i:Bool×Nat}{v:AV}(h:TT [] cs off i=some v):(i.1=false/\cs[off]?=some v)∨(i.1=true/\off+i.2<=cs.length/\v=.agg ((cs.drop off).take i.2)):=by
 obtain⟨b,sz⟩:=i;cases b with
 | false=>
  simp only[TT]at h;obtain⟨a,h1,h2⟩:=nK.1 h;rw[h1,OA h2];exact .inl ⟨rfl,rfl⟩
 | true=>
  simp only[TT]at h;cases hb:Nat.ble (off+sz) cs.length with
  | false=>rw[hb]at h;cases h
  | true=>rw[hb]at h;cases h;exact .inr ⟨rfl,pT hb,rfl⟩
theorem cv {s:St}{t:TypeId}{x:Operand}{v:AV}(h:Vh T s t (s.ev x)=some v):AQ P s (.load t x) v:=by
 unfold Vh at h;split at h
 ·rename_i cs off hx;obtain⟨⟨b,sz⟩,h1,h2⟩:=nK.1 h;rcases LO h2 with ⟨hb,h3⟩|⟨hb,h3,rfl⟩<;>simp only at hb<;>subst hb
  ·exact iQ (Jd h1) hx h3
  ·exact ZW (Jd h1) hx h3 rfl
 ·rename_i id g i off hx;obtain⟨el,size,xs,hr,h⟩:=MM h;obtain⟨cs,hi,h⟩:=nK.1 h;obtain⟨⟨b,sz⟩,h1,h2⟩:=nK.1 h;rcases LO h2 with ⟨hb,h3⟩|⟨hb,h3,rfl⟩<;>simp only at hb<;>subst hb
  ·exact DH (Jd h1) hx hr hi h3
  ·exact Cz (Jd h1) hx hr hi h3 rfl
 ·cases h
theorem Xi {s:St}{op:Op}{v:AV}(h:qE T s op=some v):AQ P s op v:=by
 unfold qE at h;split at h
 ·exact Lc (OA h)
 ·exact TC (OA h)
 ·exact fG h
 ·split at h
  ·rename_i hx;cases h;exact iY hx
  ·cases h
 ·split at h
  ·rename_i hx;cases h;exact iC hx
  ·cases h
 ·split at h
  ·rename_i vs hx;obtain⟨a,h1,h2⟩:=nK.1 h;rw[OA h2]at h1;exact ko hx h1
  ·cases h
 ·split at h
  ·rename_i hx;obtain⟨el,size,xs,hr,h⟩:=MM h;cases h;exact jD hx hr
  ·rename_i hx;cases h;exact gv hx
  ·cases h
 ·split at h
  ·rename_i hx;obtain⟨j,h1,h2⟩:=nK.1 h;cases h2;exact ix (QM h1) hx rfl
  ·rename_i hx;obtain⟨j,h1,h2⟩:=nK.1 h;obtain⟨el,size,xs,hr,h2⟩:=MM h2;simp only at h2;cases hb:Nat.ble (_+j) size with
   | false=>rw[hb]at h2;cases h2
   | true=>rw[hb]at h2;cases h2;exact Ie (QM h1) hx hr (pT hb) rfl
  ·cases h
 ·exact cv h
 ·split at h
  ·rename_i hx;obtain⟨⟨o,b,sz⟩,h1,h2⟩:=nK.1 h;rcases LO h2 with ⟨hb,h3⟩|⟨hb,h3,rfl⟩<;>simp only at hb<;>subst hb
   ·exact jq (XI h1) hx h3
   ·exact jK (XI h1) hx h3 rfl
  ·cases h
 ·cases h
abbrev ow {α:Type}(i g:Nat)(l:List α):AV:=.own i g l.length
abbrev ro {α:Type}(g el size:Nat)(enc:α->List AV)(l:List α):Row:=⟨g,el,size,l.map enc⟩
abbrev ls {α:Type}(enc:α->List AV)(l:List α):AV:=.sl (l.map enc)
def iy:AV->Option Bool
 | .bool b=>some b
 | _=>none
theorem SZ {v:AV}{b:Bool}(h:iy v=some b):v=.bool b:=by cases v<;>cases h;rfl
def gE (ds:List (Option Tmp))(jj:Nat)(e:Nat->AV):Option Bool:=
 match ds[jj]? with
 | some (some t)=>iy (e t)
 | _=>none
def uE (ds:List (Option Tmp))(jj:Nat)(e:Nat->AV):Bool:=
 match ds[jj]? with
 | some (some t)=>match e t with
  | .un=>true
  | _=>false
 | _=>false
section
variable {P : Program} {k : Nat} {ops : Array Oper} {Q : Exit -> St -> Prop} {ds : List (Option Tmp)} {r : List Oper} {n : Nat} {e : Nat -> AV} {st st' : List Row} {op : Op} {ty t' : TypeId} {ps : String} {ed : Array Edge} {d : Option Tmp} {t : Tmp} {v v' : AV}
variable {jj : Nat} {want b p : Bool} {tg : Tmp} {gd : Option (Nat × Bool)} {x y c : Operand} {KS : St -> Prop}
theorem av (h:gE ds jj e=some b)(hb:b=want):GO ds (some (jj,want)) e:=by
 unfold gE at h;split at h
 ·rename_i tg hj;exact BI hj (SZ h) hb
 ·cases h
def qL (T:KV P)(s:St)(op:Op):Option AV:=bif KH op then none else qE T s op
theorem PA {s:St}(h:qL T s op=some v):KH op=false/\qE T s op=some v:=by
 unfold qL at h;cases hl:KH op with
 | true=>rw[hl]at h;cases h
 | false=>rw[hl]at h;exact⟨rfl,h⟩
def gL (T:KV P)(ds:List (Option Tmp))(jj:Nat)(s:St)(op:Op):Option (Bool×AV):=
 match gE ds jj s.env with
 | some b=>match qL T s op with
  | some v=>some (b,v)
  | none=>none
 | none=>none
theorem NR {s:St}(h:gL T ds jj s op=some (b,v)):gE ds jj s.env=some b/\KH op=false/\qE T s op=some v:=by
 unfold gL at h;split at h
 ·rename_i b' hg;split at h
  ·rename_i v' hv;cases h;exact⟨hg,PA hv⟩
  ·cases h
 ·cases h
def pE (s:St)(c x:Operand):Option (Bool×AV):=
 match iy (s.ev c) with
 | some b=>match fo (s.ev x) with
  | some v=>some (b,v)
  | none=>none
 | none=>none
theorem LR {s:St}{c x:Operand}(h:pE s c x=some (b,v)):s.ev c=.bool b/\s.ev x=v:=by
 unfold pE at h;split at h
 ·rename_i b' hg;split at h
  ·rename_i v' hv;cases h;exact⟨SZ hg,OA hv⟩
  ·cases h
 ·cases h
theorem zq (T:KV P)(h:qL T ⟨n,e,st⟩ op=some v)(hk:AO P k ops Q (ds++[some t]) r ⟨n,Ew e t v,st⟩):AO P k ops Q ds (⟨some t,op,ty,ps,ed,none⟩::r) ⟨n,e,st⟩:=At AN (PA h).1 (Xi (PA h).2) hk
theorem zg (T:KV P)(hb:b=want)(h:gL T ds jj ⟨n,e,st⟩ op=some (b,v))(hk:AO P k ops Q (ds++[some t]) r ⟨n,Ew e t v,st⟩):AO P k ops Q ds (⟨some t,op,ty,ps,ed,some (jj,want)⟩::r) ⟨n,e,st⟩:=At (av (NR h).1 hb) (NR h).2.1 (Xi (NR h).2.2) hk
theorem zz (v:AV)(h:AQ P ⟨n,e,st⟩ op v)(hl:KH op=false)(hk:AO P k ops Q (ds++[some t]) r ⟨n,Ew e t v,st⟩):AO P k ops Q ds (⟨some t,op,ty,ps,ed,none⟩::r) ⟨n,e,st⟩:=At AN hl h hk
theorem yq (T:KV P)(h:qL T ⟨n,e,st⟩ op=some v)(hk:DI P (ds++[some t]) r KS ⟨n,Ew e t v,st⟩):DI P ds (⟨some t,op,ty,ps,ed,none⟩::r) KS ⟨n,e,st⟩:=JY AN (PA h).1 (Xi (PA h).2) hk
theorem yg (T:KV P)(hb:b=want)(h:gL T ds jj ⟨n,e,st⟩ op=some (b,v))(hk:DI P (ds++[some t]) r KS ⟨n,Ew e t v,st⟩):DI P ds (⟨some t,op,ty,ps,ed,some (jj,want)⟩::r) KS ⟨n,e,st⟩:=JY (av (NR h).1 hb) (NR h).2.1 (Xi (NR h).2.2) hk
theorem yz (v:AV)(h:AQ P ⟨n,e,st⟩ op v)(hl:KH op=false)(hk:DI P (ds++[some t]) r KS ⟨n,Ew e t v,st⟩):DI P ds (⟨some t,op,ty,ps,ed,none⟩::r) KS ⟨n,e,st⟩:=JY AN hl h hk
theorem zs (hb:b=!want)(hg:gE ds jj e=some b)(h:AO P k ops Q (ds++[some t]) r ⟨n,Ew e t .un,st⟩):AO P k ops Q ds (⟨some t,op,ty,ps,ed,some (jj,want)⟩::r) ⟨n,e,st⟩:=by
 unfold gE at hg;split at hg
 ·rename_i tg hj;exact gM hj (SZ hg) hb h
 ·cases hg
theorem ys (hb:b=!want)(hg:gE ds jj e=some b)(h:DI P (ds++[some t]) r KS ⟨n,Ew e t .un,st⟩):DI P ds (⟨some t,op,ty,ps,ed,some (jj,want)⟩::r) KS ⟨n,e,st⟩:=by
 unfold gE at hg;split at hg
 ·rename_i tg hj;exact jJ hj (SZ hg) hb h
 ·cases hg
theorem ZY (hu:uE ds jj e=true):∃tg,ds[jj]?=some (some tg)/\e tg=.un:=by
 unfold uE at hu;split at hu
 ·rename_i tg hj;refine⟨tg,hj,?_⟩;cases he:e tg<;>rw[he]at hu<;>cases hu
 ·cases hu
theorem zn (hu:uE ds jj e=true)(h:AO P k ops Q (ds++[some t]) r ⟨n,Ew e t .un,st⟩):AO P k ops Q ds (⟨some t,op,ty,ps,ed,some (jj,want)⟩::r) ⟨n,e,st⟩:=by
 obtain⟨tg,h1,h2⟩:=ZY hu;exact fu h1 h2 h
theorem yn (hu:uE ds jj e=true)(h:DI P (ds++[some t]) r KS ⟨n,Ew e t .un,st⟩):DI P ds (⟨some t,op,ty,ps,ed,some (jj,want)⟩::r) KS ⟨n,e,st⟩:=by
 obtain⟨tg,h1,h2⟩:=ZY hu;exact jM h1 h2 h
def W6 (T:KV P)(n:Nat)(st:List Row):List Oper->(Nat->AV)->Option (Nat->AV)
 | [],e=>some e
 | ⟨some t,op,_,_,_,none⟩::r,e=>match qL T ⟨n,e,st⟩ op with
  | some v=>W6 T n st r (Ew e t v)
  | none=>none
 | _,_=>none
theorem Yg {T:KV P}:∀{l:List Oper} {e e':Nat->AV} {ds:List (Option Tmp)},W6 T n st l e=some e'->(∀ds,AO P k ops Q ds [] ⟨n,e',st⟩)->AO P k ops Q ds l ⟨n,e,st⟩
 | [],e,e',ds,h,hk=>by
  simp only[W6,mU]at h;subst h;exact hk ds
 | o::r,e,e',ds,h,hk=>by
  unfold W6 at h;split at h
  ·rename_i h0;cases h0
  ·rename_i t op ty ps ed r' e0 h0;cases h0;split at h
   ·rename_i v hv;exact zq T hv (Yg h hk)
   ·cases h
  ·cases h
def runN (T:KV P)(n:Nat)(st:List Row):Nat->List Oper->List (Option Tmp)->(Nat->AV)->Option (List Oper×List (Option Tmp)×(Nat->AV))
 | 0,l,ds,e=>some (l,ds,e)
 | m+1,⟨some t,op,_,_,_,none⟩::r,ds,e=>match qL T ⟨n,e,st⟩ op with
  | some v=>runN T n st m r (ds++[some t]) (Ew e t v)
  | none=>none
 | _,_,_,_=>none
theorem zm (T:KV P):∀(m:Nat) {l l':List Oper} {e e':Nat->AV} {ds yO:List (Option Tmp)},runN T n st m l ds e=some (l',yO,e')->AO P k ops Q yO l' ⟨n,e',st⟩->AO P k ops Q ds l ⟨n,e,st⟩
 | 0,l,l',e,e',ds,yO,h,hk=>by
  simp only[runN,mU,qV]at h;obtain⟨rfl,rfl,rfl⟩:=h;exact hk
 | m+1,[],l',e,e',ds,yO,h,hk=>by simp[runN]at h
 | m+1,o::r,l',e,e',ds,yO,h,hk=>by
  unfold runN at h;split at h
  ·rename_i h0;cases h0
  ·rename_i m0 t op ty ps ed r' hm h0;cases h0;cases hm;split at h
   ·rename_i v hv;exact zq T hv (zm T m h hk)
   ·cases h
  ·cases h
theorem zt (hp:p=true)(h:pE ⟨n,e,st⟩ c x=some (p,v))(hk:AO P k ops Q (ds++[some t]) r ⟨n,Ew e t v,st⟩):AO P k ops Q ds (⟨some t,.pick c x y,ty,ps,ed,none⟩::r) ⟨n,e,st⟩:=At AN rfl (Ee (LR h).1 hp (LR h).2) hk
theorem zf (hp:p=false)(h:pE ⟨n,e,st⟩ c y=some (p,v))(hk:AO P k ops Q (ds++[some t]) r ⟨n,Ew e t v,st⟩):AO P k ops Q ds (⟨some t,.pick c x y,ty,ps,ed,none⟩::r) ⟨n,e,st⟩:=At AN rfl (D6 (LR h).1 hp (LR h).2) hk
theorem yt (hp:p=true)(h:pE ⟨n,e,st⟩ c x=some (p,v))(hk:DI P (ds++[some t]) r KS ⟨n,Ew e t v,st⟩):DI P ds (⟨some t,.pick c x y,ty,ps,ed,none⟩::r) KS ⟨n,e,st⟩:=JY AN rfl (Ee (LR h).1 hp (LR h).2) hk
theorem yf (hp:p=false)(h:pE ⟨n,e,st⟩ c y=some (p,v))(hk:DI P (ds++[some t]) r KS ⟨n,Ew e t v,st⟩):DI P ds (⟨some t,.pick c x y,ty,ps,ed,none⟩::r) KS ⟨n,e,st⟩:=JY AN rfl (D6 (LR h).1 hp (LR h).2) hk
variable {α : Type} {l : List α} {enc : α -> List AV} {kk : IntKind} {j : Int} {u : α} {el size bytes : Nat} {zz : List AV}
theorem zl (T:KV P)(hs:has T.s t'=true)(hx:St.ev ⟨n,e,st⟩ x=.sl (l.map enc))(hk:AO P k ops Q (ds++[some t]) r ⟨n,Ew e t (i64 (Sh.len l)),st⟩):AO P k ops Q ds (⟨some t,.call ⟨.builtin .len,#[x],#[t']⟩,ty,ps,ed,none⟩::r) ⟨n,e,st⟩:=At AN rfl (Bo (T.sl hs) hx) hk
theorem yl (T:KV P)(hs:has T.s t'=true)(hx:St.ev ⟨n,e,st⟩ x=.sl (l.map enc))(hk:DI P (ds++[some t]) r KS ⟨n,Ew e t (i64 (Sh.len l)),st⟩):DI P ds (⟨some t,.call ⟨.builtin .len,#[x],#[t']⟩,ty,ps,ed,none⟩::r) KS ⟨n,e,st⟩:=JY AN rfl (Bo (T.sl hs) hx) hk
theorem zx (he:CH P t'=some ⟨el,size,bytes,zz⟩)(hg:Sh.get l j=some u)(hx:St.ev ⟨n,e,st⟩ x=.sl (l.map enc))(hy:St.ev ⟨n,e,st⟩ y=.int kk j)(hs:(enc u).length=size)(hk:AO P k ops Q (ds++[some t]) r ⟨n,Ew e t (.Bz (enc u) 0),st⟩):AO P k ops Q ds (⟨some t,.indexAddr t' x y,ty,ps,ed,none⟩::r) ⟨n,e,st⟩:=At AN rfl (Bi he hx hy hg hs) hk
theorem yx (he:CH P t'=some ⟨el,size,bytes,zz⟩)(hg:Sh.get l j=some u)(hx:St.ev ⟨n,e,st⟩ x=.sl (l.map enc))(hy:St.ev ⟨n,e,st⟩ y=.int kk j)(hs:(enc u).length=size)(hk:DI P (ds++[some t]) r KS ⟨n,Ew e t (.Bz (enc u) 0),st⟩):DI P ds (⟨some t,.indexAddr t' x y,ty,ps,ed,none⟩::r) KS ⟨n,e,st⟩:=JY AN rfl (Bi he hx hy hg hs) hk
variable {f : FuncId} {sx : Array Operand} {ts : Array TypeId} {args : List AV}
theorem zd (vw:b=want)(hb:Dy P f=true)(hc:BJ P f args [] λr st=>r=v/\st=[])(ha:sx.toList.map (St.ev ⟨n,e,st⟩)++[]=args)(hf:args.all flat=true)(hv:fo (shift st.length v)=some v')
  (hg:gE ds jj e=some b) (hk:AO P k ops Q (ds++[d]) r (St.put ⟨n,e,st⟩ d v')):AO P k ops Q ds (⟨d,.call ⟨.value (.func f),sx,ts⟩,ty,ps,ed,some (jj,want)⟩::r) ⟨n,e,st⟩:=
 A8 (av hg vw) hb hc ha hf mV (OA hv) (oE st) hk
theorem zc (hb:Dy P f=true)(hc:BJ P f args [] λr st=>r=v/\st=[])(ha:sx.toList.map (St.ev ⟨n,e,st⟩)++[]=args)(hf:args.all flat=true)(hv:fo (shift st.length v)=some v')
  (hk:AO P k ops Q (ds++[d]) r (St.put ⟨n,e,st⟩ d v')):AO P k ops Q ds (⟨d,.call ⟨.value (.func f),sx,ts⟩,ty,ps,ed,none⟩::r) ⟨n,e,st⟩:=
 A8 AN hb hc ha hf mV (OA hv) (oE st) hk
theorem sr {id:Nat}{y:Code}{s:St}(hd:(ops.toList.all λo=>Ce s.n o.dst)=true)(h :∀K:St->Prop,(∀s,AW P k y Q s->K s)->AO P k ops (Xe K Q) [] ops.toList s):AW P k (.seq (.region id ops false) y) Q s:=
 AD λK hK=>AG hd (h K hK)
def XE:Nat->List AV->List (Nat×AV)
 | _,[]=>[]
 | i,a::r=>(i,a)::XE (i+1) r
theorem XO:∀(l:List AV) (i t:Nat),AM (XE i l) t=if t<i then .FQ else (l[t-i]?).getD .FQ
 | [],i,t=>by simp[XE,AM]
 | a::r,i,t=>by
  simp only[XE,AM,XO r (i+1) t];by_cases h:t=i
  ·subst h;simp
  ·by_cases h2:t<i
   ·simp[h,h2,Nat.lt_succ_of_lt h2]
   ·obtain⟨d,hd⟩ :∃d,t-i=d+1:=⟨t-i-1,by omega⟩
    have h3:¬ t<i+1:=by omega
    simp[h,h2,h3,hd,show t-(i+1)=d by omega]
theorem ai {k N:Nat}{f:FuncId}{fn:Func}{c:Code}{args:List AV}{st:List Row}{R:AV->List Row->Prop}(hf:P.funcs[f]?=some fn)(hb:fn.body=some c)(hN:fn.ntmps=N)(hn:Nat.ble args.length N=true)(hk:st.length=k)
  (h:AW P k c (fS P k fn R) ⟨N,AM (XE 0 args),st⟩):BJ P f args st R:=by
 subst hN;subst hk;refine BJ.intro hf hb (pT hn) ?_;have e:U4 args=AM (XE 0 args):=by
  funext t;rw[XO];simp[U4,pW]
 rw[e];exact h
theorem zr (T:KV P){id:Nat}{y:Code}{e':Nat->AV}(h:W6 T n st ops.toList e=some e')(hd:(ops.toList.all λo=>Ce n o.dst)=true)(hk:AW P k y Q ⟨n,e',st⟩):AW P k (.seq (.region id ops false) y) Q ⟨n,e,st⟩:=
 AD λK hK=>AG hd (Yg h λds=>AE (hK _ hk))
theorem dn {s:St}{K p:St->Prop}(hK :∀s,p s->K s)(hq:Q .normal s=K s)(h:p s):AO P k ops Q ds [] s:=AE (hq▸hK s h)
theorem ci {α:Type}{o:Operand}{x y:Code}{s:St}{A B C:α}(h:(if b=true then A else B)=C)(ho:iy (s.ev o)=some b)(h1:b=true->A=C->AW P k x Q s)(h2:b=false->B=C->AW P k y Q s):AW P k (.cond o x y) Q s:=
 FC (SZ ho) (λhb=>h1 hb (by rw[<- h,me hb])) (λhb=>h2 hb (by rw[<- h,mj (by rw[hb];decide)]))
theorem bs {α β:Type}{x:Option α}{f:α->Option β}{r:β}{G:Prop}(h:x.bind f=some r)(k :∀v,x=some v->f v=some r->G):G:=
 let ⟨v,h1,h2⟩:=Sh.bind_some h;k v h1 h2
theorem xi {α:Type}{p q:α->Prop}(a:α)(h:p a)(g:q a):∃a,p a/\q a:=⟨a,h,g⟩
theorem xr {α:Type}{p q:α->Prop}{a:α}(h:p a)(g:q a:=by exact And.intro rfl rfl):∃a,p a/\q a:=⟨a,h,g⟩
def Su (e:Nat->AV):List (Nat×AV)->List AV
 | []=>[]
 | (t,_)::r=>e t::Su e r
def Sx:List (Nat×AV)->List AV
 | []=>[]
 | (_,v)::r=>v::Sx r
theorem ME.of {e:Nat->AV}:∀{L:List (Nat×AV)},Su e L=Sx L->ME e L
 | [],_=>trivial
 | (t,v)::r,h=>by
  simp only[Su,Sx,qI]at h;exact⟨le.of h.1,ME.of h.2⟩
theorem AI {L:List (Nat×AV)}(h:Su e L=Sx L):Wk k ⟨n,e,st⟩ ⟨n,AM L,st⟩:=As (ME.of h)
theorem BD (L:List (Nat×AV))(h:Su (λt=>Jg [] (e t)) L=Sx L):Wk 0 ⟨n,e,st⟩ ⟨n,AM L,[]⟩:=
 Wk.jm (L:=L) (st':=[]) (st1:=[]) [] rfl .nil (by decide) rfl rfl .nil (ME.of h)
end
end Go.Abs
