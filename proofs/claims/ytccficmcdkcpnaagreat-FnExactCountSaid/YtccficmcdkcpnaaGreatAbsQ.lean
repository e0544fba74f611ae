import Derived.Test.YtccficmcdkcpnaaGreatAbsW
set_option linter.all false
namespace Go.Abs
open Go
structure Mo (P:Program) where
 t:List (Nat×Bool×Nat)
 f:List (Nat×Nat×Nat)
 v:List (Nat×Nat×Nat×Bool×Nat)
 b:List Nat
 s:List Nat
 ht:(t.all λx=>decide (DJ P x.1=some x.2))=true
 hf:(f.all λx=>decide (G7 P x.1 x.2.1=some x.2.2))=true
 hv:(v.all λx=>decide (Wy P x.1 x.2.1=some x.2.2))=true
 hb:(b.all λx=>Q4 P x)=true
 hs:(s.all λx=>Cn P x)=true
def look {α:Type}:List (Nat×α)->Nat->Option α
 | [],_=>none
 | (a,x)::r,k=>bif Nat.beq a k then some x else look r k
def QV {α:Type}:List (Nat×Nat×α)->Nat->Nat->Option α
 | [],_,_=>none
 | (a,b,x)::r,k,m=>bif Nat.beq a k&&Nat.beq b m then some x else QV r k m
theorem dC {α:Type}{k:Nat}{x:α}:∀{l:List (Nat×α)},look l k=some x->(k,x)∈l
 | (a,y)::r,h=>by
  unfold look at h;cases hb:Nat.beq a k with
  | true=>rw[hb]at h;cases h;cases vw hb;exact wo
  | false=>rw[hb]at h;exact vz _ (dC h)
theorem Ul {α:Type}{k m:Nat}{x:α}:∀{l:List (Nat×Nat×α)},QV l k m=some x->(k,m,x)∈l
 | (a,b,y)::r,h=>by
  unfold QV at h;cases hb:Nat.beq a k&&Nat.beq b m with
  | true=>
   rw[hb]at h;cases h;rw[uT]at hb;cases vw hb.1;cases vw hb.2;exact wo
  | false=>rw[hb]at h;exact vz _ (Ul h)
def has:List Nat->Nat->Bool
 | [],_=>false
 | a::r,k=>bif Nat.beq a k then true else has r k
theorem Zh {k:Nat}:∀{l:List Nat},has l k=true->k∈l
 | a::r,h=>by
  unfold has at h;cases hb:Nat.beq a k with
  | true=>cases vw hb;exact wo
  | false=>rw[hb]at h;exact vz _ (Zh h)
variable {P : Program} {T : Mo P} {k m : Nat}
theorem Mb {x:Bool×Nat}(h:look T.t k=some x):DJ P k=some x:=vm (uS.1 T.ht _ (dC h))
theorem T3 {x:Nat}(h:QV T.f k m=some x):G7 P k m=some x:=vm (uS.1 T.hf _ (Ul h))
theorem cI {x:Nat×Bool×Nat}(h:QV T.v k m=some x):Wy P k m=some x:=vm (uS.1 T.hv _ (Ul h))
theorem Mo.bo (h:has T.b k=true):Q4 P k=true:=uS.1 T.hb _ (Zh h)
theorem Mo.sl (h:has T.s k=true):Cn P k=true:=uS.1 T.hs _ (Zh h)
def fo:AV->Option AV
 | .F6=>none
 | .un=>some .un
 | .int k n=>some (.int k n)
 | .bool b=>some (.bool b)
 | .str s=>some (.str s)
 | .zc=>some .zc
 | .Tm=>some .Tm
 | .TU=>some .TU
 | .sl xs=>some (.sl xs)
 | .own a b c=>some (.own a b c)
 | .ptr a b c d=>some (.ptr a b c d)
 | .Bj x o=>some (.Bj x o)
 | .fn f c=>some (.fn f c)
 | .agg c=>some (.agg c)
 | .CW c=>some (.CW c)
 | .dv a b c=>some (.dv a b c)
 | .ex v=>some (.ex v)
 | .bd f c=>some (.bd f c)
theorem Rc {a v:AV}(h:fo a=some v):a=v:=by cases a<;>cases h<;>rfl
def arith (o:BinOp)(k:IntKind)(a b:Int):Option AV:=
 match o with
 | .add=>match k with
  | .i64=>some (i64 (Sh.w (a+b)))
  | k=>some (.int k (Sh.wk k (a+b)))
 | .sub=>match k with
  | .i64=>some (i64 (Sh.w (a-b)))
  | k=>some (.int k (Sh.wk k (a-b)))
 | .mul=>match k with
  | .i64=>some (i64 (Sh.w (a*b)))
  | k=>some (.int k (Sh.wk k (a*b)))
 | .lss=>some (.bool (decide (a<b)))
 | .leq=>some (.bool (decide (a<=b)))
 | .gtr=>some (.bool (decide (b<a)))
 | .geq=>some (.bool (decide (b<=a)))
 | .eql=>some (.bool (decide (a=b)))
 | .neq=>some (.bool (!decide (a=b)))
 | _=>none
def nY (k k':IntKind):Bool:=decide (k=k')
def my (T:Mo P)(o:BinOp)(t:Nat):AV->AV->Option AV
 | .int k a,.int k' b=>bif nY k k' then arith o k a b else none
 | .bool p,.bool q=>bif has T.b t then (match o with
  | .eql=>some (.bool (p==q))
  | .neq=>some (.bool (p != q))
  | _=>none) else none
 | _,_=>none
def Wm (xs:List (List AV))(cs:List AV)(off:Nat):Bool×Nat->Option AV
 | (false,_)=>(cs[off]?).bind fo
 | (true,sz)=>bif Nat.ble (off+sz) cs.length then some (.agg ((cs.drop off).take sz)) else none
def cG (g:Nat)(r:Option Row){α:Type}(f:Row->Option α):Option α:=
 match r with
 | none=>none
 | some r=>bif Nat.beq r.gen g then f r else none
def ZY (T:Mo P)(s:St)(t:Nat):AV->Option AV
 | .Bj cs off=>(look T.t t).bind (Wm [] cs off)
 | .ptr id g i off=>cG g s.st[id]? λr=>(r.xs[i]?).bind λcs=>(look T.t t).bind (Wm [] cs off)
 | _=>none
def qE (T:Mo P)(s:St):Op->Option AV
 | .move x=>fo (s.ev x)
 | .assign x=>fo (s.ev x)
 | .binOp o t x y _=>my T o t (s.ev x) (s.ev y)
 | .unOp .not _ x=>match s.ev x with
  | .bool p=>some (.bool (!p))
  | _=>none
 | .unOp .neg _ x=>match s.ev x with
  | .int .i64 a=>some (i64 (Sh.w (-a)))
  | _=>none
 | .extract x i=>match s.ev x with
  | .CW vs=>(vs[i]?).bind fo
  | _=>none
 | .nilCheck x=>match s.ev x with
  | .ptr id g i off=>cG g s.st[id]? λ_=>some (.ptr id g i off)
  | .Bj cs off=>some (.Bj cs off)
  | _=>none
 | .fieldAddr t x f=>match s.ev x with
  | .Bj cs off=>(QV T.f t f).bind λj=>some (.Bj cs (off+j))
  | .ptr id g i off=>(QV T.f t f).bind λj=>cG g s.st[id]? λr=>bif Nat.ble (off+j) r.size then some (.ptr id g i (off+j)) else none
  | _=>none
 | .load t x=>ZY T s t (s.ev x)
 | .field t x f=>match s.ev x with
  | .agg cs=>(QV T.v t f).bind λi=>Wm [] cs i.1 i.2
  | _=>none
 | _=>none
theorem Pp {α:Type}{g:Nat}{r:Option Row}{f:Row->Option α}{v:α}(h:cG g r f=some v):∃el size xs,r=some ⟨g,el,size,xs⟩/\f ⟨g,el,size,xs⟩=some v:=by
 unfold cG at h;split at h
 ·cases h
 ·rename_i r;cases hb:Nat.beq r.gen g with
  | true=>rw[hb]at h;cases vw hb;exact⟨_,_,_,rfl,h⟩
  | false=>rw[hb]at h;cases h
theorem og {s:St}{o:BinOp}{t t':TypeId}{x y:Operand}{v:AV}(h:my T o t (s.ev x) (s.ev y)=some v):AQ P s (.binOp o t x y t') v:=by
 unfold my at h;split at h
 ·rename_i kk a kk' b hx hy;cases hk:nY kk kk' with
  | false=>rw[hk]at h;cases h
  | true=>
   rw[hk]at h;have hk':kk=kk':=vm hk;subst hk';simp only[cond_true]at h;cases o<;>simp only[arith]at h;all_goals try (cases kk<;>cases h<;>first|exact eT hx hy|exact qJ hx hy|exact pd hx hy|exact pN hx hy|exact np hx hy|exact ng hx hy)
   all_goals first
    | (cases h;done)
    | (cases h;first|exact hH hx hy|exact rn hx hy|exact rv hx hy|exact sA hx hy|exact sb hx hy|exact sU hx hy)
 ·rename_i p q hx hy;cases hb:has T.b t with
  | false=>rw[hb]at h;cases h
  | true=>
   rw[hb]at h;simp only[cond_true]at h;cases o<;>first
    | (cases h;done)
    | (cases h;first|exact pj (T.bo hb) hx hy|exact qk (T.bo hb) hx hy)
 ·cases h
theorem OF {cs:List AV}{off:Nat}{i:Bool×Nat}{v:AV}(h:Wm [] cs off i=some v):(i.1=false/\cs[off]?=some v)∨(i.1=true/\off+i.2<=cs.length/\v=.agg ((cs.drop off).take i.2)):=by
 obtain⟨b,sz⟩:=i;cases b with
 | false=>
  simp only[Wm]at h;obtain⟨a,h1,h2⟩:=vO.1 h;rw[h1,Rc h2];exact .inl ⟨rfl,rfl⟩
 | true=>
  simp only[Wm]at h;cases hb:Nat.ble (off+sz) cs.length with
  | false=>rw[hb]at h;cases h
  | true=>rw[hb]at h;cases h;exact .inr ⟨rfl,wF hb,rfl⟩
theorem mX {s:St}{t:TypeId}{x:Operand}{v:AV}(h:ZY T s t (s.ev x)=some v):AQ P s (.load t x) v:=by
 unfold ZY at h;split at h
 ·rename_i cs off hx;obtain⟨⟨b,sz⟩,h1,h2⟩:=vO.1 h;rcases OF h2 with ⟨hb,h3⟩|⟨hb,h3,rfl⟩<;>simp only at hb<;>subst hb
  ·exact qK (Mb h1) hx h3
  ·exact fZ (Mb h1) hx h3 rfl
 ·rename_i id g i off hx;obtain⟨el,size,xs,hr,h⟩:=Pp h;obtain⟨cs,hi,h⟩:=vO.1 h;obtain⟨⟨b,sz⟩,h1,h2⟩:=vO.1 h;rcases OF h2 with ⟨hb,h3⟩|⟨hb,h3,rfl⟩<;>simp only at hb<;>subst hb
  ·exact De (Mb h1) hx hr hi h3
  ·exact Zl (Mb h1) hx hr hi h3 rfl
 ·cases h
theorem dX {s:St}{op:Op}{v:AV}(h:qE T s op=some v):AQ P s op v:=by
 unfold qE at h;split at h
 ·exact Oj (Rc h)
 ·exact Xg (Rc h)
 ·exact og h
 ·split at h
  ·rename_i hx;cases h;exact pc hx
  ·cases h
 ·split at h
  ·rename_i hx;cases h;exact qh hx
  ·cases h
 ·split at h
  ·rename_i vs hx;obtain⟨a,h1,h2⟩:=vO.1 h;rw[Rc h2]at h1;exact sW hx h1
  ·cases h
 ·split at h
  ·rename_i hx;obtain⟨el,size,xs,hr,h⟩:=Pp h;cases h;exact qM hx hr
  ·rename_i hx;cases h;exact qS hx
  ·cases h
 ·split at h
  ·rename_i hx;obtain⟨j,h1,h2⟩:=vO.1 h;cases h2;exact pZ (T3 h1) hx rfl
  ·rename_i hx;obtain⟨j,h1,h2⟩:=vO.1 h;obtain⟨el,size,xs,hr,h2⟩:=Pp h2;simp only at h2;cases hb:Nat.ble (_+j) size with
   | false=>rw[hb]at h2;cases h2
   | true=>rw[hb]at h2;cases h2;exact Lh (T3 h1) hx hr (wF hb) rfl
  ·cases h
 ·exact mX h
 ·split at h
  ·rename_i hx;obtain⟨⟨o,b,sz⟩,h1,h2⟩:=vO.1 h;rcases OF h2 with ⟨hb,h3⟩|⟨hb,h3,rfl⟩<;>simp only at hb<;>subst hb
   ·exact rb (cI h1) hx h3
   ·exact py (cI h1) hx h3 rfl
  ·cases h
 ·cases h
abbrev ow {α:Type}(i g:Nat)(l:List α):AV:=.own i g l.length
abbrev ro {α:Type}(g el size:Nat)(enc:α->List AV)(l:List α):Row:=⟨g,el,size,l.map enc⟩
abbrev ls {α:Type}(enc:α->List AV)(l:List α):AV:=.sl (l.map enc)
def od:AV->Option Bool
 | .bool b=>some b
 | _=>none
theorem Vx {v:AV}{b:Bool}(h:od v=some b):v=.bool b:=by cases v<;>cases h;rfl
def gE (ds:List (Option Tmp))(jj:Nat)(e:Nat->AV):Option Bool:=
 match ds[jj]? with
 | some (some t)=>od (e t)
 | _=>none
def uE (ds:List (Option Tmp))(jj:Nat)(e:Nat->AV):Bool:=
 match ds[jj]? with
 | some (some t)=>match e t with
  | .un=>true
  | _=>false
 | _=>false
section
variable {P : Program} {k : Nat} {ops : Array Oper} {Q : Exit -> St -> Prop} {ds : List (Option Tmp)} {r : List Oper} {n : Nat} {e : Nat -> AV} {st st' : List Row} {op : Op} {ty t' : TypeId} {ps : String} {ed : Array Edge} {d : Option Tmp} {t : Tmp} {v v' : AV}
variable {jj : Nat} {want b p : Bool} {tg : Tmp} {gd : Option (Nat × Bool)} {x y c : Operand} {KS : St -> Prop}
theorem dg (h:gE ds jj e=some b)(hb:b=want):GO ds (some (jj,want)) e:=by
 unfold gE at h;split at h
 ·rename_i tg hj;exact Is hj (Vx h) hb
 ·cases h
def qL (T:Mo P)(s:St)(op:Op):Option AV:=bif MA op then none else qE T s op
theorem To {s:St}(h:qL T s op=some v):MA op=false/\qE T s op=some v:=by
 unfold qL at h;cases hl:MA op with
 | true=>rw[hl]at h;cases h
 | false=>rw[hl]at h;exact⟨rfl,h⟩
def gL (T:Mo P)(ds:List (Option Tmp))(jj:Nat)(s:St)(op:Op):Option (Bool×AV):=
 match gE ds jj s.env with
 | some b=>match qL T s op with
  | some v=>some (b,v)
  | none=>none
 | none=>none
theorem Q3 {s:St}(h:gL T ds jj s op=some (b,v)):gE ds jj s.env=some b/\MA op=false/\qE T s op=some v:=by
 unfold gL at h;split at h
 ·rename_i b' hg;split at h
  ·rename_i v' hv;cases h;exact⟨hg,To hv⟩
  ·cases h
 ·cases h
def pE (s:St)(c x:Operand):Option (Bool×AV):=
 match od (s.ev c) with
 | some b=>match fo (s.ev x) with
  | some v=>some (b,v)
  | none=>none
 | none=>none
theorem OV {s:St}{c x:Operand}(h:pE s c x=some (b,v)):s.ev c=.bool b/\s.ev x=v:=by
 unfold pE at h;split at h
 ·rename_i b' hg;split at h
  ·rename_i v' hv;cases h;exact⟨Vx hg,Rc hv⟩
  ·cases h
 ·cases h
theorem zq (T:Mo P)(h:qL T ⟨n,e,st⟩ op=some v)(hk:AO P k ops Q (ds++[some t]) r ⟨n,EW e t v,st⟩):AO P k ops Q ds (⟨some t,op,ty,ps,ed,none⟩::r) ⟨n,e,st⟩:=DW BJ (To h).1 (dX (To h).2) hk
theorem zg (T:Mo P)(hb:b=want)(h:gL T ds jj ⟨n,e,st⟩ op=some (b,v))(hk:AO P k ops Q (ds++[some t]) r ⟨n,EW e t v,st⟩):AO P k ops Q ds (⟨some t,op,ty,ps,ed,some (jj,want)⟩::r) ⟨n,e,st⟩:=DW (dg (Q3 h).1 hb) (Q3 h).2.1 (dX (Q3 h).2.2) hk
theorem zz (v:AV)(h:AQ P ⟨n,e,st⟩ op v)(hl:MA op=false)(hk:AO P k ops Q (ds++[some t]) r ⟨n,EW e t v,st⟩):AO P k ops Q ds (⟨some t,op,ty,ps,ed,none⟩::r) ⟨n,e,st⟩:=DW BJ hl h hk
theorem yq (T:Mo P)(h:qL T ⟨n,e,st⟩ op=some v)(hk:DX P (ds++[some t]) r KS ⟨n,EW e t v,st⟩):DX P ds (⟨some t,op,ty,ps,ed,none⟩::r) KS ⟨n,e,st⟩:=LC BJ (To h).1 (dX (To h).2) hk
theorem yg (T:Mo P)(hb:b=want)(h:gL T ds jj ⟨n,e,st⟩ op=some (b,v))(hk:DX P (ds++[some t]) r KS ⟨n,EW e t v,st⟩):DX P ds (⟨some t,op,ty,ps,ed,some (jj,want)⟩::r) KS ⟨n,e,st⟩:=LC (dg (Q3 h).1 hb) (Q3 h).2.1 (dX (Q3 h).2.2) hk
theorem yz (v:AV)(h:AQ P ⟨n,e,st⟩ op v)(hl:MA op=false)(hk:DX P (ds++[some t]) r KS ⟨n,EW e t v,st⟩):DX P ds (⟨some t,op,ty,ps,ed,none⟩::r) KS ⟨n,e,st⟩:=LC BJ hl h hk
theorem zs (hb:b=!want)(hg:gE ds jj e=some b)(h:AO P k ops Q (ds++[some t]) r ⟨n,EW e t .un,st⟩):AO P k ops Q ds (⟨some t,op,ty,ps,ed,some (jj,want)⟩::r) ⟨n,e,st⟩:=by
 unfold gE at hg;split at hg
 ·rename_i tg hj;exact pH hj (Vx hg) hb h
 ·cases hg
theorem ys (hb:b=!want)(hg:gE ds jj e=some b)(h:DX P (ds++[some t]) r KS ⟨n,EW e t .un,st⟩):DX P ds (⟨some t,op,ty,ps,ed,some (jj,want)⟩::r) KS ⟨n,e,st⟩:=by
 unfold gE at hg;split at hg
 ·rename_i tg hj;exact pW hj (Vx hg) hb h
 ·cases hg
theorem ff (hu:uE ds jj e=true):∃tg,ds[jj]?=some (some tg)/\e tg=.un:=by
 unfold uE at hu;split at hu
 ·rename_i tg hj;refine⟨tg,hj,?_⟩;cases he:e tg<;>rw[he]at hu<;>cases hu
 ·cases hu
theorem zn (hu:uE ds jj e=true)(h:AO P k ops Q (ds++[some t]) r ⟨n,EW e t .un,st⟩):AO P k ops Q ds (⟨some t,op,ty,ps,ed,some (jj,want)⟩::r) ⟨n,e,st⟩:=by
 obtain⟨tg,h1,h2⟩:=ff hu;exact nG h1 h2 h
theorem yn (hu:uE ds jj e=true)(h:DX P (ds++[some t]) r KS ⟨n,EW e t .un,st⟩):DX P ds (⟨some t,op,ty,ps,ed,some (jj,want)⟩::r) KS ⟨n,e,st⟩:=by
 obtain⟨tg,h1,h2⟩:=ff hu;exact qF h1 h2 h
def cF (T:Mo P)(n:Nat)(st:List Row):List Oper->(Nat->AV)->Option (Nat->AV)
 | [],e=>some e
 | ⟨some t,op,_,_,_,none⟩::r,e=>match qL T ⟨n,e,st⟩ op with
  | some v=>cF T n st r (EW e t v)
  | none=>none
 | _,_=>none
theorem fM {T:Mo P}:∀{l:List Oper} {e e':Nat->AV} {ds:List (Option Tmp)},cF T n st l e=some e'->(∀ds,AO P k ops Q ds [] ⟨n,e',st⟩)->AO P k ops Q ds l ⟨n,e,st⟩
 | [],e,e',ds,h,hk=>by
  simp only[cF,uO]at h;subst h;exact hk ds
 | o::r,e,e',ds,h,hk=>by
  unfold cF at h;split at h
  ·rename_i h0;cases h0
  ·rename_i t op ty ps ed r' e0 h0;cases h0;split at h
   ·rename_i v hv;exact zq T hv (fM h hk)
   ·cases h
  ·cases h
def runN (T:Mo P)(n:Nat)(st:List Row):Nat->List Oper->List (Option Tmp)->(Nat->AV)->Option (List Oper×List (Option Tmp)×(Nat->AV))
 | 0,l,ds,e=>some (l,ds,e)
 | m+1,⟨some t,op,_,_,_,none⟩::r,ds,e=>match qL T ⟨n,e,st⟩ op with
  | some v=>runN T n st m r (ds++[some t]) (EW e t v)
  | none=>none
 | _,_,_,_=>none
theorem zm (T:Mo P):∀(m:Nat) {l l':List Oper} {e e':Nat->AV} {ds ds':List (Option Tmp)},runN T n st m l ds e=some (l',ds',e')->AO P k ops Q ds' l' ⟨n,e',st⟩->AO P k ops Q ds l ⟨n,e,st⟩
 | 0,l,l',e,e',ds,ds',h,hk=>by
  simp only[runN,uO,wE]at h;obtain⟨rfl,rfl,rfl⟩:=h;exact hk
 | m+1,[],l',e,e',ds,ds',h,hk=>by simp[runN]at h
 | m+1,o::r,l',e,e',ds,ds',h,hk=>by
  unfold runN at h;split at h
  ·rename_i h0;cases h0
  ·rename_i m0 t op ty ps ed r' hm h0;cases h0;cases hm;split at h
   ·rename_i v hv;exact zq T hv (zm T m h hk)
   ·cases h
  ·cases h
theorem zt (hp:p=true)(h:pE ⟨n,e,st⟩ c x=some (p,v))(hk:AO P k ops Q (ds++[some t]) r ⟨n,EW e t v,st⟩):AO P k ops Q ds (⟨some t,.pick c x y,ty,ps,ed,none⟩::r) ⟨n,e,st⟩:=DW BJ rfl (E6 (OV h).1 hp (OV h).2) hk
theorem zf (hp:p=false)(h:pE ⟨n,e,st⟩ c y=some (p,v))(hk:AO P k ops Q (ds++[some t]) r ⟨n,EW e t v,st⟩):AO P k ops Q ds (⟨some t,.pick c x y,ty,ps,ed,none⟩::r) ⟨n,e,st⟩:=DW BJ rfl (Eg (OV h).1 hp (OV h).2) hk
theorem yt (hp:p=true)(h:pE ⟨n,e,st⟩ c x=some (p,v))(hk:DX P (ds++[some t]) r KS ⟨n,EW e t v,st⟩):DX P ds (⟨some t,.pick c x y,ty,ps,ed,none⟩::r) KS ⟨n,e,st⟩:=LC BJ rfl (E6 (OV h).1 hp (OV h).2) hk
theorem yf (hp:p=false)(h:pE ⟨n,e,st⟩ c y=some (p,v))(hk:DX P (ds++[some t]) r KS ⟨n,EW e t v,st⟩):DX P ds (⟨some t,.pick c x y,ty,ps,ed,none⟩::r) KS ⟨n,e,st⟩:=LC BJ rfl (Eg (OV h).1 hp (OV h).2) hk
variable {α : Type} {l : List α} {enc : α -> List AV} {kk : IntKind} {j : Int} {u : α} {el size bytes : Nat} {zz : List AV}
theorem zl (T:Mo P)(hs:has T.s t'=true)(hx:St.ev ⟨n,e,st⟩ x=.sl (l.map enc))(hk:AO P k ops Q (ds++[some t]) r ⟨n,EW e t (i64 (Sh.len l)),st⟩):AO P k ops Q ds (⟨some t,.call ⟨.builtin .len,#[x],#[t']⟩,ty,ps,ed,none⟩::r) ⟨n,e,st⟩:=DW BJ rfl (Ch (T.sl hs) hx) hk
theorem yl (T:Mo P)(hs:has T.s t'=true)(hx:St.ev ⟨n,e,st⟩ x=.sl (l.map enc))(hk:DX P (ds++[some t]) r KS ⟨n,EW e t (i64 (Sh.len l)),st⟩):DX P ds (⟨some t,.call ⟨.builtin .len,#[x],#[t']⟩,ty,ps,ed,none⟩::r) KS ⟨n,e,st⟩:=LC BJ rfl (Ch (T.sl hs) hx) hk
theorem zx (he:Ck P t'=some ⟨el,size,bytes,zz⟩)(hg:Sh.get l j=some u)(hx:St.ev ⟨n,e,st⟩ x=.sl (l.map enc))(hy:St.ev ⟨n,e,st⟩ y=.int kk j)(hs:(enc u).length=size)(hk:AO P k ops Q (ds++[some t]) r ⟨n,EW e t (.Bj (enc u) 0),st⟩):AO P k ops Q ds (⟨some t,.indexAddr t' x y,ty,ps,ed,none⟩::r) ⟨n,e,st⟩:=DW BJ rfl (Vb he hx hy hg hs) hk
theorem yx (he:Ck P t'=some ⟨el,size,bytes,zz⟩)(hg:Sh.get l j=some u)(hx:St.ev ⟨n,e,st⟩ x=.sl (l.map enc))(hy:St.ev ⟨n,e,st⟩ y=.int kk j)(hs:(enc u).length=size)(hk:DX P (ds++[some t]) r KS ⟨n,EW e t (.Bj (enc u) 0),st⟩):DX P ds (⟨some t,.indexAddr t' x y,ty,ps,ed,none⟩::r) KS ⟨n,e,st⟩:=LC BJ rfl (Vb he hx hy hg hs) hk
variable {f : FuncId} {ars : Array Operand} {ts : Array TypeId} {args : List AV}
theorem zd (hbw:b=want)(hb:DP P f=true)(hc:BW P f args [] λr st=>r=v/\st=[])(ha:ars.toList.map (St.ev ⟨n,e,st⟩)++[]=args)(hf:args.all flat=true)(hv:fo (shift st.length v)=some v')
  (hg:gE ds jj e=some b) (hk:AO P k ops Q (ds++[d]) r (St.put ⟨n,e,st⟩ d v')):AO P k ops Q ds (⟨d,.call ⟨.value (.func f),ars,ts⟩,ty,ps,ed,some (jj,want)⟩::r) ⟨n,e,st⟩:=
 Jf (dg hg hbw) hb hc ha hf uM (Rc hv) (vV st) hk
theorem zc (hb:DP P f=true)(hc:BW P f args [] λr st=>r=v/\st=[])(ha:ars.toList.map (St.ev ⟨n,e,st⟩)++[]=args)(hf:args.all flat=true)(hv:fo (shift st.length v)=some v')
  (hk:AO P k ops Q (ds++[d]) r (St.put ⟨n,e,st⟩ d v')):AO P k ops Q ds (⟨d,.call ⟨.value (.func f),ars,ts⟩,ty,ps,ed,none⟩::r) ⟨n,e,st⟩:=
 Jf BJ hb hc ha hf uM (Rc hv) (vV st) hk
theorem sr {id:Nat}{y:Code}{s:St}(hd:(ops.toList.all λo=>DK s.n o.dst)=true)(h :∀K:St->Prop,(∀s,AW P k y Q s->K s)->AO P k ops (TW K Q) [] ops.toList s):AW P k (.seq (.region id ops false) y) Q s:=
 AB λK hK=>AE hd (h K hK)
def aM:Nat->List AV->List (Nat×AV)
 | _,[]=>[]
 | i,a::r=>(i,a)::aM (i+1) r
theorem cN:∀(l:List AV) (i t:Nat),AJ (aM i l) t=if t<i then .F6 else (l[t-i]?).getD .F6
 | [],i,t=>by simp[aM,AJ]
 | a::r,i,t=>by
  simp only[aM,AJ,cN r (i+1) t];by_cases h:t=i
  ·subst h;simp
  ·by_cases h2:t<i
   ·simp[h,h2,Nat.lt_succ_of_lt h2]
   ·obtain⟨d,hd⟩ :∃d,t-i=d+1:=⟨t-i-1,by omega⟩
    have h3:¬ t<i+1:=by omega
    simp[h,h2,h3,hd,show t-(i+1)=d by omega]
theorem ai {k N:Nat}{f:FuncId}{fn:Func}{c:Code}{args:List AV}{st:List Row}{R:AV->List Row->Prop}(hf:P.funcs[f]?=some fn)(hb:fn.body=some c)(hN:fn.ntmps=N)(hn:Nat.ble args.length N=true)(hk:st.length=k)
  (h:AW P k c (ju P k fn R) ⟨N,AJ (aM 0 args),st⟩):BW P f args st R:=by
 subst hN;subst hk;refine BW.intro hf hb (wF hn) ?_;have e:au args=AJ (aM 0 args):=by
  funext t;rw[cN];simp[au,xV]
 rw[e];exact h
theorem zr (T:Mo P){id:Nat}{y:Code}{e':Nat->AV}(h:cF T n st ops.toList e=some e')(hd:(ops.toList.all λo=>DK n o.dst)=true)(hk:AW P k y Q ⟨n,e',st⟩):AW P k (.seq (.region id ops false) y) Q ⟨n,e,st⟩:=
 AB λK hK=>AE hd (fM h λds=>AD (hK _ hk))
theorem dn {s:St}{K p:St->Prop}(hK :∀s,p s->K s)(hq:Q .normal s=K s)(h:p s):AO P k ops Q ds [] s:=AD (hq▸hK s h)
theorem ci {α:Type}{o:Operand}{x y:Code}{s:St}{A B C:α}(h:(if b=true then A else B)=C)(ho:od (s.ev o)=some b)(h1:b=true->A=C->AW P k x Q s)(h2:b=false->B=C->AW P k y Q s):AW P k (.cond o x y) Q s:=
 GZ (Vx ho) (λhb=>h1 hb (by rw[<- h,uX hb])) (λhb=>h2 hb (by rw[<- h,uY (by rw[hb];decide)]))
theorem bs {α β:Type}{x:Option α}{f:α->Option β}{r:β}{G:Prop}(h:x.bind f=some r)(k :∀v,x=some v->f v=some r->G):G:=
 let ⟨v,h1,h2⟩:=Sh.bind_some h;k v h1 h2
theorem xi {α:Type}{p q:α->Prop}(a:α)(h:p a)(g:q a):∃a,p a/\q a:=⟨a,h,g⟩
theorem xr {α:Type}{p q:α->Prop}{a:α}(h:p a)(g:q a:=by exact And.intro rfl rfl):∃a,p a/\q a:=⟨a,h,g⟩
def Vw (e:Nat->AV):List (Nat×AV)->List AV
 | []=>[]
 | (t,_)::r=>e t::Vw e r
def Vo:List (Nat×AV)->List AV
 | []=>[]
 | (_,v)::r=>v::Vo r
theorem ME.of {e:Nat->AV}:∀{L:List (Nat×AV)},Vw e L=Vo L->ME e L
 | [],_=>trivial
 | (t,v)::r,h=>by
  simp only[Vw,Vo,yh]at h;exact⟨le.of h.1,ME.of h.2⟩
theorem F3 {L:List (Nat×AV)}(h:Vw e L=Vo L):Wk k ⟨n,e,st⟩ ⟨n,AJ L,st⟩:=FJ (ME.of h)
theorem BT (L:List (Nat×AV))(h:Vw (λt=>L0 [] (e t)) L=Vo L):Wk 0 ⟨n,e,st⟩ ⟨n,AJ L,[]⟩:=
 Wk.sa (L:=L) (st':=[]) (st1:=[]) [] rfl .nil (by decide) rfl rfl .nil (ME.of h)
end
end Go.Abs
