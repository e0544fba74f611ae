import Derived.Test.YtccficmcdkcpnaaGreatAbsW
set_option linter.all false
namespace Go.Abs
open Go
structure MK (P:Program) where
 t:List (Nat×Bool×Nat)
 f:List (Nat×Nat×Nat)
 v:List (Nat×Nat×Nat×Bool×Nat)
 b:List Nat
 s:List Nat
 ht:(t.all λx=>decide (De P x.1=some x.2))=true
 hf:(f.all λx=>decide (HH P x.1 x.2.1=some x.2.2))=true
 hv:(v.all λx=>decide (U7 P x.1 x.2.1=some x.2.2))=true
 hb:(b.all λx=>P4 P x)=true
 hs:(s.all λx=>DB P x)=true
def look {α:Type}:List (Nat×α)->Nat->Option α
 | [],_=>none
 | (a,x)::r,k=>bif Nat.beq a k then some x else look r k
def Pm {α:Type}:List (Nat×Nat×α)->Nat->Nat->Option α
 | [],_,_=>none
 | (a,b,x)::r,k,m=>bif Nat.beq a k&&Nat.beq b m then some x else Pm r k m
theorem ZY {α:Type}{k:Nat}{x:α}:∀{l:List (Nat×α)},look l k=some x->(k,x)∈l
 | (a,y)::r,h=>by
  unfold look at h;cases hb:Nat.beq a k with
  | true=>rw[hb]at h;cases h;cases rK hb;exact rp
  | false=>rw[hb]at h;exact qw _ (ZY h)
theorem Tl {α:Type}{k m:Nat}{x:α}:∀{l:List (Nat×Nat×α)},Pm l k m=some x->(k,m,x)∈l
 | (a,b,y)::r,h=>by
  unfold Pm at h;cases hb:Nat.beq a k&&Nat.beq b m with
  | true=>
   rw[hb]at h;cases h;rw[qP]at hb;cases rK hb.1;cases rK hb.2;exact rp
  | false=>rw[hb]at h;exact qw _ (Tl h)
def has:List Nat->Nat->Bool
 | [],_=>false
 | a::r,k=>bif Nat.beq a k then true else has r k
theorem Xt {k:Nat}:∀{l:List Nat},has l k=true->k∈l
 | a::r,h=>by
  unfold has at h;cases hb:Nat.beq a k with
  | true=>cases rK hb;exact rp
  | false=>rw[hb]at h;exact qw _ (Xt h)
variable {P : Program} {T : MK P} {k m : Nat}
theorem MF {x:Bool×Nat}(h:look T.t k=some x):De P k=some x:=rV (qC.1 T.ht _ (ZY h))
theorem SY {x:Nat}(h:Pm T.f k m=some x):HH P k m=some x:=rV (qC.1 T.hf _ (Tl h))
theorem ZV {x:Nat×Bool×Nat}(h:Pm T.v k m=some x):U7 P k m=some x:=rV (qC.1 T.hv _ (Tl h))
theorem MK.bo (h:has T.b k=true):P4 P k=true:=qC.1 T.hb _ (Xt h)
theorem MK.sl (h:has T.s k=true):DB P k=true:=qC.1 T.hs _ (Xt h)
def fo:AV->Option AV
 | .FZ=>none
 | .un=>some .un
 | .int k n=>some (.int k n)
 | .bool b=>some (.bool b)
 | .str s=>some (.str s)
 | .zc=>some .zc
 | .R3=>some .R3
 | .Rl=>some .Rl
 | .sl xs=>some (.sl xs)
 | .own a b c=>some (.own a b c)
 | .ptr a b c d=>some (.ptr a b c d)
 | .CT x o=>some (.CT x o)
 | .fn f c=>some (.fn f c)
 | .agg c=>some (.agg c)
 | .Dv c=>some (.Dv c)
 | .dv a b c=>some (.dv a b c)
 | .ex v=>some (.ex v)
 | .bd f c=>some (.bd f c)
theorem Qr {a v:AV}(h:fo a=some v):a=v:=by cases a<;>cases h<;>rfl
def arith (o:BinOp)(k:IntKind)(a b:Int):Option AV:=
 match o with
 | .add=>match k with
  | .i64=>some (i64 (Sh.w (a+b)))
  | k=>some (.int k (Sh.wk k (a+b)))
 | .sub=>match k with
  | .i64=>some (i64 (Sh.w (a-b)))
  | k=>some (.int k (Sh.wk k (a-b)))
 | .mul=>match k with
  | .i64=>some (i64 (Sh.w (a*b)))
  | k=>some (.int k (Sh.wk k (a*b)))
 | .lss=>some (.bool (decide (a<b)))
 | .leq=>some (.bool (decide (a<=b)))
 | .gtr=>some (.bool (decide (b<a)))
 | .geq=>some (.bool (decide (b<=a)))
 | .eql=>some (.bool (decide (a=b)))
 | .neq=>some (.bool (!decide (a=b)))
 | _=>none
def jn (k k':IntKind):Bool:=decide (k=k')
def jo (T:MK P)(o:BinOp)(t:Nat):AV->AV->Option AV
 | .int k a,.int k' b=>bif jn k k' then arith o k a b else none
 | .bool p,.bool q=>bif has T.b t then (match o with
  | .eql=>some (.bool (p==q))
  | .neq=>some (.bool (p != q))
  | _=>none) else none
 | _,_=>none
def VF (xs:List (List AV))(cs:List AV)(off:Nat):Bool×Nat->Option AV
 | (false,_)=>(cs[off]?).bind fo
 | (true,sz)=>bif Nat.ble (off+sz) cs.length then some (.agg ((cs.drop off).take sz)) else none
def Zf (g:Nat)(r:Option Row){α:Type}(f:Row->Option α):Option α:=
 match r with
 | none=>none
 | some r=>bif Nat.beq r.gen g then f r else none
def XO (T:MK P)(s:St)(t:Nat):AV->Option AV
 | .CT cs off=>(look T.t t).bind (VF [] cs off)
 | .ptr id g i off=>Zf g s.st[id]? λr=>(r.xs[i]?).bind λcs=>(look T.t t).bind (VF [] cs off)
 | _=>none
def qE (T:MK P)(s:St):Op->Option AV
 | .move x=>fo (s.ev x)
 | .assign x=>fo (s.ev x)
 | .binOp o t x y _=>jo T o t (s.ev x) (s.ev y)
 | .unOp .not _ x=>match s.ev x with
  | .bool p=>some (.bool (!p))
  | _=>none
 | .unOp .neg _ x=>match s.ev x with
  | .int .i64 a=>some (i64 (Sh.w (-a)))
  | _=>none
 | .extract x i=>match s.ev x with
  | .Dv vs=>(vs[i]?).bind fo
  | _=>none
 | .nilCheck x=>match s.ev x with
  | .ptr id g i off=>Zf g s.st[id]? λ_=>some (.ptr id g i off)
  | .CT cs off=>some (.CT cs off)
  | _=>none
 | .fieldAddr t x f=>match s.ev x with
  | .CT cs off=>(Pm T.f t f).bind λj=>some (.CT cs (off+j))
  | .ptr id g i off=>(Pm T.f t f).bind λj=>Zf g s.st[id]? λr=>bif Nat.ble (off+j) r.size then some (.ptr id g i (off+j)) else none
  | _=>none
 | .load t x=>XO T s t (s.ev x)
 | .field t x f=>match s.ev x with
  | .agg cs=>(Pm T.v t f).bind λi=>VF [] cs i.1 i.2
  | _=>none
 | _=>none
theorem O0 {α:Type}{g:Nat}{r:Option Row}{f:Row->Option α}{v:α}(h:Zf g r f=some v):∃el size xs,r=some ⟨g,el,size,xs⟩/\f ⟨g,el,size,xs⟩=some v:=by
 unfold Zf at h;split at h
 ·cases h
 ·rename_i r;cases hb:Nat.beq r.gen g with
  | true=>rw[hb]at h;cases rK hb;exact⟨_,_,_,rfl,h⟩
  | false=>rw[hb]at h;cases h
theorem js {s:St}{o:BinOp}{t t':TypeId}{x y:Operand}{v:AV}(h:jo T o t (s.ev x) (s.ev y)=some v):AQ P s (.binOp o t x y t') v:=by
 unfold jo at h;split at h
 ·rename_i kk a yr b hx hy;cases hk:jn kk yr with
  | false=>rw[hk]at h;cases h
  | true=>
   rw[hk]at h;have zX:kk=yr:=rV hk;subst zX;simp only[cond_true]at h;cases o<;>simp only[arith]at h;all_goals try (cases kk<;>cases h<;>first|exact UP hx hy|exact Qk hx hy|exact ma hx hy|exact ka hx hy|exact jh hx hy|exact kf hx hy)
   all_goals first
    | (cases h;done)
    | (cases h;first|exact fR hx hy|exact oH hx hy|exact nR hx hy|exact nk hx hy|exact oN hx hy|exact nd hx hy)
 ·rename_i p q hx hy;cases hb:has T.b t with
  | false=>rw[hb]at h;cases h
  | true=>
   rw[hb]at h;simp only[cond_true]at h;cases o<;>first
    | (cases h;done)
    | (cases h;first|exact mT (T.bo hb) hx hy|exact lT (T.bo hb) hx hy)
 ·cases h
theorem Nk {cs:List AV}{off:Nat}{i:Bool×Nat}{v:AV}(h:VF [] cs off i=some v):(i.1=false/\cs[off]?=some v)∨(i.1=true/\off+i.2<=cs.length/\v=.agg ((cs.drop off).take i.2)):=by
 obtain⟨b,sz⟩:=i;cases b with
 | false=>
  simp only[VF]at h;obtain⟨a,h1,h2⟩:=qh.1 h;rw[h1,Qr h2];exact .inl ⟨rfl,rfl⟩
 | true=>
  simp only[VF]at h;cases hb:Nat.ble (off+sz) cs.length with
  | false=>rw[hb]at h;cases h
  | true=>rw[hb]at h;cases h;exact .inr ⟨rfl,rS hb,rfl⟩
theorem jP {s:St}{t:TypeId}{x:Operand}{v:AV}(h:XO T s t (s.ev x)=some v):AQ P s (.load t x) v:=by
 unfold XO at h;split at h
 ·rename_i cs off hx;obtain⟨⟨b,sz⟩,h1,h2⟩:=qh.1 h;rcases Nk h2 with ⟨hb,h3⟩|⟨hb,h3,rfl⟩<;>simp only at hb<;>subst hb
  ·exact JA (MF h1) hx h3
  ·exact Ir (MF h1) hx h3 rfl
 ·rename_i id g i off hx;obtain⟨el,size,xs,hr,h⟩:=O0 h;obtain⟨cs,hi,h⟩:=qh.1 h;obtain⟨⟨b,sz⟩,h1,h2⟩:=qh.1 h;rcases Nk h2 with ⟨hb,h3⟩|⟨hb,h3,rfl⟩<;>simp only at hb<;>subst hb
  ·exact CL (MF h1) hx hr hi h3
  ·exact DD (MF h1) hx hr hi h3 rfl
 ·cases h
theorem az {s:St}{op:Op}{v:AV}(h:qE T s op=some v):AQ P s op v:=by
 unfold qE at h;split at h
 ·exact BO (Qr h)
 ·exact VB (Qr h)
 ·exact js h
 ·split at h
  ·rename_i hx;cases h;exact mG hx
  ·cases h
 ·split at h
  ·rename_i hx;cases h;exact mL hx
  ·cases h
 ·split at h
  ·rename_i vs hx;obtain⟨a,h1,h2⟩:=qh.1 h;rw[Qr h2]at h1;exact oL hx h1
  ·cases h
 ·split at h
  ·rename_i hx;obtain⟨el,size,xs,hr,h⟩:=O0 h;cases h;exact mQ hx hr
  ·rename_i hx;cases h;exact mK hx
  ·cases h
 ·split at h
  ·rename_i hx;obtain⟨j,h1,h2⟩:=qh.1 h;cases h2;exact Je (SY h1) hx rfl
  ·rename_i hx;obtain⟨j,h1,h2⟩:=qh.1 h;obtain⟨el,size,xs,hr,h2⟩:=O0 h2;simp only at h2;cases hb:Nat.ble (_+j) size with
   | false=>rw[hb]at h2;cases h2
   | true=>rw[hb]at h2;cases h2;exact FR (SY h1) hx hr (rS hb) rfl
  ·cases h
 ·exact jP h
 ·split at h
  ·rename_i hx;obtain⟨⟨o,b,sz⟩,h1,h2⟩:=qh.1 h;rcases Nk h2 with ⟨hb,h3⟩|⟨hb,h3,rfl⟩<;>simp only at hb<;>subst hb
   ·exact nO (ZV h1) hx h3
   ·exact lY (ZV h1) hx h3 rfl
  ·cases h
 ·cases h
abbrev ow {α:Type}(i g:Nat)(l:List α):AV:=.own i g l.length
abbrev ro {α:Type}(g el size:Nat)(enc:α->List AV)(l:List α):Row:=⟨g,el,size,l.map enc⟩
abbrev ls {α:Type}(enc:α->List AV)(l:List α):AV:=.sl (l.map enc)
def kN:AV->Option Bool
 | .bool b=>some b
 | _=>none
theorem UM {v:AV}{b:Bool}(h:kN v=some b):v=.bool b:=by cases v<;>cases h;rfl
def gE (ds:List (Option Tmp))(jj:Nat)(e:Nat->AV):Option Bool:=
 match ds[jj]? with
 | some (some t)=>kN (e t)
 | _=>none
def uE (ds:List (Option Tmp))(jj:Nat)(e:Nat->AV):Bool:=
 match ds[jj]? with
 | some (some t)=>match e t with
  | .un=>true
  | _=>false
 | _=>false
section
variable {P : Program} {k : Nat} {ops : Array Oper} {Q : Exit -> St -> Prop} {ds : List (Option Tmp)} {r : List Oper} {n : Nat} {e : Nat -> AV} {st st' : List Row} {op : Op} {ty t' : TypeId} {ps : String} {ed : Array Edge} {d : Option Tmp} {t : Tmp} {v v' : AV}
variable {jj : Nat} {want b p : Bool} {tg : Tmp} {gd : Option (Nat × Bool)} {x y c : Operand} {KS : St -> Prop}
theorem bN (h:gE ds jj e=some b)(hb:b=want):GO ds (some (jj,want)) e:=by
 unfold gE at h;split at h
 ·rename_i tg hj;exact GF hj (UM h) hb
 ·cases h
def qL (T:MK P)(s:St)(op:Op):Option AV:=bif Kx op then none else qE T s op
theorem Rh {s:St}(h:qL T s op=some v):Kx op=false/\qE T s op=some v:=by
 unfold qL at h;cases hl:Kx op with
 | true=>rw[hl]at h;cases h
 | false=>rw[hl]at h;exact⟨rfl,h⟩
def gL (T:MK P)(ds:List (Option Tmp))(jj:Nat)(s:St)(op:Op):Option (Bool×AV):=
 match gE ds jj s.env with
 | some b=>match qL T s op with
  | some v=>some (b,v)
  | none=>none
 | none=>none
theorem QN {s:St}(h:gL T ds jj s op=some (b,v)):gE ds jj s.env=some b/\Kx op=false/\qE T s op=some v:=by
 unfold gL at h;split at h
 ·rename_i b' hg;split at h
  ·rename_i v' hv;cases h;exact⟨hg,Rh hv⟩
  ·cases h
 ·cases h
def pE (s:St)(c x:Operand):Option (Bool×AV):=
 match kN (s.ev c) with
 | some b=>match fo (s.ev x) with
  | some v=>some (b,v)
  | none=>none
 | none=>none
theorem NW {s:St}{c x:Operand}(h:pE s c x=some (b,v)):s.ev c=.bool b/\s.ev x=v:=by
 unfold pE at h;split at h
 ·rename_i b' hg;split at h
  ·rename_i v' hv;cases h;exact⟨UM hg,Qr hv⟩
  ·cases h
 ·cases h
theorem zq (T:MK P)(h:qL T ⟨n,e,st⟩ op=some v)(hk:AO P k ops Q (ds++[some t]) r ⟨n,Dr e t v,st⟩):AO P k ops Q ds (⟨some t,op,ty,ps,ed,none⟩::r) ⟨n,e,st⟩:=DY AT (Rh h).1 (az (Rh h).2) hk
theorem zg (T:MK P)(hb:b=want)(h:gL T ds jj ⟨n,e,st⟩ op=some (b,v))(hk:AO P k ops Q (ds++[some t]) r ⟨n,Dr e t v,st⟩):AO P k ops Q ds (⟨some t,op,ty,ps,ed,some (jj,want)⟩::r) ⟨n,e,st⟩:=DY (bN (QN h).1 hb) (QN h).2.1 (az (QN h).2.2) hk
theorem zz (v:AV)(h:AQ P ⟨n,e,st⟩ op v)(hl:Kx op=false)(hk:AO P k ops Q (ds++[some t]) r ⟨n,Dr e t v,st⟩):AO P k ops Q ds (⟨some t,op,ty,ps,ed,none⟩::r) ⟨n,e,st⟩:=DY AT hl h hk
theorem yq (T:MK P)(h:qL T ⟨n,e,st⟩ op=some v)(hk:Dp P (ds++[some t]) r KS ⟨n,Dr e t v,st⟩):Dp P ds (⟨some t,op,ty,ps,ed,none⟩::r) KS ⟨n,e,st⟩:=I7 AT (Rh h).1 (az (Rh h).2) hk
theorem yg (T:MK P)(hb:b=want)(h:gL T ds jj ⟨n,e,st⟩ op=some (b,v))(hk:Dp P (ds++[some t]) r KS ⟨n,Dr e t v,st⟩):Dp P ds (⟨some t,op,ty,ps,ed,some (jj,want)⟩::r) KS ⟨n,e,st⟩:=I7 (bN (QN h).1 hb) (QN h).2.1 (az (QN h).2.2) hk
theorem yz (v:AV)(h:AQ P ⟨n,e,st⟩ op v)(hl:Kx op=false)(hk:Dp P (ds++[some t]) r KS ⟨n,Dr e t v,st⟩):Dp P ds (⟨some t,op,ty,ps,ed,none⟩::r) KS ⟨n,e,st⟩:=I7 AT hl h hk
theorem zs (hb:b=!want)(hg:gE ds jj e=some b)(h:AO P k ops Q (ds++[some t]) r ⟨n,Dr e t .un,st⟩):AO P k ops Q ds (⟨some t,op,ty,ps,ed,some (jj,want)⟩::r) ⟨n,e,st⟩:=by
 unfold gE at hg;split at hg
 ·rename_i tg hj;exact lO hj (UM hg) hb h
 ·cases hg
theorem ys (hb:b=!want)(hg:gE ds jj e=some b)(h:Dp P (ds++[some t]) r KS ⟨n,Dr e t .un,st⟩):Dp P ds (⟨some t,op,ty,ps,ed,some (jj,want)⟩::r) KS ⟨n,e,st⟩:=by
 unfold gE at hg;split at hg
 ·rename_i tg hj;exact mA hj (UM hg) hb h
 ·cases hg
theorem kt (hu:uE ds jj e=true):∃tg,ds[jj]?=some (some tg)/\e tg=.un:=by
 unfold uE at hu;split at hu
 ·rename_i tg hj;refine⟨tg,hj,?_⟩;cases he:e tg<;>rw[he]at hu<;>cases hu
 ·cases hu
theorem zn (hu:uE ds jj e=true)(h:AO P k ops Q (ds++[some t]) r ⟨n,Dr e t .un,st⟩):AO P k ops Q ds (⟨some t,op,ty,ps,ed,some (jj,want)⟩::r) ⟨n,e,st⟩:=by
 obtain⟨tg,h1,h2⟩:=kt hu;exact lJ h1 h2 h
def Zj (T:MK P)(n:Nat)(st:List Row):List Oper->(Nat->AV)->Option (Nat->AV)
 | [],e=>some e
 | ⟨some t,op,_,_,_,none⟩::r,e=>match qL T ⟨n,e,st⟩ op with
  | some v=>Zj T n st r (Dr e t v)
  | none=>none
 | _,_=>none
theorem da {T:MK P}:∀{l:List Oper} {e e':Nat->AV} {ds:List (Option Tmp)},Zj T n st l e=some e'->(∀ds,AO P k ops Q ds [] ⟨n,e',st⟩)->AO P k ops Q ds l ⟨n,e,st⟩
 | [],e,e',ds,h,hk=>by
  simp only[Zj,pz]at h;subst h;exact hk ds
 | o::r,e,e',ds,h,hk=>by
  unfold Zj at h;split at h
  ·rename_i h0;cases h0
  ·rename_i t op ty ps ed r' e0 h0;cases h0;split at h
   ·rename_i v hv;exact zq T hv (da h hk)
   ·cases h
  ·cases h
def runN (T:MK P)(n:Nat)(st:List Row):Nat->List Oper->List (Option Tmp)->(Nat->AV)->Option (List Oper×List (Option Tmp)×(Nat->AV))
 | 0,l,ds,e=>some (l,ds,e)
 | m+1,⟨some t,op,_,_,_,none⟩::r,ds,e=>match qL T ⟨n,e,st⟩ op with
  | some v=>runN T n st m r (ds++[some t]) (Dr e t v)
  | none=>none
 | _,_,_,_=>none
theorem zm (T:MK P):∀(m:Nat) {l l':List Oper} {e e':Nat->AV} {ds ds':List (Option Tmp)},runN T n st m l ds e=some (l',ds',e')->AO P k ops Q ds' l' ⟨n,e',st⟩->AO P k ops Q ds l ⟨n,e,st⟩
 | 0,l,l',e,e',ds,ds',h,hk=>by
  simp only[runN,pz,rL]at h;obtain⟨rfl,rfl,rfl⟩:=h;exact hk
 | m+1,[],l',e,e',ds,ds',h,hk=>by simp[runN]at h
 | m+1,o::r,l',e,e',ds,ds',h,hk=>by
  unfold runN at h;split at h
  ·rename_i h0;cases h0
  ·rename_i m0 t op ty ps ed r' hm h0;cases h0;cases hm;split at h
   ·rename_i v hv;exact zq T hv (zm T m h hk)
   ·cases h
  ·cases h
theorem zt (hp:p=true)(h:pE ⟨n,e,st⟩ c x=some (p,v))(hk:AO P k ops Q (ds++[some t]) r ⟨n,Dr e t v,st⟩):AO P k ops Q ds (⟨some t,.pick c x y,ty,ps,ed,none⟩::r) ⟨n,e,st⟩:=DY AT rfl (Gy (NW h).1 hp (NW h).2) hk
theorem zf (hp:p=false)(h:pE ⟨n,e,st⟩ c y=some (p,v))(hk:AO P k ops Q (ds++[some t]) r ⟨n,Dr e t v,st⟩):AO P k ops Q ds (⟨some t,.pick c x y,ty,ps,ed,none⟩::r) ⟨n,e,st⟩:=DY AT rfl (HE (NW h).1 hp (NW h).2) hk
theorem yt (hp:p=true)(h:pE ⟨n,e,st⟩ c x=some (p,v))(hk:Dp P (ds++[some t]) r KS ⟨n,Dr e t v,st⟩):Dp P ds (⟨some t,.pick c x y,ty,ps,ed,none⟩::r) KS ⟨n,e,st⟩:=I7 AT rfl (Gy (NW h).1 hp (NW h).2) hk
theorem yf (hp:p=false)(h:pE ⟨n,e,st⟩ c y=some (p,v))(hk:Dp P (ds++[some t]) r KS ⟨n,Dr e t v,st⟩):Dp P ds (⟨some t,.pick c x y,ty,ps,ed,none⟩::r) KS ⟨n,e,st⟩:=I7 AT rfl (HE (NW h).1 hp (NW h).2) hk
variable {α : Type} {l : List α} {enc : α -> List AV} {kk : IntKind} {j : Int} {u : α} {el size bytes : Nat} {zz : List AV}
theorem zl (T:MK P)(hs:has T.s t'=true)(hx:St.ev ⟨n,e,st⟩ x=.sl (l.map enc))(hk:AO P k ops Q (ds++[some t]) r ⟨n,Dr e t (i64 (Sh.len l)),st⟩):AO P k ops Q ds (⟨some t,.call ⟨.builtin .len,#[x],#[t']⟩,ty,ps,ed,none⟩::r) ⟨n,e,st⟩:=DY AT rfl (By (T.sl hs) hx) hk
theorem yl (T:MK P)(hs:has T.s t'=true)(hx:St.ev ⟨n,e,st⟩ x=.sl (l.map enc))(hk:Dp P (ds++[some t]) r KS ⟨n,Dr e t (i64 (Sh.len l)),st⟩):Dp P ds (⟨some t,.call ⟨.builtin .len,#[x],#[t']⟩,ty,ps,ed,none⟩::r) KS ⟨n,e,st⟩:=I7 AT rfl (By (T.sl hs) hx) hk
theorem zx (he:DR P t'=some ⟨el,size,bytes,zz⟩)(hg:Sh.get l j=some u)(hx:St.ev ⟨n,e,st⟩ x=.sl (l.map enc))(hy:St.ev ⟨n,e,st⟩ y=.int kk j)(hs:(enc u).length=size)(hk:AO P k ops Q (ds++[some t]) r ⟨n,Dr e t (.CT (enc u) 0),st⟩):AO P k ops Q ds (⟨some t,.indexAddr t' x y,ty,ps,ed,none⟩::r) ⟨n,e,st⟩:=DY AT rfl (Sc he hx hy hg hs) hk
theorem yx (he:DR P t'=some ⟨el,size,bytes,zz⟩)(hg:Sh.get l j=some u)(hx:St.ev ⟨n,e,st⟩ x=.sl (l.map enc))(hy:St.ev ⟨n,e,st⟩ y=.int kk j)(hs:(enc u).length=size)(hk:Dp P (ds++[some t]) r KS ⟨n,Dr e t (.CT (enc u) 0),st⟩):Dp P ds (⟨some t,.indexAddr t' x y,ty,ps,ed,none⟩::r) KS ⟨n,e,st⟩:=I7 AT rfl (Sc he hx hy hg hs) hk
variable {f : FuncId} {vf : Array Operand} {ts : Array TypeId} {args : List AV}
theorem zd (hbw:b=want)(hb:Cr P f=true)(hc:BS P f args [] λr st=>r=v/\st=[])(ha:vf.toList.map (St.ev ⟨n,e,st⟩)++[]=args)(hf:args.all flat=true)(hv:fo (shift st.length v)=some v')
  (hg:gE ds jj e=some b) (hk:AO P k ops Q (ds++[d]) r (St.put ⟨n,e,st⟩ d v')):AO P k ops Q ds (⟨d,.call ⟨.value (.func f),vf,ts⟩,ty,ps,ed,some (jj,want)⟩::r) ⟨n,e,st⟩:=
 HZ (bN hg hbw) hb hc ha hf pw (Qr hv) (rY st) hk
theorem zc (hb:Cr P f=true)(hc:BS P f args [] λr st=>r=v/\st=[])(ha:vf.toList.map (St.ev ⟨n,e,st⟩)++[]=args)(hf:args.all flat=true)(hv:fo (shift st.length v)=some v')
  (hk:AO P k ops Q (ds++[d]) r (St.put ⟨n,e,st⟩ d v')):AO P k ops Q ds (⟨d,.call ⟨.value (.func f),vf,ts⟩,ty,ps,ed,none⟩::r) ⟨n,e,st⟩:=
 HZ AT hb hc ha hf pw (Qr hv) (rY st) hk
theorem sr {id:Nat}{y:Code}{s:St}(hd:(ops.toList.all λo=>DG s.n o.dst)=true)(h :∀K:St->Prop,(∀s,AW P k y Q s->K s)->AO P k ops (Ro K Q) [] ops.toList s):AW P k (.seq (.region id ops false) y) Q s:=
 AD λK hK=>AE hd (h K hK)
def Xh:Nat->List AV->List (Nat×AV)
 | _,[]=>[]
 | i,a::r=>(i,a)::Xh (i+1) r
theorem Zu:∀(l:List AV) (i t:Nat),AL (Xh i l) t=if t<i then .FZ else (l[t-i]?).getD .FZ
 | [],i,t=>by simp[Xh,AL]
 | a::r,i,t=>by
  simp only[Xh,AL,Zu r (i+1) t];by_cases h:t=i
  ·subst h;simp
  ·by_cases h2:t<i
   ·simp[h,h2,Nat.lt_succ_of_lt h2]
   ·obtain⟨d,hd⟩ :∃d,t-i=d+1:=⟨t-i-1,by omega⟩
    have h3:¬ t<i+1:=by omega
    simp[h,h2,h3,hd,show t-(i+1)=d by omega]
theorem ai {k N:Nat}{f:FuncId}{fn:Func}{c:Code}{args:List AV}{st:List Row}{R:AV->List Row->Prop}(hf:P.funcs[f]?=some fn)(hb:fn.body=some c)(hN:fn.ntmps=N)(hn:Nat.ble args.length N=true)(hk:st.length=k)
  (h:AW P k c (gA P k fn R) ⟨N,AL (Xh 0 args),st⟩):BS P f args st R:=by
 subst hN;subst hk;refine BS.intro hf hb (rS hn) ?_;have e:Xe args=AL (Xh 0 args):=by
  funext t;rw[Zu];simp[Xe,sa]
 rw[e];exact h
theorem zr (T:MK P){id:Nat}{y:Code}{e':Nat->AV}(h:Zj T n st ops.toList e=some e')(hd:(ops.toList.all λo=>DG n o.dst)=true)(hk:AW P k y Q ⟨n,e',st⟩):AW P k (.seq (.region id ops false) y) Q ⟨n,e,st⟩:=
 AD λK hK=>AE hd (da h λds=>AB (hK _ hk))
theorem dn {s:St}{K p:St->Prop}(hK :∀s,p s->K s)(hq:Q .normal s=K s)(h:p s):AO P k ops Q ds [] s:=AB (hq▸hK s h)
theorem ci {α:Type}{o:Operand}{x y:Code}{s:St}{A B C:α}(h:(if b=true then A else B)=C)(ho:kN (s.ev o)=some b)(h1:b=true->A=C->AW P k x Q s)(h2:b=false->B=C->AW P k y Q s):AW P k (.cond o x y) Q s:=
 HK (UM ho) (λhb=>h1 hb (by rw[<- h,qF hb])) (λhb=>h2 hb (by rw[<- h,qG (by rw[hb];decide)]))
theorem bs {α β:Type}{x:Option α}{f:α->Option β}{r:β}{G:Prop}(h:x.bind f=some r)(k :∀v,x=some v->f v=some r->G):G:=
 let ⟨v,h1,h2⟩:=Sh.bind_some h;k v h1 h2
theorem xi {α:Type}{p q:α->Prop}(a:α)(h:p a)(g:q a):∃a,p a/\q a:=⟨a,h,g⟩
theorem xr {α:Type}{p q:α->Prop}{a:α}(h:p a)(g:q a:=by exact And.intro rfl rfl):∃a,p a/\q a:=⟨a,h,g⟩
def T6 (e:Nat->AV):List (Nat×AV)->List AV
 | []=>[]
 | (t,_)::r=>e t::T6 e r
def U5:List (Nat×AV)->List AV
 | []=>[]
 | (_,v)::r=>v::U5 r
theorem ME.of {e:Nat->AV}:∀{L:List (Nat×AV)},T6 e L=U5 L->ME e L
 | [],_=>trivial
 | (t,v)::r,h=>by
  simp only[T6,U5,sT]at h;exact⟨le.of h.1,ME.of h.2⟩
theorem Ip {L:List (Nat×AV)}(h:T6 e L=U5 L):Wk k ⟨n,e,st⟩ ⟨n,AL L,st⟩:=ET (ME.of h)
theorem Bi (L:List (Nat×AV))(h:T6 (λt=>Jx [] (e t)) L=U5 L):Wk 0 ⟨n,e,st⟩ ⟨n,AL L,[]⟩:=
 Wk.nt (L:=L) (st':=[]) (st1:=[]) [] rfl .nil (by decide) rfl rfl .nil (ME.of h)
end
end Go.Abs
