import Derived.Test.YtfkncfjpobjbjaaAbsW
set_option linter.all false
namespace Go.Abs
open Go
structure FJ (P:Program) where
 t:List (Nat×Bool×Nat)
 f:List (Nat×Nat×Nat)
 v:List (Nat×Nat×Nat×Bool×Nat)
 b:List Nat
 s:List Nat
 ht:(t.all λx=>decide (CI P x.1=some x.2))=true
 hf:(f.all λx=>decide (IL P x.1 x.2.1=some x.2.2))=true
 hv:(v.all λx=>decide (IX P x.1 x.2.1=some x.2.2))=true
 hb:(b.all λx=>FM P x)=true
 hs:(s.all λx=>CM P x)=true
def look {α:Type}:List (Nat×α)->Nat->Option α
 | [],_=>none
 | (a,x)::r,k=>bif Nat.beq a k then some x else look r k
def FD {α:Type}:List (Nat×Nat×α)->Nat->Nat->Option α
 | [],_,_=>none
 | (a,b,x)::r,k,m=>bif Nat.beq a k&&Nat.beq b m then some x else FD r k m
theorem KY {α:Type}{k:Nat}{x:α}:∀{l:List (Nat×α)},look l k=some x->(k,x)∈l
 | (a,y)::r,h=>by
  unfold look at h;cases hb:Nat.beq a k with
  | true=>rw[hb]at h;cases h;cases TA hb;exact Ss
  | false=>rw[hb]at h;exact Sg _ (KY h)
theorem HQ {α:Type}{k m:Nat}{x:α}:∀{l:List (Nat×Nat×α)},FD l k m=some x->(k,m,x)∈l
 | (a,b,y)::r,h=>by
  unfold FD at h;cases hb:Nat.beq a k&&Nat.beq b m with
  | true=>
   rw[hb]at h;cases h;rw[SP]at hb;cases TA hb.1;cases TA hb.2;exact Ss
  | false=>rw[hb]at h;exact Sg _ (HQ h)
def has:List Nat->Nat->Bool
 | [],_=>false
 | a::r,k=>bif Nat.beq a k then true else has r k
theorem Jb {k:Nat}:∀{l:List Nat},has l k=true->k∈l
 | a::r,h=>by
  unfold has at h;cases hb:Nat.beq a k with
  | true=>cases TA hb;exact Ss
  | false=>rw[hb]at h;exact Sg _ (Jb h)
variable {P : Program} {T : FJ P} {k m : Nat}
theorem Gw {x:Bool×Nat}(h:look T.t k=some x):CI P k=some x:=Sq (Ry.1 T.ht _ (KY h))
theorem KO {x:Nat}(h:FD T.f k m=some x):IL P k m=some x:=Sq (Ry.1 T.hf _ (HQ h))
theorem Kl {x:Nat×Bool×Nat}(h:FD T.v k m=some x):IX P k m=some x:=Sq (Ry.1 T.hv _ (HQ h))
theorem FJ.bo (h:has T.b k=true):FM P k=true:=Ry.1 T.hb _ (Jb h)
theorem FJ.sl (h:has T.s k=true):CM P k=true:=Ry.1 T.hs _ (Jb h)
def fo:AV->Option AV
 | .Bl=>none
 | .un=>some .un
 | .int k n=>some (.int k n)
 | .bool b=>some (.bool b)
 | .str s=>some (.str s)
 | .zc=>some .zc
 | .G7=>some .G7
 | .G1=>some .G1
 | .mp b=>some (.mp b)
 | .mv D=>some (.mv D)
 | .sl xs=>some (.sl xs)
 | .own a b c=>some (.own a b c)
 | .ptr a b c d=>some (.ptr a b c d)
 | .A4 x o=>some (.A4 x o)
 | .fn f c=>some (.fn f c)
 | .agg c=>some (.agg c)
 | .BB c=>some (.BB c)
 | .dv a b c=>some (.dv a b c)
theorem HC {a v:AV}(h:fo a=some v):a=v:=by cases a<;>cases h<;>rfl
def arith (o:BinOp)(k:IntKind)(a b:Int):Option AV:=
 match o with
 | .add=>match k with
  | .i64=>some (i64 (Sh.w (a+b)))
  | k=>some (.int k (Sh.wk k (a+b)))
 | .sub=>match k with
  | .i64=>some (i64 (Sh.w (a-b)))
  | k=>some (.int k (Sh.wk k (a-b)))
 | .mul=>match k with
  | .i64=>some (i64 (Sh.w (a*b)))
  | k=>some (.int k (Sh.wk k (a*b)))
 | .lss=>some (.bool (decide (a<b)))
 | .leq=>some (.bool (decide (a<=b)))
 | .gtr=>some (.bool (decide (b<a)))
 | .geq=>some (.bool (decide (b<=a)))
 | .eql=>some (.bool (decide (a=b)))
 | .neq=>some (.bool (!decide (a=b)))
 | _=>none
def O4 (k k':IntKind):Bool:=decide (k=k')
def O1 (T:FJ P)(o:BinOp)(t:Nat):AV->AV->Option AV
 | .int k a,.int k' b=>bif O4 k k' then arith o k a b else none
 | .bool p,.bool q=>bif has T.b t then (match o with
  | .eql=>some (.bool (p==q))
  | .neq=>some (.bool (p != q))
  | _=>none) else none
 | _,_=>none
def II (xs:List (List AV))(cs:List AV)(off:Nat):Bool×Nat->Option AV
 | (false,_)=>(cs[off]?).bind fo
 | (true,sz)=>bif Nat.ble (off+sz) cs.length then some (.agg ((cs.drop off).take sz)) else none
def Kk (g:Nat)(r:Option Row){α:Type}(f:Row->Option α):Option α:=
 match r with
 | none=>none
 | some r=>bif Nat.beq r.gen g then f r else none
def Lx (T:FJ P)(s:St)(t:Nat):AV->Option AV
 | .A4 cs off=>(look T.t t).bind (II [] cs off)
 | .ptr id g i off=>Kk g s.st[id]? λr=>(r.xs[i]?).bind λcs=>(look T.t t).bind (II [] cs off)
 | _=>none
def qE (T:FJ P)(s:St):Op->Option AV
 | .move x=>fo (s.ev x)
 | .assign x=>fo (s.ev x)
 | .binOp o t x y _=>O1 T o t (s.ev x) (s.ev y)
 | .unOp .not _ x=>match s.ev x with
  | .bool p=>some (.bool (!p))
  | _=>none
 | .unOp .neg _ x=>match s.ev x with
  | .int .i64 a=>some (i64 (Sh.w (-a)))
  | _=>none
 | .extract x i=>match s.ev x with
  | .BB vs=>(vs[i]?).bind fo
  | _=>none
 | .nilCheck x=>match s.ev x with
  | .ptr id g i off=>Kk g s.st[id]? λ_=>some (.ptr id g i off)
  | .A4 cs off=>some (.A4 cs off)
  | _=>none
 | .fieldAddr t x f=>match s.ev x with
  | .A4 cs off=>(FD T.f t f).bind λj=>some (.A4 cs (off+j))
  | .ptr id g i off=>(FD T.f t f).bind λj=>Kk g s.st[id]? λr=>bif Nat.ble (off+j) r.size then some (.ptr id g i (off+j)) else none
  | _=>none
 | .load t x=>Lx T s t (s.ev x)
 | .field t x f=>match s.ev x with
  | .agg cs=>(FD T.v t f).bind λi=>II [] cs i.1 i.2
  | _=>none
 | _=>none
theorem HI {α:Type}{g:Nat}{r:Option Row}{f:Row->Option α}{v:α}(h:Kk g r f=some v):∃el size xs,r=some ⟨g,el,size,xs⟩/\f ⟨g,el,size,xs⟩=some v:=by
 unfold Kk at h;split at h
 ·cases h
 ·rename_i r;cases hb:Nat.beq r.gen g with
  | true=>rw[hb]at h;cases TA hb;exact⟨_,_,_,rfl,h⟩
  | false=>rw[hb]at h;cases h
theorem PE {s:St}{o:BinOp}{t t':TypeId}{x y:Operand}{v:AV}(h:O1 T o t (s.ev x) (s.ev y)=some v):AQ P s (.binOp o t x y t') v:=by
 unfold O1 at h;split at h
 ·rename_i kk a Ys b hx hy;cases hk:O4 kk Ys with
  | false=>rw[hk]at h;cases h
  | true=>
   rw[hk]at h;have YF:kk=Ys:=Sq hk;subst YF;simp only[cond_true]at h;cases o<;>simp only[arith]at h;all_goals try (cases kk<;>cases h<;>first|exact QB hx hy|exact QC hx hy|exact Pw hx hy|exact PJ hx hy|exact Ob hx hy|exact PY hx hy)
   all_goals first
    | (cases h;done)
    | (cases h;first|exact Qg hx hy|exact Qp hx hy|exact Qd hx hy|exact Qa hx hy|exact QV hx hy|exact QW hx hy)
 ·rename_i p q hx hy;cases hb:has T.b t with
  | false=>rw[hb]at h;cases h
  | true=>
   rw[hb]at h;simp only[cond_true]at h;cases o<;>first
    | (cases h;done)
    | (cases h;first|exact P1 (T.bo hb) hx hy|exact QE (T.bo hb) hx hy)
 ·cases h
theorem Gc {cs:List AV}{off:Nat}{i:Bool×Nat}{v:AV}(h:II [] cs off i=some v):(i.1=false/\cs[off]?=some v)∨(i.1=true/\off+i.2<=cs.length/\v=.agg ((cs.drop off).take i.2)):=by
 obtain⟨b,sz⟩:=i;cases b with
 | false=>
  simp only[II]at h;obtain⟨a,h1,h2⟩:=R7.1 h;rw[h1,HC h2];exact .inl ⟨rfl,rfl⟩
 | true=>
  simp only[II]at h;cases hb:Nat.ble (off+sz) cs.length with
  | false=>rw[hb]at h;cases h
  | true=>rw[hb]at h;cases h;exact .inr ⟨rfl,Tg hb,rfl⟩
theorem ON {s:St}{t:TypeId}{x:Operand}{v:AV}(h:Lx T s t (s.ev x)=some v):AQ P s (.load t x) v:=by
 unfold Lx at h;split at h
 ·rename_i cs off hx;obtain⟨⟨b,sz⟩,h1,h2⟩:=R7.1 h;rcases Gc h2 with ⟨hb,h3⟩|⟨hb,h3,rfl⟩<;>simp only at hb<;>subst hb
  ·exact P5 (Gw h1) hx h3
  ·exact Of (Gw h1) hx h3 rfl
 ·rename_i id g i off hx;obtain⟨el,size,xs,hr,h⟩:=HI h;obtain⟨cs,hi,h⟩:=R7.1 h;obtain⟨⟨b,sz⟩,h1,h2⟩:=R7.1 h;rcases Gc h2 with ⟨hb,h3⟩|⟨hb,h3,rfl⟩<;>simp only at hb<;>subst hb
  ·exact DO (Gw h1) hx hr hi h3
  ·exact EH (Gw h1) hx hr hi h3 rfl
 ·cases h
theorem LH {s:St}{op:Op}{v:AV}(h:qE T s op=some v):AQ P s op v:=by
 unfold qE at h;split at h
 ·exact Qk (HC h)
 ·exact QY (HC h)
 ·exact PE h
 ·split at h
  ·rename_i hx;cases h;exact P8 hx
  ·cases h
 ·split at h
  ·rename_i hx;cases h;exact P6 hx
  ·cases h
 ·split at h
  ·rename_i vs hx;obtain⟨a,h1,h2⟩:=R7.1 h;rw[HC h2]at h1;exact Ql hx h1
  ·cases h
 ·split at h
  ·rename_i hx;obtain⟨el,size,xs,hr,h⟩:=HI h;cases h;exact Py hx hr
  ·rename_i hx;cases h;exact Pu hx
  ·cases h
 ·split at h
  ·rename_i hx;obtain⟨j,h1,h2⟩:=R7.1 h;cases h2;exact Pr (KO h1) hx rfl
  ·rename_i hx;obtain⟨j,h1,h2⟩:=R7.1 h;obtain⟨el,size,xs,hr,h2⟩:=HI h2;simp only at h2;cases hb:Nat.ble (_+j) size with
   | false=>rw[hb]at h2;cases h2
   | true=>rw[hb]at h2;cases h2;exact Pm (KO h1) hx hr (Tg hb) rfl
  ·cases h
 ·exact ON h
 ·split at h
  ·rename_i hx;obtain⟨⟨o,b,sz⟩,h1,h2⟩:=R7.1 h;rcases Gc h2 with ⟨hb,h3⟩|⟨hb,h3,rfl⟩<;>simp only at hb<;>subst hb
   ·exact QU (Kl h1) hx h3
   ·exact Pk (Kl h1) hx h3 rfl
  ·cases h
 ·cases h
abbrev ow {α:Type}(i g:Nat)(l:List α):AV:=.own i g l.length
abbrev ro {α:Type}(g el size:Nat)(enc:α->List AV)(l:List α):Row:=⟨g,el,size,l.map enc⟩
abbrev ls {α:Type}(enc:α->List AV)(l:List α):AV:=.sl (l.map enc)
def P9:AV->Option Bool
 | .bool b=>some b
 | _=>none
theorem Hu {v:AV}{b:Bool}(h:P9 v=some b):v=.bool b:=by cases v<;>cases h;rfl
def gE (ds:List (Option Tmp))(jj:Nat)(e:Nat->AV):Option Bool:=
 match ds[jj]? with
 | some (some t)=>P9 (e t)
 | _=>none
def uE (ds:List (Option Tmp))(jj:Nat)(e:Nat->AV):Bool:=
 match ds[jj]? with
 | some (some t)=>match e t with
  | .un=>true
  | _=>false
 | _=>false
section
variable {P : Program} {k : Nat} {ops : Array Oper} {Q : Exit -> St -> Prop} {ds : List (Option Tmp)} {r : List Oper} {n : Nat} {e : Nat -> AV} {st st' : List Row} {op : Op} {ty t' : TypeId} {ps : String} {ed : Array Edge} {d : Option Tmp} {t : Tmp} {v v' : AV}
variable {jj : Nat} {want b p : Bool} {tg : Tmp} {gd : Option (Nat × Bool)} {x y c : Operand} {KS : St -> Prop}
theorem NX (h:gE ds jj e=some b)(hb:b=want):GO ds (some (jj,want)) e:=by
 unfold gE at h;split at h
 ·rename_i tg hj;exact B8 hj (Hu h) hb
 ·cases h
def qL (T:FJ P)(s:St)(op:Op):Option AV:=bif D1 op then none else qE T s op
theorem GM {s:St}(h:qL T s op=some v):D1 op=false/\qE T s op=some v:=by
 unfold qL at h;cases hl:D1 op with
 | true=>rw[hl]at h;cases h
 | false=>rw[hl]at h;exact⟨rfl,h⟩
def gL (T:FJ P)(ds:List (Option Tmp))(jj:Nat)(s:St)(op:Op):Option (Bool×AV):=
 match gE ds jj s.env with
 | some b=>match qL T s op with
  | some v=>some (b,v)
  | none=>none
 | none=>none
theorem FY {s:St}(h:gL T ds jj s op=some (b,v)):gE ds jj s.env=some b/\D1 op=false/\qE T s op=some v:=by
 unfold gL at h;split at h
 ·rename_i b' hg;split at h
  ·rename_i v' hv;cases h;exact⟨hg,GM hv⟩
  ·cases h
 ·cases h
def pE (s:St)(c x:Operand):Option (Bool×AV):=
 match P9 (s.ev c) with
 | some b=>match fo (s.ev x) with
  | some v=>some (b,v)
  | none=>none
 | none=>none
theorem EP {s:St}{c x:Operand}(h:pE s c x=some (b,v)):s.ev c=.bool b/\s.ev x=v:=by
 unfold pE at h;split at h
 ·rename_i b' hg;split at h
  ·rename_i v' hv;cases h;exact⟨Hu hg,HC hv⟩
  ·cases h
 ·cases h
theorem zq (T:FJ P)(h:qL T ⟨n,e,st⟩ op=some v)(hk:AO P k ops Q (ds++[some t]) r ⟨n,CE e t v,st⟩):AO P k ops Q ds (⟨some t,op,ty,ps,ed,none⟩::r) ⟨n,e,st⟩:=BZ Ai (GM h).1 (LH (GM h).2) hk
theorem zg (T:FJ P)(hb:b=want)(h:gL T ds jj ⟨n,e,st⟩ op=some (b,v))(hk:AO P k ops Q (ds++[some t]) r ⟨n,CE e t v,st⟩):AO P k ops Q ds (⟨some t,op,ty,ps,ed,some (jj,want)⟩::r) ⟨n,e,st⟩:=BZ (NX (FY h).1 hb) (FY h).2.1 (LH (FY h).2.2) hk
theorem zz (v:AV)(h:AQ P ⟨n,e,st⟩ op v)(hl:D1 op=false)(hk:AO P k ops Q (ds++[some t]) r ⟨n,CE e t v,st⟩):AO P k ops Q ds (⟨some t,op,ty,ps,ed,none⟩::r) ⟨n,e,st⟩:=BZ Ai hl h hk
theorem yq (T:FJ P)(h:qL T ⟨n,e,st⟩ op=some v)(hk:Bj P (ds++[some t]) r KS ⟨n,CE e t v,st⟩):Bj P ds (⟨some t,op,ty,ps,ed,none⟩::r) KS ⟨n,e,st⟩:=Hb Ai (GM h).1 (LH (GM h).2) hk
theorem yg (T:FJ P)(hb:b=want)(h:gL T ds jj ⟨n,e,st⟩ op=some (b,v))(hk:Bj P (ds++[some t]) r KS ⟨n,CE e t v,st⟩):Bj P ds (⟨some t,op,ty,ps,ed,some (jj,want)⟩::r) KS ⟨n,e,st⟩:=Hb (NX (FY h).1 hb) (FY h).2.1 (LH (FY h).2.2) hk
theorem yz (v:AV)(h:AQ P ⟨n,e,st⟩ op v)(hl:D1 op=false)(hk:Bj P (ds++[some t]) r KS ⟨n,CE e t v,st⟩):Bj P ds (⟨some t,op,ty,ps,ed,none⟩::r) KS ⟨n,e,st⟩:=Hb Ai hl h hk
theorem zs (hb:b=!want)(hg:gE ds jj e=some b)(h:AO P k ops Q (ds++[some t]) r ⟨n,CE e t .un,st⟩):AO P k ops Q ds (⟨some t,op,ty,ps,ed,some (jj,want)⟩::r) ⟨n,e,st⟩:=by
 unfold gE at hg;split at hg
 ·rename_i tg hj;exact Oo hj (Hu hg) hb h
 ·cases hg
theorem ys (hb:b=!want)(hg:gE ds jj e=some b)(h:Bj P (ds++[some t]) r KS ⟨n,CE e t .un,st⟩):Bj P ds (⟨some t,op,ty,ps,ed,some (jj,want)⟩::r) KS ⟨n,e,st⟩:=by
 unfold gE at hg;split at hg
 ·rename_i tg hj;exact Pj hj (Hu hg) hb h
 ·cases hg
theorem L4 (hu:uE ds jj e=true):∃tg,ds[jj]?=some (some tg)/\e tg=.un:=by
 unfold uE at hu;split at hu
 ·rename_i tg hj;refine⟨tg,hj,?_⟩;cases he:e tg<;>rw[he]at hu<;>cases hu
 ·cases hu
theorem zn (hu:uE ds jj e=true)(h:AO P k ops Q (ds++[some t]) r ⟨n,CE e t .un,st⟩):AO P k ops Q ds (⟨some t,op,ty,ps,ed,some (jj,want)⟩::r) ⟨n,e,st⟩:=by
 obtain⟨tg,h1,h2⟩:=L4 hu;exact O6 h1 h2 h
theorem yn (hu:uE ds jj e=true)(h:Bj P (ds++[some t]) r KS ⟨n,CE e t .un,st⟩):Bj P ds (⟨some t,op,ty,ps,ed,some (jj,want)⟩::r) KS ⟨n,e,st⟩:=by
 obtain⟨tg,h1,h2⟩:=L4 hu;exact Pn h1 h2 h
def Me (T:FJ P)(n:Nat)(st:List Row):List Oper->(Nat->AV)->Option (Nat->AV)
 | [],e=>some e
 | ⟨some t,op,_,_,_,none⟩::r,e=>match qL T ⟨n,e,st⟩ op with
  | some v=>Me T n st r (CE e t v)
  | none=>none
 | _,_=>none
theorem MJ {T:FJ P}:∀{l:List Oper} {e e':Nat->AV} {ds:List (Option Tmp)},Me T n st l e=some e'->(∀ds,AO P k ops Q ds [] ⟨n,e',st⟩)->AO P k ops Q ds l ⟨n,e,st⟩
 | [],e,e',ds,h,hk=>by
  simp only[Me,Rr]at h;subst h;exact hk ds
 | o::r,e,e',ds,h,hk=>by
  unfold Me at h;split at h
  ·rename_i h0;cases h0
  ·rename_i t op ty ps ed r' e0 h0;cases h0;split at h
   ·rename_i v hv;exact zq T hv (MJ h hk)
   ·cases h
  ·cases h
def runN (T:FJ P)(n:Nat)(st:List Row):Nat->List Oper->List (Option Tmp)->(Nat->AV)->Option (List Oper×List (Option Tmp)×(Nat->AV))
 | 0,l,ds,e=>some (l,ds,e)
 | m+1,⟨some t,op,_,_,_,none⟩::r,ds,e=>match qL T ⟨n,e,st⟩ op with
  | some v=>runN T n st m r (ds++[some t]) (CE e t v)
  | none=>none
 | _,_,_,_=>none
theorem zm (T:FJ P):∀(m:Nat) {l l':List Oper} {e e':Nat->AV} {ds bH:List (Option Tmp)},runN T n st m l ds e=some (l',bH,e')->AO P k ops Q bH l' ⟨n,e',st⟩->AO P k ops Q ds l ⟨n,e,st⟩
 | 0,l,l',e,e',ds,bH,h,hk=>by
  simp only[runN,Rr,Prod.mk.injEq]at h;obtain⟨rfl,rfl,rfl⟩:=h;exact hk
 | m+1,[],l',e,e',ds,bH,h,hk=>by simp[runN]at h
 | m+1,o::r,l',e,e',ds,bH,h,hk=>by
  unfold runN at h;split at h
  ·rename_i h0;cases h0
  ·rename_i m0 t op ty ps ed r' hm h0;cases h0;cases hm;split at h
   ·rename_i v hv;exact zq T hv (zm T m h hk)
   ·cases h
  ·cases h
theorem zt (hp:p=true)(h:pE ⟨n,e,st⟩ c x=some (p,v))(hk:AO P k ops Q (ds++[some t]) r ⟨n,CE e t v,st⟩):AO P k ops Q ds (⟨some t,.pick c x y,ty,ps,ed,none⟩::r) ⟨n,e,st⟩:=BZ Ai rfl (E5 (EP h).1 hp (EP h).2) hk
theorem zf (hp:p=false)(h:pE ⟨n,e,st⟩ c y=some (p,v))(hk:AO P k ops Q (ds++[some t]) r ⟨n,CE e t v,st⟩):AO P k ops Q ds (⟨some t,.pick c x y,ty,ps,ed,none⟩::r) ⟨n,e,st⟩:=BZ Ai rfl (E7 (EP h).1 hp (EP h).2) hk
theorem yt (hp:p=true)(h:pE ⟨n,e,st⟩ c x=some (p,v))(hk:Bj P (ds++[some t]) r KS ⟨n,CE e t v,st⟩):Bj P ds (⟨some t,.pick c x y,ty,ps,ed,none⟩::r) KS ⟨n,e,st⟩:=Hb Ai rfl (E5 (EP h).1 hp (EP h).2) hk
theorem yf (hp:p=false)(h:pE ⟨n,e,st⟩ c y=some (p,v))(hk:Bj P (ds++[some t]) r KS ⟨n,CE e t v,st⟩):Bj P ds (⟨some t,.pick c x y,ty,ps,ed,none⟩::r) KS ⟨n,e,st⟩:=Hb Ai rfl (E7 (EP h).1 hp (EP h).2) hk
variable {α : Type} {l : List α} {enc : α -> List AV} {kk : IntKind} {j : Int} {u : α} {el size bytes : Nat} {zz : List AV}
theorem zl (T:FJ P)(hs:has T.s t'=true)(hx:St.ev ⟨n,e,st⟩ x=.sl (l.map enc))(hk:AO P k ops Q (ds++[some t]) r ⟨n,CE e t (i64 (Sh.len l)),st⟩):AO P k ops Q ds (⟨some t,.call ⟨.builtin .len,#[x],#[t']⟩,ty,ps,ed,none⟩::r) ⟨n,e,st⟩:=BZ Ai rfl (Db (T.sl hs) hx) hk
theorem zx (he:CG P t'=some ⟨el,size,bytes,zz⟩)(hg:Sh.get l j=some u)(hx:St.ev ⟨n,e,st⟩ x=.sl (l.map enc))(hy:St.ev ⟨n,e,st⟩ y=.int kk j)(hs:(enc u).length=size)(hk:AO P k ops Q (ds++[some t]) r ⟨n,CE e t (.A4 (enc u) 0),st⟩):AO P k ops Q ds (⟨some t,.indexAddr t' x y,ty,ps,ed,none⟩::r) ⟨n,e,st⟩:=BZ Ai rfl (Bt he hx hy hg hs) hk
theorem yx (he:CG P t'=some ⟨el,size,bytes,zz⟩)(hg:Sh.get l j=some u)(hx:St.ev ⟨n,e,st⟩ x=.sl (l.map enc))(hy:St.ev ⟨n,e,st⟩ y=.int kk j)(hs:(enc u).length=size)(hk:Bj P (ds++[some t]) r KS ⟨n,CE e t (.A4 (enc u) 0),st⟩):Bj P ds (⟨some t,.indexAddr t' x y,ty,ps,ed,none⟩::r) KS ⟨n,e,st⟩:=Hb Ai rfl (Bt he hx hy hg hs) hk
variable {f : FuncId} {VG : Array Operand} {ts : Array TypeId} {args : List AV}
theorem zd (X9:b=want)(hb:AZ P f=true)(hc:AY P f args [] λr st=>r=v/\st=[])(ha:VG.toList.map (St.ev ⟨n,e,st⟩)++[]=args)(hf:args.all flat=true)(hv:fo (shift st.length v)=some v')
  (hg:gE ds jj e=some b) (hk:AO P k ops Q (ds++[d]) r (St.put ⟨n,e,st⟩ d v')):AO P k ops Q ds (⟨d,.call ⟨.value (.func f),VG,ts⟩,ty,ps,ed,some (jj,want)⟩::r) ⟨n,e,st⟩:=
 Cd (NX hg X9) hb hc ha hf Ru (HC hv) (TW st) hk
theorem zc (hb:AZ P f=true)(hc:AY P f args [] λr st=>r=v/\st=[])(ha:VG.toList.map (St.ev ⟨n,e,st⟩)++[]=args)(hf:args.all flat=true)(hv:fo (shift st.length v)=some v')
  (hk:AO P k ops Q (ds++[d]) r (St.put ⟨n,e,st⟩ d v')):AO P k ops Q ds (⟨d,.call ⟨.value (.func f),VG,ts⟩,ty,ps,ed,none⟩::r) ⟨n,e,st⟩:=
 Cd Ai hb hc ha hf Ru (HC hv) (TW st) hk
theorem sr {id:Nat}{y:Code}{s:St}(hd:(ops.toList.all λo=>Bo s.n o.dst)=true)(h :∀K:St->Prop,(∀s,AW P k y Q s->K s)->AO P k ops (NI K Q) [] ops.toList s):AW P k (.seq (.region id ops false) y) Q s:=
 AB λK hK=>AG hd (h K hK)
def KT:Nat->List AV->List (Nat×AV)
 | _,[]=>[]
 | i,a::r=>(i,a)::KT (i+1) r
theorem KZ:∀(l:List AV) (i t:Nat),AX (KT i l) t=if t<i then .Bl else (l[t-i]?).getD .Bl
 | [],i,t=>by simp[KT,AX]
 | a::r,i,t=>by
  simp only[KT,AX,KZ r (i+1) t];by_cases h:t=i
  ·subst h;simp
  ·by_cases h2:t<i
   ·simp[h,h2,Nat.lt_succ_of_lt h2]
   ·obtain⟨d,hd⟩ :∃d,t-i=d+1:=⟨t-i-1,by omega⟩
    have h3:¬ t<i+1:=by omega
    simp[h,h2,h3,hd,show t-(i+1)=d by omega]
theorem ai {k N:Nat}{f:FuncId}{fn:Func}{c:Code}{args:List AV}{st:List Row}{R:AV->List Row->Prop}(hf:P.funcs[f]?=some fn)(hb:fn.body=some c)(hN:fn.ntmps=N)(hn:Nat.ble args.length N=true)(hk:st.length=k)
  (h:AW P k c (QL P k fn R) ⟨N,AX (KT 0 args),st⟩):AY P f args st R:=by
 subst hN;subst hk;refine AY.intro hf hb (Tg hn) ?_;have e:JF args=AX (KT 0 args):=by
  funext t;rw[KZ];simp[JF,TL]
 rw[e];exact h
theorem zr (T:FJ P){id:Nat}{y:Code}{e':Nat->AV}(h:Me T n st ops.toList e=some e')(hd:(ops.toList.all λo=>Bo n o.dst)=true)(hk:AW P k y Q ⟨n,e',st⟩):AW P k (.seq (.region id ops false) y) Q ⟨n,e,st⟩:=
 AB λK hK=>AG hd (MJ h λds=>AD (hK _ hk))
theorem dn {s:St}{K p:St->Prop}(hK :∀s,p s->K s)(hq:Q .normal s=K s)(h:p s):AO P k ops Q ds [] s:=AD (hq▸hK s h)
theorem ci {α:Type}{o:Operand}{x y:Code}{s:St}{A B C:α}(h:(if b=true then A else B)=C)(ho:P9 (s.ev o)=some b)(h1:b=true->A=C->AW P k x Q s)(h2:b=false->B=C->AW P k y Q s):AW P k (.cond o x y) Q s:=
 GF (Hu ho) (λhb=>h1 hb (by rw[<- h,R1 hb])) (λhb=>h2 hb (by rw[<- h,R0 (by rw[hb];decide)]))
theorem xi {α:Type}{p q:α->Prop}(a:α)(h:p a)(g:q a):∃a,p a/\q a:=⟨a,h,g⟩
theorem xr {α:Type}{p q:α->Prop}{a:α}(h:p a)(g:q a:=by exact And.intro rfl rfl):∃a,p a/\q a:=⟨a,h,g⟩
def PU (e:Nat->AV):List (Nat×AV)->List AV
 | []=>[]
 | (t,_)::r=>e t::PU e r
def PR:List (Nat×AV)->List AV
 | []=>[]
 | (_,v)::r=>v::PR r
theorem JC {e:Nat->AV}:∀{L:List (Nat×AV)},PU e L=PR L->ME e L
 | [],_=>trivial
 | (t,v)::r,h=>by
  simp only[PU,PR,T2]at h;exact⟨Jj h.1,JC h.2⟩
theorem AE {L:List (Nat×AV)}(h:PU e L=PR L):Wk k ⟨n,e,st⟩ ⟨n,AX L,st⟩:=AR (JC h)
theorem Ag (L:List (Nat×AV))(h:PU (λt=>E0 [] (e t)) L=PR L):Wk 0 ⟨n,e,st⟩ ⟨n,AX L,[]⟩:=
 Ac (L:=L) (st':=[]) (st1:=[]) [] rfl .nil (by decide) rfl rfl .nil (JC h)
end
end Go.Abs
