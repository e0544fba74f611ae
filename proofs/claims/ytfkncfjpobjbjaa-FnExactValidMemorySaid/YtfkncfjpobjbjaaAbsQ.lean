import Derived.Test.YtfkncfjpobjbjaaAbsW
set_option linter.all false
namespace Go.Abs
open Go
structure FN (P:Program) where
 t:List (Nat×Bool×Nat)
 f:List (Nat×Nat×Nat)
 v:List (Nat×Nat×Nat×Bool×Nat)
 b:List Nat
 s:List Nat
 ht:(t.all λx=>decide (CE P x.1=some x.2))=true
 hf:(f.all λx=>decide (Hy P x.1 x.2.1=some x.2.2))=true
 hv:(v.all λx=>decide (H5 P x.1 x.2.1=some x.2.2))=true
 hb:(b.all λx=>FQ P x)=true
 hs:(s.all λx=>CM P x)=true
def look {α:Type}:List (Nat×α)->Nat->Option α
 | [],_=>none
 | (a,x)::r,k=>bif Nat.beq a k then some x else look r k
def FE {α:Type}:List (Nat×Nat×α)->Nat->Nat->Option α
 | [],_,_=>none
 | (a,b,x)::r,k,m=>bif Nat.beq a k&&Nat.beq b m then some x else FE r k m
theorem KW {α:Type}{k:Nat}{x:α}:∀{l:List (Nat×α)},look l k=some x->(k,x)∈l
 | (a,y)::r,h=>by
  unfold look at h;cases hb:Nat.beq a k with
  | true=>rw[hb]at h;cases h;cases S6 hb;exact Sn
  | false=>rw[hb]at h;exact Sc _ (KW h)
theorem HE {α:Type}{k m:Nat}{x:α}:∀{l:List (Nat×Nat×α)},FE l k m=some x->(k,m,x)∈l
 | (a,b,y)::r,h=>by
  unfold FE at h;cases hb:Nat.beq a k&&Nat.beq b m with
  | true=>
   rw[hb]at h;cases h;rw[SL]at hb;cases S6 hb.1;cases S6 hb.2;exact Sn
  | false=>rw[hb]at h;exact Sc _ (HE h)
def has:List Nat->Nat->Bool
 | [],_=>false
 | a::r,k=>bif Nat.beq a k then true else has r k
theorem Jj {k:Nat}:∀{l:List Nat},has l k=true->k∈l
 | a::r,h=>by
  unfold has at h;cases hb:Nat.beq a k with
  | true=>cases S6 hb;exact Sn
  | false=>rw[hb]at h;exact Sc _ (Jj h)
variable {P : Program} {T : FN P} {k m : Nat}
theorem Gn {x:Bool×Nat}(h:look T.t k=some x):CE P k=some x:=Sv (Ru.1 T.ht _ (KW h))
theorem KV {x:Nat}(h:FE T.f k m=some x):Hy P k m=some x:=Sv (Ru.1 T.hf _ (HE h))
theorem KK {x:Nat×Bool×Nat}(h:FE T.v k m=some x):H5 P k m=some x:=Sv (Ru.1 T.hv _ (HE h))
theorem FN.bo (h:has T.b k=true):FQ P k=true:=Ru.1 T.hb _ (Jj h)
theorem FN.sl (h:has T.s k=true):CM P k=true:=Ru.1 T.hs _ (Jj h)
def fo:AV->Option AV
 | .Bk=>none
 | .un=>some .un
 | .int k n=>some (.int k n)
 | .bool b=>some (.bool b)
 | .str s=>some (.str s)
 | .zc=>some .zc
 | .G6=>some .G6
 | .Gz=>some .Gz
 | .mp b=>some (.mp b)
 | .mv D=>some (.mv D)
 | .sl xs=>some (.sl xs)
 | .own a b c=>some (.own a b c)
 | .ptr a b c d=>some (.ptr a b c d)
 | .A6 x o=>some (.A6 x o)
 | .fn f c=>some (.fn f c)
 | .agg c=>some (.agg c)
 | .BK c=>some (.BK c)
 | .dv a b c=>some (.dv a b c)
theorem HR {a v:AV}(h:fo a=some v):a=v:=by cases a<;>cases h<;>rfl
def arith (o:BinOp)(k:IntKind)(a b:Int):Option AV:=
 match o with
 | .add=>match k with
  | .i64=>some (i64 (Sh.w (a+b)))
  | k=>some (.int k (Sh.wk k (a+b)))
 | .sub=>match k with
  | .i64=>some (i64 (Sh.w (a-b)))
  | k=>some (.int k (Sh.wk k (a-b)))
 | .mul=>match k with
  | .i64=>some (i64 (Sh.w (a*b)))
  | k=>some (.int k (Sh.wk k (a*b)))
 | .lss=>some (.bool (decide (a<b)))
 | .leq=>some (.bool (decide (a<=b)))
 | .gtr=>some (.bool (decide (b<a)))
 | .geq=>some (.bool (decide (b<=a)))
 | .eql=>some (.bool (decide (a=b)))
 | .neq=>some (.bool (!decide (a=b)))
 | _=>none
def PR (k k':IntKind):Bool:=decide (k=k')
def Oc (T:FN P)(o:BinOp)(t:Nat):AV->AV->Option AV
 | .int k a,.int k' b=>bif PR k k' then arith o k a b else none
 | .bool p,.bool q=>bif has T.b t then (match o with
  | .eql=>some (.bool (p==q))
  | .neq=>some (.bool (p != q))
  | _=>none) else none
 | _,_=>none
def ID (xs:List (List AV))(cs:List AV)(off:Nat):Bool×Nat->Option AV
 | (false,_)=>(cs[off]?).bind fo
 | (true,sz)=>bif Nat.ble (off+sz) cs.length then some (.agg ((cs.drop off).take sz)) else none
def KL (g:Nat)(r:Option Row){α:Type}(f:Row->Option α):Option α:=
 match r with
 | none=>none
 | some r=>bif Nat.beq r.gen g then f r else none
def Lb (T:FN P)(s:St)(t:Nat):AV->Option AV
 | .A6 cs off=>(look T.t t).bind (ID [] cs off)
 | .ptr id g i off=>KL g s.st[id]? λr=>(r.xs[i]?).bind λcs=>(look T.t t).bind (ID [] cs off)
 | _=>none
def qE (T:FN P)(s:St):Op->Option AV
 | .move x=>fo (s.ev x)
 | .assign x=>fo (s.ev x)
 | .binOp o t x y _=>Oc T o t (s.ev x) (s.ev y)
 | .unOp .not _ x=>match s.ev x with
  | .bool p=>some (.bool (!p))
  | _=>none
 | .unOp .neg _ x=>match s.ev x with
  | .int .i64 a=>some (i64 (Sh.w (-a)))
  | _=>none
 | .extract x i=>match s.ev x with
  | .BK vs=>(vs[i]?).bind fo
  | _=>none
 | .nilCheck x=>match s.ev x with
  | .ptr id g i off=>KL g s.st[id]? λ_=>some (.ptr id g i off)
  | .A6 cs off=>some (.A6 cs off)
  | _=>none
 | .fieldAddr t x f=>match s.ev x with
  | .A6 cs off=>(FE T.f t f).bind λj=>some (.A6 cs (off+j))
  | .ptr id g i off=>(FE T.f t f).bind λj=>KL g s.st[id]? λr=>bif Nat.ble (off+j) r.size then some (.ptr id g i (off+j)) else none
  | _=>none
 | .load t x=>Lb T s t (s.ev x)
 | .field t x f=>match s.ev x with
  | .agg cs=>(FE T.v t f).bind λi=>ID [] cs i.1 i.2
  | _=>none
 | _=>none
theorem HN {α:Type}{g:Nat}{r:Option Row}{f:Row->Option α}{v:α}(h:KL g r f=some v):∃el size xs,r=some ⟨g,el,size,xs⟩/\f ⟨g,el,size,xs⟩=some v:=by
 unfold KL at h;split at h
 ·cases h
 ·rename_i r;cases hb:Nat.beq r.gen g with
  | true=>rw[hb]at h;cases S6 hb;exact⟨_,_,_,rfl,h⟩
  | false=>rw[hb]at h;cases h
theorem Oe {s:St}{o:BinOp}{t t':TypeId}{x y:Operand}{v:AV}(h:Oc T o t (s.ev x) (s.ev y)=some v):AQ P s (.binOp o t x y t') v:=by
 unfold Oc at h;split at h
 ·rename_i kk a Yn b hx hy;cases hk:PR kk Yn with
  | false=>rw[hk]at h;cases h
  | true=>
   rw[hk]at h;have X8:kk=Yn:=Sv hk;subst X8;simp only[cond_true]at h;cases o<;>simp only[arith]at h;all_goals try (cases kk<;>cases h<;>first|exact Pc hx hy|exact Pt hx hy|exact P1 hx hy|exact On hx hy|exact Ow hx hy|exact PD hx hy)
   all_goals first
    | (cases h;done)
    | (cases h;first|exact QX hx hy|exact QW hx hy|exact Qb hx hy|exact Qj hx hy|exact Qi hx hy|exact QO hx hy)
 ·rename_i p q hx hy;cases hb:has T.b t with
  | false=>rw[hb]at h;cases h
  | true=>
   rw[hb]at h;simp only[cond_true]at h;cases o<;>first
    | (cases h;done)
    | (cases h;first|exact Pe (T.bo hb) hx hy|exact Pn (T.bo hb) hx hy)
 ·cases h
theorem GA {cs:List AV}{off:Nat}{i:Bool×Nat}{v:AV}(h:ID [] cs off i=some v):(i.1=false/\cs[off]?=some v)∨(i.1=true/\off+i.2<=cs.length/\v=.agg ((cs.drop off).take i.2)):=by
 obtain⟨b,sz⟩:=i;cases b with
 | false=>
  simp only[ID]at h;obtain⟨a,h1,h2⟩:=R3.1 h;rw[h1,HR h2];exact .inl ⟨rfl,rfl⟩
 | true=>
  simp only[ID]at h;cases hb:Nat.ble (off+sz) cs.length with
  | false=>rw[hb]at h;cases h
  | true=>rw[hb]at h;cases h;exact .inr ⟨rfl,Tc hb,rfl⟩
theorem OL {s:St}{t:TypeId}{x:Operand}{v:AV}(h:Lb T s t (s.ev x)=some v):AQ P s (.load t x) v:=by
 unfold Lb at h;split at h
 ·rename_i cs off hx;obtain⟨⟨b,sz⟩,h1,h2⟩:=R3.1 h;rcases GA h2 with ⟨hb,h3⟩|⟨hb,h3,rfl⟩<;>simp only at hb<;>subst hb
  ·exact Ps (Gn h1) hx h3
  ·exact OY (Gn h1) hx h3 rfl
 ·rename_i id g i off hx;obtain⟨el,size,xs,hr,h⟩:=HN h;obtain⟨cs,hi,h⟩:=R3.1 h;obtain⟨⟨b,sz⟩,h1,h2⟩:=R3.1 h;rcases GA h2 with ⟨hb,h3⟩|⟨hb,h3,rfl⟩<;>simp only at hb<;>subst hb
  ·exact DN (Gn h1) hx hr hi h3
  ·exact EM (Gn h1) hx hr hi h3 rfl
 ·cases h
theorem LK {s:St}{op:Op}{v:AV}(h:qE T s op=some v):AQ P s op v:=by
 unfold qE at h;split at h
 ·exact Qc (HR h)
 ·exact QV (HR h)
 ·exact Oe h
 ·split at h
  ·rename_i hx;cases h;exact P2 hx
  ·cases h
 ·split at h
  ·rename_i hx;cases h;exact PZ hx
  ·cases h
 ·split at h
  ·rename_i vs hx;obtain⟨a,h1,h2⟩:=R3.1 h;rw[HR h2]at h1;exact Qf hx h1
  ·cases h
 ·split at h
  ·rename_i hx;obtain⟨el,size,xs,hr,h⟩:=HN h;cases h;exact Pb hx hr
  ·rename_i hx;cases h;exact PW hx
  ·cases h
 ·split at h
  ·rename_i hx;obtain⟨j,h1,h2⟩:=R3.1 h;cases h2;exact P8 (KV h1) hx rfl
  ·rename_i hx;obtain⟨j,h1,h2⟩:=R3.1 h;obtain⟨el,size,xs,hr,h2⟩:=HN h2;simp only at h2;cases hb:Nat.ble (_+j) size with
   | false=>rw[hb]at h2;cases h2
   | true=>rw[hb]at h2;cases h2;exact P9 (KV h1) hx hr (Tc hb) rfl
  ·cases h
 ·exact OL h
 ·split at h
  ·rename_i hx;obtain⟨⟨o,b,sz⟩,h1,h2⟩:=R3.1 h;rcases GA h2 with ⟨hb,h3⟩|⟨hb,h3,rfl⟩<;>simp only at hb<;>subst hb
   ·exact Qa (KK h1) hx h3
   ·exact Pd (KK h1) hx h3 rfl
  ·cases h
 ·cases h
abbrev ow {α:Type}(i g:Nat)(l:List α):AV:=.own i g l.length
abbrev ro {α:Type}(g el size:Nat)(enc:α->List AV)(l:List α):Row:=⟨g,el,size,l.map enc⟩
abbrev ls {α:Type}(enc:α->List AV)(l:List α):AV:=.sl (l.map enc)
def Pg:AV->Option Bool
 | .bool b=>some b
 | _=>none
theorem Ha {v:AV}{b:Bool}(h:Pg v=some b):v=.bool b:=by cases v<;>cases h;rfl
def gE (ds:List (Option Tmp))(jj:Nat)(e:Nat->AV):Option Bool:=
 match ds[jj]? with
 | some (some t)=>Pg (e t)
 | _=>none
def uE (ds:List (Option Tmp))(jj:Nat)(e:Nat->AV):Bool:=
 match ds[jj]? with
 | some (some t)=>match e t with
  | .un=>true
  | _=>false
 | _=>false
section
variable {P : Program} {k : Nat} {ops : Array Oper} {Q : Exit -> St -> Prop} {ds : List (Option Tmp)} {r : List Oper} {n : Nat} {e : Nat -> AV} {st st' : List Row} {op : Op} {ty t' : TypeId} {ps : String} {ed : Array Edge} {d : Option Tmp} {t : Tmp} {v v' : AV}
variable {jj : Nat} {want b p : Bool} {tg : Tmp} {gd : Option (Nat × Bool)} {x y c : Operand} {KS : St -> Prop}
theorem Mu (h:gE ds jj e=some b)(hb:b=want):GO ds (some (jj,want)) e:=by
 unfold gE at h;split at h
 ·rename_i tg hj;exact B8 hj (Ha h) hb
 ·cases h
def qL (T:FN P)(s:St)(op:Op):Option AV:=bif Dt op then none else qE T s op
theorem Gd {s:St}(h:qL T s op=some v):Dt op=false/\qE T s op=some v:=by
 unfold qL at h;cases hl:Dt op with
 | true=>rw[hl]at h;cases h
 | false=>rw[hl]at h;exact⟨rfl,h⟩
def gL (T:FN P)(ds:List (Option Tmp))(jj:Nat)(s:St)(op:Op):Option (Bool×AV):=
 match gE ds jj s.env with
 | some b=>match qL T s op with
  | some v=>some (b,v)
  | none=>none
 | none=>none
theorem FL {s:St}(h:gL T ds jj s op=some (b,v)):gE ds jj s.env=some b/\Dt op=false/\qE T s op=some v:=by
 unfold gL at h;split at h
 ·rename_i b' hg;split at h
  ·rename_i v' hv;cases h;exact⟨hg,Gd hv⟩
  ·cases h
 ·cases h
def pE (s:St)(c x:Operand):Option (Bool×AV):=
 match Pg (s.ev c) with
 | some b=>match fo (s.ev x) with
  | some v=>some (b,v)
  | none=>none
 | none=>none
theorem ED {s:St}{c x:Operand}(h:pE s c x=some (b,v)):s.ev c=.bool b/\s.ev x=v:=by
 unfold pE at h;split at h
 ·rename_i b' hg;split at h
  ·rename_i v' hv;cases h;exact⟨Ha hg,HR hv⟩
  ·cases h
 ·cases h
theorem zq (T:FN P)(h:qL T ⟨n,e,st⟩ op=some v)(hk:AO P k ops Q (ds++[some t]) r ⟨n,CD e t v,st⟩):AO P k ops Q ds (⟨some t,op,ty,ps,ed,none⟩::r) ⟨n,e,st⟩:=BZ Ah (Gd h).1 (LK (Gd h).2) hk
theorem zg (T:FN P)(hb:b=want)(h:gL T ds jj ⟨n,e,st⟩ op=some (b,v))(hk:AO P k ops Q (ds++[some t]) r ⟨n,CD e t v,st⟩):AO P k ops Q ds (⟨some t,op,ty,ps,ed,some (jj,want)⟩::r) ⟨n,e,st⟩:=BZ (Mu (FL h).1 hb) (FL h).2.1 (LK (FL h).2.2) hk
theorem zz (v:AV)(h:AQ P ⟨n,e,st⟩ op v)(hl:Dt op=false)(hk:AO P k ops Q (ds++[some t]) r ⟨n,CD e t v,st⟩):AO P k ops Q ds (⟨some t,op,ty,ps,ed,none⟩::r) ⟨n,e,st⟩:=BZ Ah hl h hk
theorem yq (T:FN P)(h:qL T ⟨n,e,st⟩ op=some v)(hk:Bh P (ds++[some t]) r KS ⟨n,CD e t v,st⟩):Bh P ds (⟨some t,op,ty,ps,ed,none⟩::r) KS ⟨n,e,st⟩:=G8 Ah (Gd h).1 (LK (Gd h).2) hk
theorem yg (T:FN P)(hb:b=want)(h:gL T ds jj ⟨n,e,st⟩ op=some (b,v))(hk:Bh P (ds++[some t]) r KS ⟨n,CD e t v,st⟩):Bh P ds (⟨some t,op,ty,ps,ed,some (jj,want)⟩::r) KS ⟨n,e,st⟩:=G8 (Mu (FL h).1 hb) (FL h).2.1 (LK (FL h).2.2) hk
theorem yz (v:AV)(h:AQ P ⟨n,e,st⟩ op v)(hl:Dt op=false)(hk:Bh P (ds++[some t]) r KS ⟨n,CD e t v,st⟩):Bh P ds (⟨some t,op,ty,ps,ed,none⟩::r) KS ⟨n,e,st⟩:=G8 Ah hl h hk
theorem zs (hb:b=!want)(hg:gE ds jj e=some b)(h:AO P k ops Q (ds++[some t]) r ⟨n,CD e t .un,st⟩):AO P k ops Q ds (⟨some t,op,ty,ps,ed,some (jj,want)⟩::r) ⟨n,e,st⟩:=by
 unfold gE at hg;split at hg
 ·rename_i tg hj;exact PS hj (Ha hg) hb h
 ·cases hg
theorem ys (hb:b=!want)(hg:gE ds jj e=some b)(h:Bh P (ds++[some t]) r KS ⟨n,CD e t .un,st⟩):Bh P ds (⟨some t,op,ty,ps,ed,some (jj,want)⟩::r) KS ⟨n,e,st⟩:=by
 unfold gE at hg;split at hg
 ·rename_i tg hj;exact Px hj (Ha hg) hb h
 ·cases hg
theorem MN (hu:uE ds jj e=true):∃tg,ds[jj]?=some (some tg)/\e tg=.un:=by
 unfold uE at hu;split at hu
 ·rename_i tg hj;refine⟨tg,hj,?_⟩;cases he:e tg<;>rw[he]at hu<;>cases hu
 ·cases hu
theorem zn (hu:uE ds jj e=true)(h:AO P k ops Q (ds++[some t]) r ⟨n,CD e t .un,st⟩):AO P k ops Q ds (⟨some t,op,ty,ps,ed,some (jj,want)⟩::r) ⟨n,e,st⟩:=by
 obtain⟨tg,h1,h2⟩:=MN hu;exact Ov h1 h2 h
theorem yn (hu:uE ds jj e=true)(h:Bh P (ds++[some t]) r KS ⟨n,CD e t .un,st⟩):Bh P ds (⟨some t,op,ty,ps,ed,some (jj,want)⟩::r) KS ⟨n,e,st⟩:=by
 obtain⟨tg,h1,h2⟩:=MN hu;exact PY h1 h2 h
def Lu (T:FN P)(n:Nat)(st:List Row):List Oper->(Nat->AV)->Option (Nat->AV)
 | [],e=>some e
 | ⟨some t,op,_,_,_,none⟩::r,e=>match qL T ⟨n,e,st⟩ op with
  | some v=>Lu T n st r (CD e t v)
  | none=>none
 | _,_=>none
theorem MO {T:FN P}:∀{l:List Oper} {e e':Nat->AV} {ds:List (Option Tmp)},Lu T n st l e=some e'->(∀ds,AO P k ops Q ds [] ⟨n,e',st⟩)->AO P k ops Q ds l ⟨n,e,st⟩
 | [],e,e',ds,h,hk=>by
  simp only[Lu,Rn]at h;subst h;exact hk ds
 | o::r,e,e',ds,h,hk=>by
  unfold Lu at h;split at h
  ·rename_i h0;cases h0
  ·rename_i t op ty ps ed r' e0 h0;cases h0;split at h
   ·rename_i v hv;exact zq T hv (MO h hk)
   ·cases h
  ·cases h
def runN (T:FN P)(n:Nat)(st:List Row):Nat->List Oper->List (Option Tmp)->(Nat->AV)->Option (List Oper×List (Option Tmp)×(Nat->AV))
 | 0,l,ds,e=>some (l,ds,e)
 | m+1,⟨some t,op,_,_,_,none⟩::r,ds,e=>match qL T ⟨n,e,st⟩ op with
  | some v=>runN T n st m r (ds++[some t]) (CD e t v)
  | none=>none
 | _,_,_,_=>none
theorem zm (T:FN P):∀(m:Nat) {l l':List Oper} {e e':Nat->AV} {ds bC:List (Option Tmp)},runN T n st m l ds e=some (l',bC,e')->AO P k ops Q bC l' ⟨n,e',st⟩->AO P k ops Q ds l ⟨n,e,st⟩
 | 0,l,l',e,e',ds,bC,h,hk=>by
  simp only[runN,Rn,Prod.mk.injEq]at h;obtain⟨rfl,rfl,rfl⟩:=h;exact hk
 | m+1,[],l',e,e',ds,bC,h,hk=>by simp[runN]at h
 | m+1,o::r,l',e,e',ds,bC,h,hk=>by
  unfold runN at h;split at h
  ·rename_i h0;cases h0
  ·rename_i m0 t op ty ps ed r' hm h0;cases h0;cases hm;split at h
   ·rename_i v hv;exact zq T hv (zm T m h hk)
   ·cases h
  ·cases h
theorem zt (hp:p=true)(h:pE ⟨n,e,st⟩ c x=some (p,v))(hk:AO P k ops Q (ds++[some t]) r ⟨n,CD e t v,st⟩):AO P k ops Q ds (⟨some t,.pick c x y,ty,ps,ed,none⟩::r) ⟨n,e,st⟩:=BZ Ah rfl (E6 (ED h).1 hp (ED h).2) hk
theorem zf (hp:p=false)(h:pE ⟨n,e,st⟩ c y=some (p,v))(hk:AO P k ops Q (ds++[some t]) r ⟨n,CD e t v,st⟩):AO P k ops Q ds (⟨some t,.pick c x y,ty,ps,ed,none⟩::r) ⟨n,e,st⟩:=BZ Ah rfl (E2 (ED h).1 hp (ED h).2) hk
theorem yt (hp:p=true)(h:pE ⟨n,e,st⟩ c x=some (p,v))(hk:Bh P (ds++[some t]) r KS ⟨n,CD e t v,st⟩):Bh P ds (⟨some t,.pick c x y,ty,ps,ed,none⟩::r) KS ⟨n,e,st⟩:=G8 Ah rfl (E6 (ED h).1 hp (ED h).2) hk
theorem yf (hp:p=false)(h:pE ⟨n,e,st⟩ c y=some (p,v))(hk:Bh P (ds++[some t]) r KS ⟨n,CD e t v,st⟩):Bh P ds (⟨some t,.pick c x y,ty,ps,ed,none⟩::r) KS ⟨n,e,st⟩:=G8 Ah rfl (E2 (ED h).1 hp (ED h).2) hk
variable {α : Type} {l : List α} {enc : α -> List AV} {kk : IntKind} {j : Int} {u : α} {el size bytes : Nat} {zz : List AV}
theorem zl (T:FN P)(hs:has T.s t'=true)(hx:St.ev ⟨n,e,st⟩ x=.sl (l.map enc))(hk:AO P k ops Q (ds++[some t]) r ⟨n,CD e t (i64 (Sh.len l)),st⟩):AO P k ops Q ds (⟨some t,.call ⟨.builtin .len,#[x],#[t']⟩,ty,ps,ed,none⟩::r) ⟨n,e,st⟩:=BZ Ah rfl (DV (T.sl hs) hx) hk
theorem zx (he:CJ P t'=some ⟨el,size,bytes,zz⟩)(hg:Sh.get l j=some u)(hx:St.ev ⟨n,e,st⟩ x=.sl (l.map enc))(hy:St.ev ⟨n,e,st⟩ y=.int kk j)(hs:(enc u).length=size)(hk:AO P k ops Q (ds++[some t]) r ⟨n,CD e t (.A6 (enc u) 0),st⟩):AO P k ops Q ds (⟨some t,.indexAddr t' x y,ty,ps,ed,none⟩::r) ⟨n,e,st⟩:=BZ Ah rfl (B0 he hx hy hg hs) hk
theorem yx (he:CJ P t'=some ⟨el,size,bytes,zz⟩)(hg:Sh.get l j=some u)(hx:St.ev ⟨n,e,st⟩ x=.sl (l.map enc))(hy:St.ev ⟨n,e,st⟩ y=.int kk j)(hs:(enc u).length=size)(hk:Bh P (ds++[some t]) r KS ⟨n,CD e t (.A6 (enc u) 0),st⟩):Bh P ds (⟨some t,.indexAddr t' x y,ty,ps,ed,none⟩::r) KS ⟨n,e,st⟩:=G8 Ah rfl (B0 he hx hy hg hs) hk
variable {f : FuncId} {VA : Array Operand} {ts : Array TypeId} {args : List AV}
theorem zd (X3:b=want)(hb:AZ P f=true)(hc:AY P f args [] λr st=>r=v/\st=[])(ha:VA.toList.map (St.ev ⟨n,e,st⟩)++[]=args)(hf:args.all flat=true)(hv:fo (shift st.length v)=some v')
  (hg:gE ds jj e=some b) (hk:AO P k ops Q (ds++[d]) r (St.put ⟨n,e,st⟩ d v')):AO P k ops Q ds (⟨d,.call ⟨.value (.func f),VA,ts⟩,ty,ps,ed,some (jj,want)⟩::r) ⟨n,e,st⟩:=
 DG (Mu hg X3) hb hc ha hf Rq (HR hv) (TS st) hk
theorem zc (hb:AZ P f=true)(hc:AY P f args [] λr st=>r=v/\st=[])(ha:VA.toList.map (St.ev ⟨n,e,st⟩)++[]=args)(hf:args.all flat=true)(hv:fo (shift st.length v)=some v')
  (hk:AO P k ops Q (ds++[d]) r (St.put ⟨n,e,st⟩ d v')):AO P k ops Q ds (⟨d,.call ⟨.value (.func f),VA,ts⟩,ty,ps,ed,none⟩::r) ⟨n,e,st⟩:=
 DG Ah hb hc ha hf Rq (HR hv) (TS st) hk
theorem sr {id:Nat}{y:Code}{s:St}(hd:(ops.toList.all λo=>Bn s.n o.dst)=true)(h :∀K:St->Prop,(∀s,AW P k y Q s->K s)->AO P k ops (NY K Q) [] ops.toList s):AW P k (.seq (.region id ops false) y) Q s:=
 AB λK hK=>AG hd (h K hK)
def Kh:Nat->List AV->List (Nat×AV)
 | _,[]=>[]
 | i,a::r=>(i,a)::Kh (i+1) r
theorem Kg:∀(l:List AV) (i t:Nat),AX (Kh i l) t=if t<i then .Bk else (l[t-i]?).getD .Bk
 | [],i,t=>by simp[Kh,AX]
 | a::r,i,t=>by
  simp only[Kh,AX,Kg r (i+1) t];by_cases h:t=i
  ·subst h;simp
  ·by_cases h2:t<i
   ·simp[h,h2,Nat.lt_succ_of_lt h2]
   ·obtain⟨d,hd⟩ :∃d,t-i=d+1:=⟨t-i-1,by omega⟩
    have h3:¬ t<i+1:=by omega
    simp[h,h2,h3,hd,show t-(i+1)=d by omega]
theorem ai {k N:Nat}{f:FuncId}{fn:Func}{c:Code}{args:List AV}{st:List Row}{R:AV->List Row->Prop}(hf:P.funcs[f]?=some fn)(hb:fn.body=some c)(hN:fn.ntmps=N)(hn:Nat.ble args.length N=true)(hk:st.length=k)
  (h:AW P k c (QM P k fn R) ⟨N,AX (Kh 0 args),st⟩):AY P f args st R:=by
 subst hN;subst hk;refine AY.intro hf hb (Tc hn) ?_;have e:Jq args=AX (Kh 0 args):=by
  funext t;rw[Kg];simp[Jq,TH]
 rw[e];exact h
theorem zr (T:FN P){id:Nat}{y:Code}{e':Nat->AV}(h:Lu T n st ops.toList e=some e')(hd:(ops.toList.all λo=>Bn n o.dst)=true)(hk:AW P k y Q ⟨n,e',st⟩):AW P k (.seq (.region id ops false) y) Q ⟨n,e,st⟩:=
 AB λK hK=>AG hd (MO h λds=>AE (hK _ hk))
theorem dn {s:St}{K p:St->Prop}(hK :∀s,p s->K s)(hq:Q .normal s=K s)(h:p s):AO P k ops Q ds [] s:=AE (hq▸hK s h)
theorem ci {α:Type}{o:Operand}{x y:Code}{s:St}{A B C:α}(h:(if b=true then A else B)=C)(ho:Pg (s.ev o)=some b)(h1:b=true->A=C->AW P k x Q s)(h2:b=false->B=C->AW P k y Q s):AW P k (.cond o x y) Q s:=
 GX (Ha ho) (λhb=>h1 hb (by rw[<- h,Ry hb])) (λhb=>h2 hb (by rw[<- h,Rx (by rw[hb];decide)]))
theorem xi {α:Type}{p q:α->Prop}(a:α)(h:p a)(g:q a):∃a,p a/\q a:=⟨a,h,g⟩
theorem xr {α:Type}{p q:α->Prop}{a:α}(h:p a)(g:q a:=by exact And.intro rfl rfl):∃a,p a/\q a:=⟨a,h,g⟩
def PQ (e:Nat->AV):List (Nat×AV)->List AV
 | []=>[]
 | (t,_)::r=>e t::PQ e r
def O1:List (Nat×AV)->List AV
 | []=>[]
 | (_,v)::r=>v::O1 r
theorem JK {e:Nat->AV}:∀{L:List (Nat×AV)},PQ e L=O1 L->ME e L
 | [],_=>trivial
 | (t,v)::r,h=>by
  simp only[PQ,O1,Ty]at h;exact⟨JY h.1,JK h.2⟩
theorem AD {L:List (Nat×AV)}(h:PQ e L=O1 L):Wk k ⟨n,e,st⟩ ⟨n,AX L,st⟩:=AR (JK h)
theorem Ai (L:List (Nat×AV))(h:PQ (λt=>Ez [] (e t)) L=O1 L):Wk 0 ⟨n,e,st⟩ ⟨n,AX L,[]⟩:=
 Ab (L:=L) (st':=[]) (st1:=[]) [] rfl .nil (by decide) rfl rfl .nil (JK h)
end
end Go.Abs
