import Derived.Test.YtobjlimoekffaaaGreatAbsW

namespace Go.Abs
open Go
structure Je (P:Program) where
 t:List (Nat×Bool×Nat)
 f:List (Nat×Nat×Nat)
 v:List (Nat×Nat×Nat×Bool×Nat)
 b:List Nat
 s:List Nat
 ht:(t.all fun x=>decide (CY P x.1=some x.2))=true
 hf:(f.all fun x=>decide (P7 P x.1 x.2.1=some x.2.2))=true
 hv:(v.all fun x=>decide (P2 P x.1 x.2.1=some x.2.2))=true
 hb:(b.all fun x=>Kq P x)=true
 hs:(s.all fun x=>Df P x)=true
def look {α:Type}:List (Nat×α)→Nat→Option α
 | [],_=>none
 | (a,x) :: r,k=>bif Nat.beq a k then some x else look r k
def Ma {α:Type}:List (Nat×Nat×α)→Nat→Nat→Option α
 | [],_,_=>none
 | (a,b,x) :: r,k,m=>bif Nat.beq a k && Nat.beq b m then some x else Ma r k m
theorem Tg {α:Type} {k:Nat} {x:α} :∀{l:List (Nat×α)},look l k=some x→(k,x)∈l
 | (a,y) :: r,h=>by
  unfold look at h
  cases hb:Nat.beq a k with
  | true=>rw[hb] at h;cases h;cases Nat.eq_of_beq_eq_true hb;exact List.mem_cons_self
  | false=>rw[hb] at h;exact List.mem_cons_of_mem _ (Tg h)
theorem OP {α:Type} {k m:Nat} {x:α} :∀{l:List (Nat×Nat×α)},Ma l k m=some x→(k,m,x)∈l
 | (a,b,y) :: r,h=>by
  unfold Ma at h
  cases hb:Nat.beq a k && Nat.beq b m with
  | true=>
   rw[hb] at h;cases h
   rw[Bool.and_eq_true] at hb
   cases Nat.eq_of_beq_eq_true hb.1;cases Nat.eq_of_beq_eq_true hb.2;exact List.mem_cons_self
  | false=>rw[hb] at h;exact List.mem_cons_of_mem _ (OP h)
def has:List Nat→Nat→Bool
 | [],_=>false
 | a :: r,k=>bif Nat.beq a k then true else has r k
theorem Q6 {k:Nat} :∀{l:List Nat},has l k=true→k∈l
 | a :: r,h=>by
  unfold has at h
  cases hb:Nat.beq a k with
  | true=>cases Nat.eq_of_beq_eq_true hb;exact List.mem_cons_self
  | false=>rw[hb] at h;exact List.mem_cons_of_mem _ (Q6 h)
variable {P : Program} {T : Je P} {k m : Nat}
theorem Je.ti {x:Bool×Nat} (h:look T.t k=some x):CY P k=some x:=of_decide_eq_true (List.all_eq_true.1 T.ht _ (Tg h))
theorem TU {x:Nat} (h:Ma T.f k m=some x):P7 P k m=some x:=of_decide_eq_true (List.all_eq_true.1 T.hf _ (OP h))
theorem S7 {x:Nat×Bool×Nat} (h:Ma T.v k m=some x):P2 P k m=some x:=of_decide_eq_true (List.all_eq_true.1 T.hv _ (OP h))
theorem Je.bo (h:has T.b k=true):Kq P k=true:=List.all_eq_true.1 T.hb _ (Q6 h)
theorem Je.sl (h:has T.s k=true):Df P k=true:=List.all_eq_true.1 T.hs _ (Q6 h)
def fo:AV→Option AV
 | .EO=>none
 | .un=>some .un
 | .int k n=>some (.int k n)
 | .bool b=>some (.bool b)
 | .str s=>some (.str s)
 | .zc=>some .zc
 | .Nd=>some .Nd
 | .MG=>some .MG
 | .sl xs=>some (.sl xs)
 | .own a b c=>some (.own a b c)
 | .ptr a b c d=>some (.ptr a b c d)
 | .Bi x o=>some (.Bi x o)
 | .fn f c=>some (.fn f c)
 | .agg c=>some (.agg c)
 | .DX c=>some (.DX c)
 | .dv a b c=>some (.dv a b c)
theorem Nn {a v:AV} (h:fo a=some v):a=v:=by cases a <;> cases h <;> rfl
def arith (o:BinOp) (k:IntKind) (a b:Int):Option AV:=
 match o with
 | .add=>match k with
  | .i64=>some (i64 (Sh.w (a+b)))
  | k=>some (.int k (Sh.wk k (a+b)))
 | .sub=>match k with
  | .i64=>some (i64 (Sh.w (a - b)))
  | k=>some (.int k (Sh.wk k (a - b)))
 | .mul=>match k with
  | .i64=>some (i64 (Sh.w (a * b)))
  | k=>some (.int k (Sh.wk k (a * b)))
 | .lss=>some (.bool (decide (a < b)))
 | .leq=>some (.bool (decide (a≤b)))
 | .gtr=>some (.bool (decide (b < a)))
 | .geq=>some (.bool (decide (b≤a)))
 | .eql=>some (.bool (decide (a=b)))
 | .neq=>some (.bool (!decide (a=b)))
 | _=>none
def YL (k k':IntKind):Bool:=decide (k=k')
def ZC (T:Je P) (o:BinOp) (t:Nat):AV→AV→Option AV
 | .int k a,.int k' b=>bif YL k k' then arith o k a b else none
 | .bool p,.bool q=>bif has T.b t then (match o with
  | .eql=>some (.bool (p == q))
  | .neq=>some (.bool (p != q))
  | _=>none) else none
 | _,_=>none
def QB (xs:List (List AV)) (cs:List AV) (off:Nat):Bool×Nat→Option AV
 | (false,_)=>(cs[off]?).bind fo
 | (true,sz)=>bif Nat.ble (off+sz) cs.length then some (.agg ((cs.drop off).take sz)) else none
def Vm (g:Nat) (r:Option Row) {α:Type} (f:Row→Option α):Option α:=
 match r with
 | none=>none
 | some r=>bif Nat.beq r.gen g then f r else none
def V3 (T:Je P) (s:St) (t:Nat):AV→Option AV
 | .Bi cs off=>(look T.t t).bind (QB [] cs off)
 | .ptr id g i off=>Vm g s.st[id]? fun r=>(r.xs[i]?).bind fun cs=>(look T.t t).bind (QB [] cs off)
 | _=>none
def qE (T:Je P) (s:St):Op→Option AV
 | .move x=>fo (s.ev x)
 | .assign x=>fo (s.ev x)
 | .binOp o t x y _=>ZC T o t (s.ev x) (s.ev y)
 | .unOp .not _ x=>match s.ev x with
  | .bool p=>some (.bool (!p))
  | _=>none
 | .unOp .neg _ x=>match s.ev x with
  | .int .i64 a=>some (i64 (Sh.w (-a)))
  | _=>none
 | .extract x i=>match s.ev x with
  | .DX vs=>(vs[i]?).bind fo
  | _=>none
 | .nilCheck x=>match s.ev x with
  | .ptr id g i off=>Vm g s.st[id]? fun _=>some (.ptr id g i off)
  | .Bi cs off=>some (.Bi cs off)
  | _=>none
 | .fieldAddr t x f=>match s.ev x with
  | .Bi cs off=>(Ma T.f t f).bind fun j=>some (.Bi cs (off+j))
  | .ptr id g i off=>(Ma T.f t f).bind fun j=>Vm g s.st[id]? fun r=>bif Nat.ble (off+j) r.size then some (.ptr id g i (off+j)) else none
  | _=>none
 | .load t x=>V3 T s t (s.ev x)
 | .field t x f=>match s.ev x with
  | .agg cs=>(Ma T.v t f).bind fun i=>QB [] cs i.1 i.2
  | _=>none
 | _=>none
theorem OV {α:Type} {g:Nat} {r:Option Row} {f:Row→Option α} {v:α} (h:Vm g r f=some v) :∃el size xs,r=some ⟨g,el,size,xs⟩∧f ⟨g,el,size,xs⟩=some v:=by
 unfold Vm at h
 split at h
 ·cases h
 ·rename_i r
  cases hb:Nat.beq r.gen g with
  | true=>rw[hb] at h;cases Nat.eq_of_beq_eq_true hb;exact⟨_,_,_,rfl,h⟩
  | false=>rw[hb] at h;cases h
theorem Yk {s:St} {o:BinOp} {t t':TypeId} {x y:Operand} {v:AV} (h:ZC T o t (s.ev x) (s.ev y)=some v):AQ P s (.binOp o t x y t') v:=by
 unfold ZC at h
 split at h
 ·rename_i kk a kk' b hx hy
  cases hk:YL kk kk' with
  | false=>rw[hk] at h;cases h
  | true=>
   rw[hk] at h
   have hk':kk=kk':=of_decide_eq_true hk
   subst hk'
   simp only[cond_true] at h
   cases o <;> simp only[arith] at h
   all_goals try (cases kk <;> cases h <;> first | exact aO hx hy | exact Zr hx hy | exact Zz hx hy | exact Ya hx hy | exact Yb hx hy | exact Yt hx hy)
   all_goals first
    | (cases h;done)
    | (cases h;first | exact cQ hx hy | exact cF hx hy | exact cU hx hy | exact cj hx hy | exact cT hx hy | exact bP hx hy)
 ·rename_i p q hx hy
  cases hb:has T.b t with
  | false=>rw[hb] at h;cases h
  | true=>
   rw[hb] at h
   simp only[cond_true] at h
   cases o <;> first
    | (cases h;done)
    | (cases h;first | exact Z0 (T.bo hb) hx hy | exact aT (T.bo hb) hx hy)
 ·cases h
theorem MX {cs:List AV} {off:Nat} {i:Bool×Nat} {v:AV} (h:QB [] cs off i=some v):(i.1=false∧cs[off]?=some v)∨(i.1=true∧off+i.2≤cs.length∧v=.agg ((cs.drop off).take i.2)):=by
 obtain⟨b,sz⟩:=i
 cases b with
 | false=>
  simp only[QB] at h
  obtain⟨a,h1,h2⟩:=Option.bind_eq_some_iff.1 h
  rw[h1,Nn h2];exact .inl ⟨rfl,rfl⟩
 | true=>
  simp only[QB] at h
  cases hb:Nat.ble (off+sz) cs.length with
  | false=>rw[hb] at h;cases h
  | true=>rw[hb] at h;cases h;exact .inr ⟨rfl,Nat.le_of_ble_eq_true hb,rfl⟩
theorem X1 {s:St} {t:TypeId} {x:Operand} {v:AV} (h:V3 T s t (s.ev x)=some v):AQ P s (.load t x) v:=by
 unfold V3 at h
 split at h
 ·rename_i cs off hx
  obtain⟨⟨b,sz⟩,h1,h2⟩:=Option.bind_eq_some_iff.1 h
  rcases MX h2 with ⟨hb,h3⟩ | ⟨hb,h3,rfl⟩ <;> simp only at hb <;> subst hb
  ·exact aN (Je.ti h1) hx h3
  ·exact Ye (Je.ti h1) hx h3 rfl
 ·rename_i id g i off hx
  obtain⟨el,size,xs,hr,h⟩:=OV h
  obtain⟨cs,hi,h⟩:=Option.bind_eq_some_iff.1 h
  obtain⟨⟨b,sz⟩,h1,h2⟩:=Option.bind_eq_some_iff.1 h
  rcases MX h2 with ⟨hb,h3⟩ | ⟨hb,h3,rfl⟩ <;> simp only at hb <;> subst hb
  ·exact Bf (Je.ti h1) hx hr hi h3
  ·exact Fc (Je.ti h1) hx hr hi h3 rfl
 ·cases h
theorem UA {s:St} {op:Op} {v:AV} (h:qE T s op=some v):AQ P s op v:=by
 unfold qE at h
 split at h
 ·exact cE (Nn h)
 ·exact cI (Nn h)
 ·exact Yk h
 ·split at h
  ·rename_i hx;cases h;exact Zi hx
  ·cases h
 ·split at h
  ·rename_i hx;cases h;exact Zo hx
  ·cases h
 ·split at h
  ·rename_i vs hx
   obtain⟨a,h1,h2⟩:=Option.bind_eq_some_iff.1 h
   rw[Nn h2] at h1
   exact bx hx h1
  ·cases h
 ·split at h
  ·rename_i hx
   obtain⟨el,size,xs,hr,h⟩:=OV h
   cases h
   exact aJ hx hr
  ·rename_i hx;cases h;exact Zq hx
  ·cases h
 ·split at h
  ·rename_i hx
   obtain⟨j,h1,h2⟩:=Option.bind_eq_some_iff.1 h
   cases h2
   exact aW (TU h1) hx rfl
  ·rename_i hx
   obtain⟨j,h1,h2⟩:=Option.bind_eq_some_iff.1 h
   obtain⟨el,size,xs,hr,h2⟩:=OV h2
   simp only at h2
   cases hb:Nat.ble (_+j) size with
   | false=>rw[hb] at h2;cases h2
   | true=>rw[hb] at h2;cases h2;exact Z3 (TU h1) hx hr (Nat.le_of_ble_eq_true hb) rfl
  ·cases h
 ·exact X1 h
 ·split at h
  ·rename_i hx
   obtain⟨⟨o,b,sz⟩,h1,h2⟩:=Option.bind_eq_some_iff.1 h
   rcases MX h2 with ⟨hb,h3⟩ | ⟨hb,h3,rfl⟩ <;> simp only at hb <;> subst hb
   ·exact cJ (S7 h1) hx h3
   ·exact Z6 (S7 h1) hx h3 rfl
  ·cases h
 ·cases h
abbrev ow {α:Type} (i g:Nat) (l:List α):AV:=.own i g l.length
abbrev ro {α:Type} (g el size:Nat) (enc:α→List AV) (l:List α):Row:=⟨g,el,size,l.map enc⟩
abbrev ls {α:Type} (enc:α→List AV) (l:List α):AV:=.sl (l.map enc)
def aK:AV→Option Bool
 | .bool b=>some b
 | _=>none
theorem Oq {v:AV} {b:Bool} (h:aK v=some b):v=.bool b:=by cases v <;> cases h;rfl
def gE (ds:List (Option Tmp)) (jj:Nat) (e:Nat→AV):Option Bool:=
 match ds[jj]? with
 | some (some t)=>aK (e t)
 | _=>none
def uE (ds:List (Option Tmp)) (jj:Nat) (e:Nat→AV):Bool:=
 match ds[jj]? with
 | some (some t)=>match e t with
  | .un=>true
  | _=>false
 | _=>false
section
variable {P : Program} {k : Nat} {ops : Array Oper} {Q : Exit → St → Prop} {ds : List (Option Tmp)} {r : List Oper} {n : Nat} {e : Nat → AV} {st st' : List Row} {op : Op} {ty t' : TypeId} {ps : String} {ed : Array Edge} {d : Option Tmp} {t : Tmp} {v v' : AV}
variable {jj : Nat} {want b p : Bool} {tg : Tmp} {gd : Option (Nat × Bool)} {x y c : Operand} {KS : St → Prop}
theorem W1 (h:gE ds jj e=some b) (hb:b=want):GO ds (some (jj,want)) e:=by
 unfold gE at h
 split at h
 ·rename_i tg hj;exact A9 hj (Oq h) hb
 ·cases h
def qL (T:Je P) (s:St) (op:Op):Option AV:=bif Im op then none else qE T s op
theorem MA {s:St} (h:qL T s op=some v):Im op=false∧qE T s op=some v:=by
 unfold qL at h
 cases hl:Im op with
 | true=>rw[hl] at h;cases h
 | false=>rw[hl] at h;exact⟨rfl,h⟩
def gL (T:Je P) (ds:List (Option Tmp)) (jj:Nat) (s:St) (op:Op):Option (Bool×AV):=
 match gE ds jj s.env with
 | some b=>match qL T s op with
  | some v=>some (b,v)
  | none=>none
 | none=>none
theorem Kx {s:St} (h:gL T ds jj s op=some (b,v)):gE ds jj s.env=some b∧Im op=false∧qE T s op=some v:=by
 unfold gL at h
 split at h
 ·rename_i b' hg
  split at h
  ·rename_i v' hv
   cases h
   exact⟨hg,MA hv⟩
  ·cases h
 ·cases h
def pE (s:St) (c x:Operand):Option (Bool×AV):=
 match aK (s.ev c) with
 | some b=>match fo (s.ev x) with
  | some v=>some (b,v)
  | none=>none
 | none=>none
theorem JQ {s:St} {c x:Operand} (h:pE s c x=some (b,v)):s.ev c=.bool b∧s.ev x=v:=by
 unfold pE at h
 split at h
 ·rename_i b' hg
  split at h
  ·rename_i v' hv
   cases h
   exact⟨Oq hg,Nn hv⟩
  ·cases h
 ·cases h
theorem zq (T:Je P) (h:qL T ⟨n,e,st⟩ op=some v) (hk:AO P k ops Q (ds ++ [some t]) r ⟨n,FU e t v,st⟩):AO P k ops Q ds (⟨some t,op,ty,ps,ed,none⟩ :: r) ⟨n,e,st⟩:=A5 Aa (MA h).1 (UA (MA h).2) hk
theorem zg (T:Je P) (hb:b=want) (h:gL T ds jj ⟨n,e,st⟩ op=some (b,v)) (hk:AO P k ops Q (ds ++ [some t]) r ⟨n,FU e t v,st⟩):AO P k ops Q ds (⟨some t,op,ty,ps,ed,some (jj,want)⟩ :: r) ⟨n,e,st⟩:=A5 (W1 (Kx h).1 hb) (Kx h).2.1 (UA (Kx h).2.2) hk
theorem zz (v:AV) (h:AQ P ⟨n,e,st⟩ op v) (hl:Im op=false) (hk:AO P k ops Q (ds ++ [some t]) r ⟨n,FU e t v,st⟩):AO P k ops Q ds (⟨some t,op,ty,ps,ed,none⟩ :: r) ⟨n,e,st⟩:=A5 Aa hl h hk
theorem yq (T:Je P) (h:qL T ⟨n,e,st⟩ op=some v) (hk:DB P (ds ++ [some t]) r KS ⟨n,FU e t v,st⟩):DB P ds (⟨some t,op,ty,ps,ed,none⟩ :: r) KS ⟨n,e,st⟩:=Dk Aa (MA h).1 (UA (MA h).2) hk
theorem yg (T:Je P) (hb:b=want) (h:gL T ds jj ⟨n,e,st⟩ op=some (b,v)) (hk:DB P (ds ++ [some t]) r KS ⟨n,FU e t v,st⟩):DB P ds (⟨some t,op,ty,ps,ed,some (jj,want)⟩ :: r) KS ⟨n,e,st⟩:=Dk (W1 (Kx h).1 hb) (Kx h).2.1 (UA (Kx h).2.2) hk
theorem yz (v:AV) (h:AQ P ⟨n,e,st⟩ op v) (hl:Im op=false) (hk:DB P (ds ++ [some t]) r KS ⟨n,FU e t v,st⟩):DB P ds (⟨some t,op,ty,ps,ed,none⟩ :: r) KS ⟨n,e,st⟩:=Dk Aa hl h hk
theorem zs (hb:b=!want) (hg:gE ds jj e=some b) (h:AO P k ops Q (ds ++ [some t]) r ⟨n,FU e t .un,st⟩):AO P k ops Q ds (⟨some t,op,ty,ps,ed,some (jj,want)⟩ :: r) ⟨n,e,st⟩:=by
 unfold gE at hg
 split at hg
 ·rename_i tg hj;exact Yj hj (Oq hg) hb h
 ·cases hg
theorem ys (hb:b=!want) (hg:gE ds jj e=some b) (h:DB P (ds ++ [some t]) r KS ⟨n,FU e t .un,st⟩):DB P ds (⟨some t,op,ty,ps,ed,some (jj,want)⟩ :: r) KS ⟨n,e,st⟩:=by
 unfold gE at hg
 split at hg
 ·rename_i tg hj;exact Zy hj (Oq hg) hb h
 ·cases hg
theorem Uv (hu:uE ds jj e=true) :∃tg,ds[jj]?=some (some tg)∧e tg=.un:=by
 unfold uE at hu
 split at hu
 ·rename_i tg hj
  refine⟨tg,hj,?_⟩
  cases he:e tg <;> rw[he] at hu <;> cases hu
 ·cases hu
theorem zn (hu:uE ds jj e=true) (h:AO P k ops Q (ds ++ [some t]) r ⟨n,FU e t .un,st⟩):AO P k ops Q ds (⟨some t,op,ty,ps,ed,some (jj,want)⟩ :: r) ⟨n,e,st⟩:=by
 obtain⟨tg,h1,h2⟩:=Uv hu
 exact YI h1 h2 h
theorem yn (hu:uE ds jj e=true) (h:DB P (ds ++ [some t]) r KS ⟨n,FU e t .un,st⟩):DB P ds (⟨some t,op,ty,ps,ed,some (jj,want)⟩ :: r) KS ⟨n,e,st⟩:=by
 obtain⟨tg,h1,h2⟩:=Uv hu
 exact Z8 h1 h2 h
def U7 (T:Je P) (n:Nat) (st:List Row):List Oper→(Nat→AV)→Option (Nat→AV)
 | [],e=>some e
 | ⟨some t,op,_,_,_,none⟩ :: r,e=>match qL T ⟨n,e,st⟩ op with
  | some v=>U7 T n st r (FU e t v)
  | none=>none
 | _,_=>none
theorem Ul {T:Je P} :∀{l:List Oper} {e e':Nat→AV} {ds:List (Option Tmp)},U7 T n st l e=some e'→(∀ds,AO P k ops Q ds [] ⟨n,e',st⟩)→AO P k ops Q ds l ⟨n,e,st⟩
 | [],e,e',ds,h,hk=>by
  simp only[U7,Option.some.injEq] at h
  subst h;exact hk ds
 | o :: r,e,e',ds,h,hk=>by
  unfold U7 at h
  split at h
  ·rename_i h0;cases h0
  ·rename_i t op ty ps ed r' e0 h0
   cases h0
   split at h
   ·rename_i v hv;exact zq T hv (Ul h hk)
   ·cases h
  ·cases h
def runN (T:Je P) (n:Nat) (st:List Row):Nat→List Oper→List (Option Tmp)→(Nat→AV)→Option (List Oper×List (Option Tmp)×(Nat→AV))
 | 0,l,ds,e=>some (l,ds,e)
 | m+1,⟨some t,op,_,_,_,none⟩ :: r,ds,e=>match qL T ⟨n,e,st⟩ op with
  | some v=>runN T n st m r (ds ++ [some t]) (FU e t v)
  | none=>none
 | _,_,_,_=>none
theorem zm (T:Je P) :∀(m:Nat) {l l':List Oper} {e e':Nat→AV} {ds ds':List (Option Tmp)},runN T n st m l ds e=some (l',ds',e')→AO P k ops Q ds' l' ⟨n,e',st⟩→AO P k ops Q ds l ⟨n,e,st⟩
 | 0,l,l',e,e',ds,ds',h,hk=>by
  simp only[runN,Option.some.injEq,Prod.mk.injEq] at h
  obtain⟨rfl,rfl,rfl⟩:=h;exact hk
 | m+1,[],l',e,e',ds,ds',h,hk=>by simp[runN] at h
 | m+1,o :: r,l',e,e',ds,ds',h,hk=>by
  unfold runN at h
  split at h
  ·rename_i h0;cases h0
  ·rename_i m0 t op ty ps ed r' hm h0
   cases h0;cases hm
   split at h
   ·rename_i v hv;exact zq T hv (zm T m h hk)
   ·cases h
  ·cases h
theorem zt (hp:p=true) (h:pE ⟨n,e,st⟩ c x=some (p,v)) (hk:AO P k ops Q (ds ++ [some t]) r ⟨n,FU e t v,st⟩):AO P k ops Q ds (⟨some t,.pick c x y,ty,ps,ed,none⟩ :: r) ⟨n,e,st⟩:=A5 Aa rfl (Br (JQ h).1 hp (JQ h).2) hk
theorem zf (hp:p=false) (h:pE ⟨n,e,st⟩ c y=some (p,v)) (hk:AO P k ops Q (ds ++ [some t]) r ⟨n,FU e t v,st⟩):AO P k ops Q ds (⟨some t,.pick c x y,ty,ps,ed,none⟩ :: r) ⟨n,e,st⟩:=A5 Aa rfl (CE (JQ h).1 hp (JQ h).2) hk
theorem yt (hp:p=true) (h:pE ⟨n,e,st⟩ c x=some (p,v)) (hk:DB P (ds ++ [some t]) r KS ⟨n,FU e t v,st⟩):DB P ds (⟨some t,.pick c x y,ty,ps,ed,none⟩ :: r) KS ⟨n,e,st⟩:=Dk Aa rfl (Br (JQ h).1 hp (JQ h).2) hk
theorem yf (hp:p=false) (h:pE ⟨n,e,st⟩ c y=some (p,v)) (hk:DB P (ds ++ [some t]) r KS ⟨n,FU e t v,st⟩):DB P ds (⟨some t,.pick c x y,ty,ps,ed,none⟩ :: r) KS ⟨n,e,st⟩:=Dk Aa rfl (CE (JQ h).1 hp (JQ h).2) hk
variable {α : Type} {l : List α} {enc : α → List AV} {kk : IntKind} {j : Int} {u : α} {el size bytes : Nat} {zz : List AV}
theorem zl (T:Je P) (hs:has T.s t'=true) (hx:St.ev ⟨n,e,st⟩ x=.sl (l.map enc)) (hk:AO P k ops Q (ds ++ [some t]) r ⟨n,FU e t (i64 (Sh.len l)),st⟩):AO P k ops Q ds (⟨some t,.call ⟨.builtin .len,#[x],#[t']⟩,ty,ps,ed,none⟩ :: r) ⟨n,e,st⟩:=A5 Aa rfl (BL (T.sl hs) hx) hk
theorem yl (T:Je P) (hs:has T.s t'=true) (hx:St.ev ⟨n,e,st⟩ x=.sl (l.map enc)) (hk:DB P (ds ++ [some t]) r KS ⟨n,FU e t (i64 (Sh.len l)),st⟩):DB P ds (⟨some t,.call ⟨.builtin .len,#[x],#[t']⟩,ty,ps,ed,none⟩ :: r) KS ⟨n,e,st⟩:=Dk Aa rfl (BL (T.sl hs) hx) hk
theorem zx (he:Cn P t'=some ⟨el,size,bytes,zz⟩) (hg:Sh.get l j=some u) (hx:St.ev ⟨n,e,st⟩ x=.sl (l.map enc)) (hy:St.ev ⟨n,e,st⟩ y=.int kk j) (hs:(enc u).length=size) (hk:AO P k ops Q (ds ++ [some t]) r ⟨n,FU e t (.Bi (enc u) 0),st⟩):AO P k ops Q ds (⟨some t,.indexAddr t' x y,ty,ps,ed,none⟩ :: r) ⟨n,e,st⟩:=A5 Aa rfl (Bh he hx hy hg hs) hk
theorem yx (he:Cn P t'=some ⟨el,size,bytes,zz⟩) (hg:Sh.get l j=some u) (hx:St.ev ⟨n,e,st⟩ x=.sl (l.map enc)) (hy:St.ev ⟨n,e,st⟩ y=.int kk j) (hs:(enc u).length=size) (hk:DB P (ds ++ [some t]) r KS ⟨n,FU e t (.Bi (enc u) 0),st⟩):DB P ds (⟨some t,.indexAddr t' x y,ty,ps,ed,none⟩ :: r) KS ⟨n,e,st⟩:=Dk Aa rfl (Bh he hx hy hg hs) hk
variable {f : FuncId} {ars : Array Operand} {ts : Array TypeId} {args : List AV}
theorem zd (hbw:b=want) (hb:AZ P f=true) (hc:AY P f args [] fun r st=>r=v∧st=[]) (ha:ars.toList.map (St.ev ⟨n,e,st⟩) ++ []=args) (hf:args.all flat=true) (hv:fo (shift st.length v)=some v')
  (hg:gE ds jj e=some b) (hk:AO P k ops Q (ds ++ [d]) r (St.put ⟨n,e,st⟩ d v')):AO P k ops Q ds (⟨d,.call ⟨.value (.func f),ars,ts⟩,ty,ps,ed,some (jj,want)⟩ :: r) ⟨n,e,st⟩:=
 BN (W1 hg hbw) hb hc ha hf trivial (Nn hv) (List.append_nil st) hk
theorem zc (hb:AZ P f=true) (hc:AY P f args [] fun r st=>r=v∧st=[]) (ha:ars.toList.map (St.ev ⟨n,e,st⟩) ++ []=args) (hf:args.all flat=true) (hv:fo (shift st.length v)=some v')
  (hk:AO P k ops Q (ds ++ [d]) r (St.put ⟨n,e,st⟩ d v')):AO P k ops Q ds (⟨d,.call ⟨.value (.func f),ars,ts⟩,ty,ps,ed,none⟩ :: r) ⟨n,e,st⟩:=
 BN Aa hb hc ha hf trivial (Nn hv) (List.append_nil st) hk
theorem sr {id:Nat} {y:Code} {s:St} (hd:(ops.toList.all fun o=>Ev s.n o.dst)=true) (h :∀K:St→Prop,(∀s,AW P k y Q s→K s)→AO P k ops (UY K Q) [] ops.toList s):AW P k (.seq (.region id ops false) y) Q s:=
 AB fun K hK=>AF hd (h K hK)
def TN:Nat→List AV→List (Nat×AV)
 | _,[]=>[]
 | i,a :: r=>(i,a) :: TN (i+1) r
theorem TV :∀(l:List AV) (i t:Nat),AS (TN i l) t=if t < i then .EO else (l[t - i]?).getD .EO
 | [],i,t=>by simp[TN,AS]
 | a :: r,i,t=>by
  simp only[TN,AS,TV r (i+1) t]
  by_cases h:t=i
  ·subst h;simp
  ·by_cases h2:t < i
   ·simp[h,h2,Nat.lt_succ_of_lt h2]
   ·obtain⟨d,hd⟩ :∃d,t - i=d+1:=⟨t - i - 1,by omega⟩
    have h3:¬ t < i+1:=by omega
    simp[h,h2,h3,hd,show t - (i+1)=d by omega]
theorem ai {k N:Nat} {f:FuncId} {fn:Func} {c:Code} {args:List AV} {st:List Row} {R:AV→List Row→Prop} (hf:P.funcs[f]?=some fn) (hb:fn.body=some c) (hN:fn.ntmps=N) (hn:Nat.ble args.length N=true) (hk:st.length=k)
  (h:AW P k c (aq P k fn R) ⟨N,AS (TN 0 args),st⟩):AY P f args st R:=by
 subst hN;subst hk
 refine AY.intro hf hb (Nat.le_of_ble_eq_true hn) ?_
 have e:SH args=AS (TN 0 args):=by
  funext t
  rw[TV]
  simp[SH,List.getD_eq_getElem?_getD]
 rw[e];exact h
theorem zr (T:Je P) {id:Nat} {y:Code} {e':Nat→AV} (h:U7 T n st ops.toList e=some e') (hd:(ops.toList.all fun o=>Ev n o.dst)=true) (hk:AW P k y Q ⟨n,e',st⟩):AW P k (.seq (.region id ops false) y) Q ⟨n,e,st⟩:=
 AB fun K hK=>AF hd (Ul h fun ds=>AD (hK _ hk))
theorem dn {s:St} {K p:St→Prop} (hK :∀s,p s→K s) (hq:Q .normal s=K s) (h:p s):AO P k ops Q ds [] s:=AD (hq ▸ hK s h)
theorem ci {α:Type} {o:Operand} {x y:Code} {s:St} {A B C:α} (h:(if b=true then A else B)=C) (ho:aK (s.ev o)=some b) (h1:b=true→A=C→AW P k x Q s) (h2:b=false→B=C→AW P k y Q s):AW P k (.cond o x y) Q s:=
 Mm (Oq ho) (fun hb=>h1 hb (by rw[← h,if_pos hb])) (fun hb=>h2 hb (by rw[← h,if_neg (by rw[hb];decide)]))
theorem bs {α β:Type} {x:Option α} {f:α→Option β} {r:β} {G:Prop} (h:x.bind f=some r) (k :∀v,x=some v→f v=some r→G):G:=
 let ⟨v,h1,h2⟩:=Sh.bind_some h;k v h1 h2
theorem xi {α:Type} {p q:α→Prop} (a:α) (h:p a) (g:q a) :∃a,p a∧q a:=⟨a,h,g⟩
theorem xr {α:Type} {p q:α→Prop} {a:α} (h:p a) (g:q a:=by exact And.intro rfl rfl) :∃a,p a∧q a:=⟨a,h,g⟩
def Yq (e:Nat→AV):List (Nat×AV)→List AV
 | []=>[]
 | (t,_) :: r=>e t :: Yq e r
def Yz:List (Nat×AV)→List AV
 | []=>[]
 | (_,v) :: r=>v :: Yz r
theorem ME.of {e:Nat→AV} :∀{L:List (Nat×AV)},Yq e L=Yz L→ME e L
 | [],_=>trivial
 | (t,v) :: r,h=>by
  simp only[Yq,Yz,List.cons.injEq] at h
  exact⟨le.of h.1,ME.of h.2⟩
theorem AE {L:List (Nat×AV)} (h:Yq e L=Yz L):Wk k ⟨n,e,st⟩ ⟨n,AS L,st⟩:=AM (ME.of h)
theorem AR (L:List (Nat×AV)) (h:Yq (fun t=>Jv [] (e t)) L=Yz L):Wk 0 ⟨n,e,st⟩ ⟨n,AS L,[]⟩:=
 AN (L:=L) (st':=[]) (st1:=[]) [] rfl .nil (by decide) rfl rfl .nil (ME.of h)
end
end Go.Abs

