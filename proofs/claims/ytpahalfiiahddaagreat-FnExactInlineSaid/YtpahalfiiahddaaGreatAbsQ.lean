import Derived.Test.YtpahalfiiahddaaGreatAbsW

namespace Go.Abs
open Go
structure Kg (P:Program) where
 t:List (Nat×Bool×Nat)
 f:List (Nat×Nat×Nat)
 v:List (Nat×Nat×Nat×Bool×Nat)
 b:List Nat
 s:List Nat
 ht:(t.all fun x=>decide (Ch P x.1=some x.2))=true
 hf:(f.all fun x=>decide (HR P x.1 x.2.1=some x.2.2))=true
 hv:(v.all fun x=>decide (Rx P x.1 x.2.1=some x.2.2))=true
 hb:(b.all fun x=>L0 P x)=true
 hs:(s.all fun x=>Cx P x)=true
def look {α:Type}:List (Nat×α)→Nat→Option α
 | [],_=>none
 | (a,x) :: r,k=>bif Nat.beq a k then some x else look r k
def OB {α:Type}:List (Nat×Nat×α)→Nat→Nat→Option α
 | [],_,_=>none
 | (a,b,x) :: r,k,m=>bif Nat.beq a k && Nat.beq b m then some x else OB r k m
theorem VO {α:Type} {k:Nat} {x:α} :∀{l:List (Nat×α)},look l k=some x→(k,x)∈l
 | (a,y) :: r,h=>by
  unfold look at h
  cases hb:Nat.beq a k with
  | true=>rw[hb] at h;cases h;cases Nat.eq_of_beq_eq_true hb;exact List.mem_cons_self
  | false=>rw[hb] at h;exact List.mem_cons_of_mem _ (VO h)
theorem Pk {α:Type} {k m:Nat} {x:α} :∀{l:List (Nat×Nat×α)},OB l k m=some x→(k,m,x)∈l
 | (a,b,y) :: r,h=>by
  unfold OB at h
  cases hb:Nat.beq a k && Nat.beq b m with
  | true=>
   rw[hb] at h;cases h
   rw[Bool.and_eq_true] at hb
   cases Nat.eq_of_beq_eq_true hb.1;cases Nat.eq_of_beq_eq_true hb.2;exact List.mem_cons_self
  | false=>rw[hb] at h;exact List.mem_cons_of_mem _ (Pk h)
def has:List Nat→Nat→Bool
 | [],_=>false
 | a :: r,k=>bif Nat.beq a k then true else has r k
theorem Um {k:Nat} :∀{l:List Nat},has l k=true→k∈l
 | a :: r,h=>by
  unfold has at h
  cases hb:Nat.beq a k with
  | true=>cases Nat.eq_of_beq_eq_true hb;exact List.mem_cons_self
  | false=>rw[hb] at h;exact List.mem_cons_of_mem _ (Um h)
variable {P : Program} {T : Kg P} {k m : Nat}
theorem Oc {x:Bool×Nat} (h:look T.t k=some x):Ch P k=some x:=of_decide_eq_true (List.all_eq_true.1 T.ht _ (VO h))
theorem Vq {x:Nat} (h:OB T.f k m=some x):HR P k m=some x:=of_decide_eq_true (List.all_eq_true.1 T.hf _ (Pk h))
theorem VW {x:Nat×Bool×Nat} (h:OB T.v k m=some x):Rx P k m=some x:=of_decide_eq_true (List.all_eq_true.1 T.hv _ (Pk h))
theorem Kg.bo (h:has T.b k=true):L0 P k=true:=List.all_eq_true.1 T.hb _ (Um h)
theorem Kg.sl (h:has T.s k=true):Cx P k=true:=List.all_eq_true.1 T.hs _ (Um h)
def fo:AV→Option AV
 | .Eu=>none
 | .un=>some .un
 | .int k n=>some (.int k n)
 | .bool b=>some (.bool b)
 | .str s=>some (.str s)
 | .zc=>some .zc
 | .PG=>some .PG
 | .O1=>some .O1
 | .sl xs=>some (.sl xs)
 | .own a b c=>some (.own a b c)
 | .ptr a b c d=>some (.ptr a b c d)
 | .Bd x o=>some (.Bd x o)
 | .fn f c=>some (.fn f c)
 | .agg c=>some (.agg c)
 | .DE c=>some (.DE c)
 | .dv a b c=>some (.dv a b c)
theorem Pc {a v:AV} (h:fo a=some v):a=v:=by cases a <;> cases h <;> rfl
def arith (o:BinOp) (k:IntKind) (a b:Int):Option AV:=
 match o with
 | .add=>match k with
  | .i64=>some (i64 (Sh.w (a+b)))
  | k=>some (.int k (Sh.wk k (a+b)))
 | .sub=>match k with
  | .i64=>some (i64 (Sh.w (a - b)))
  | k=>some (.int k (Sh.wk k (a - b)))
 | .mul=>match k with
  | .i64=>some (i64 (Sh.w (a * b)))
  | k=>some (.int k (Sh.wk k (a * b)))
 | .lss=>some (.bool (decide (a < b)))
 | .leq=>some (.bool (decide (a≤b)))
 | .gtr=>some (.bool (decide (b < a)))
 | .geq=>some (.bool (decide (b≤a)))
 | .eql=>some (.bool (decide (a=b)))
 | .neq=>some (.bool (!decide (a=b)))
 | _=>none
def ab (k k':IntKind):Bool:=decide (k=k')
def bY (T:Kg P) (o:BinOp) (t:Nat):AV→AV→Option AV
 | .int k a,.int k' b=>bif ab k k' then arith o k a b else none
 | .bool p,.bool q=>bif has T.b t then (match o with
  | .eql=>some (.bool (p == q))
  | .neq=>some (.bool (p != q))
  | _=>none) else none
 | _,_=>none
def Rt (xs:List (List AV)) (cs:List AV) (off:Nat):Bool×Nat→Option AV
 | (false,_)=>(cs[off]?).bind fo
 | (true,sz)=>bif Nat.ble (off+sz) cs.length then some (.agg ((cs.drop off).take sz)) else none
def Xz (g:Nat) (r:Option Row) {α:Type} (f:Row→Option α):Option α:=
 match r with
 | none=>none
 | some r=>bif Nat.beq r.gen g then f r else none
def ZC (T:Kg P) (s:St) (t:Nat):AV→Option AV
 | .Bd cs off=>(look T.t t).bind (Rt [] cs off)
 | .ptr id g i off=>Xz g s.st[id]? fun r=>(r.xs[i]?).bind fun cs=>(look T.t t).bind (Rt [] cs off)
 | _=>none
def qE (T:Kg P) (s:St):Op→Option AV
 | .move x=>fo (s.ev x)
 | .assign x=>fo (s.ev x)
 | .binOp o t x y _=>bY T o t (s.ev x) (s.ev y)
 | .unOp .not _ x=>match s.ev x with
  | .bool p=>some (.bool (!p))
  | _=>none
 | .unOp .neg _ x=>match s.ev x with
  | .int .i64 a=>some (i64 (Sh.w (-a)))
  | _=>none
 | .extract x i=>match s.ev x with
  | .DE vs=>(vs[i]?).bind fo
  | _=>none
 | .nilCheck x=>match s.ev x with
  | .ptr id g i off=>Xz g s.st[id]? fun _=>some (.ptr id g i off)
  | .Bd cs off=>some (.Bd cs off)
  | _=>none
 | .fieldAddr t x f=>match s.ev x with
  | .Bd cs off=>(OB T.f t f).bind fun j=>some (.Bd cs (off+j))
  | .ptr id g i off=>(OB T.f t f).bind fun j=>Xz g s.st[id]? fun r=>bif Nat.ble (off+j) r.size then some (.ptr id g i (off+j)) else none
  | _=>none
 | .load t x=>ZC T s t (s.ev x)
 | .field t x f=>match s.ev x with
  | .agg cs=>(OB T.v t f).bind fun i=>Rt [] cs i.1 i.2
  | _=>none
 | _=>none
theorem Pn {α:Type} {g:Nat} {r:Option Row} {f:Row→Option α} {v:α} (h:Xz g r f=some v) :∃el size xs,r=some ⟨g,el,size,xs⟩∧f ⟨g,el,size,xs⟩=some v:=by
 unfold Xz at h
 split at h
 ·cases h
 ·rename_i r
  cases hb:Nat.beq r.gen g with
  | true=>rw[hb] at h;cases Nat.eq_of_beq_eq_true hb;exact⟨_,_,_,rfl,h⟩
  | false=>rw[hb] at h;cases h
theorem ar {s:St} {o:BinOp} {t t':TypeId} {x y:Operand} {v:AV} (h:bY T o t (s.ev x) (s.ev y)=some v):AQ P s (.binOp o t x y t') v:=by
 unfold bY at h
 split at h
 ·rename_i kk a kk' b hx hy
  cases hk:ab kk kk' with
  | false=>rw[hk] at h;cases h
  | true=>
   rw[hk] at h
   have hk':kk=kk':=of_decide_eq_true hk
   subst hk'
   simp only[cond_true] at h
   cases o <;> simp only[arith] at h
   all_goals try (cases kk <;> cases h <;> first | exact Wm hx hy | exact dL hx hy | exact cm hx hy | exact bC hx hy | exact cG hx hy | exact bZ hx hy)
   all_goals first
    | (cases h;done)
    | (cases h;first | exact Yt hx hy | exact eC hx hy | exact eR hx hy | exact eV hx hy | exact eH hx hy | exact eT hx hy)
 ·rename_i p q hx hy
  cases hb:has T.b t with
  | false=>rw[hb] at h;cases h
  | true=>
   rw[hb] at h
   simp only[cond_true] at h
   cases o <;> first
    | (cases h;done)
    | (cases h;first | exact cn (T.bo hb) hx hy | exact dQ (T.bo hb) hx hy)
 ·cases h
theorem Nm {cs:List AV} {off:Nat} {i:Bool×Nat} {v:AV} (h:Rt [] cs off i=some v):(i.1=false∧cs[off]?=some v)∨(i.1=true∧off+i.2≤cs.length∧v=.agg ((cs.drop off).take i.2)):=by
 obtain⟨b,sz⟩:=i
 cases b with
 | false=>
  simp only[Rt] at h
  obtain⟨a,h1,h2⟩:=Option.bind_eq_some_iff.1 h
  rw[h1,Pc h2];exact .inl ⟨rfl,rfl⟩
 | true=>
  simp only[Rt] at h
  cases hb:Nat.ble (off+sz) cs.length with
  | false=>rw[hb] at h;cases h
  | true=>rw[hb] at h;cases h;exact .inr ⟨rfl,Nat.le_of_ble_eq_true hb,rfl⟩
theorem aB {s:St} {t:TypeId} {x:Operand} {v:AV} (h:ZC T s t (s.ev x)=some v):AQ P s (.load t x) v:=by
 unfold ZC at h
 split at h
 ·rename_i cs off hx
  obtain⟨⟨b,sz⟩,h1,h2⟩:=Option.bind_eq_some_iff.1 h
  rcases Nm h2 with ⟨hb,h3⟩ | ⟨hb,h3,rfl⟩ <;> simp only at hb <;> subst hb
  ·exact dF (Oc h1) hx h3
  ·exact XH (Oc h1) hx h3 rfl
 ·rename_i id g i off hx
  obtain⟨el,size,xs,hr,h⟩:=Pn h
  obtain⟨cs,hi,h⟩:=Option.bind_eq_some_iff.1 h
  obtain⟨⟨b,sz⟩,h1,h2⟩:=Option.bind_eq_some_iff.1 h
  rcases Nm h2 with ⟨hb,h3⟩ | ⟨hb,h3,rfl⟩ <;> simp only at hb <;> subst hb
  ·exact CZ (Oc h1) hx hr hi h3
  ·exact BM (Oc h1) hx hr hi h3 rfl
 ·cases h
theorem WQ {s:St} {op:Op} {v:AV} (h:qE T s op=some v):AQ P s op v:=by
 unfold qE at h
 split at h
 ·exact KJ (Pc h)
 ·exact SH (Pc h)
 ·exact ar h
 ·split at h
  ·rename_i hx;cases h;exact cX hx
  ·cases h
 ·split at h
  ·rename_i hx;cases h;exact dY hx
  ·cases h
 ·split at h
  ·rename_i vs hx
   obtain⟨a,h1,h2⟩:=Option.bind_eq_some_iff.1 h
   rw[Pc h2] at h1
   exact eY hx h1
  ·cases h
 ·split at h
  ·rename_i hx
   obtain⟨el,size,xs,hr,h⟩:=Pn h
   cases h
   exact cq hx hr
  ·rename_i hx;cases h;exact dX hx
  ·cases h
 ·split at h
  ·rename_i hx
   obtain⟨j,h1,h2⟩:=Option.bind_eq_some_iff.1 h
   cases h2
   exact dA (Vq h1) hx rfl
  ·rename_i hx
   obtain⟨j,h1,h2⟩:=Option.bind_eq_some_iff.1 h
   obtain⟨el,size,xs,hr,h2⟩:=Pn h2
   simp only at h2
   cases hb:Nat.ble (_+j) size with
   | false=>rw[hb] at h2;cases h2
   | true=>rw[hb] at h2;cases h2;exact Hu (Vq h1) hx hr (Nat.le_of_ble_eq_true hb) rfl
  ·cases h
 ·exact aB h
 ·split at h
  ·rename_i hx
   obtain⟨⟨o,b,sz⟩,h1,h2⟩:=Option.bind_eq_some_iff.1 h
   rcases Nm h2 with ⟨hb,h3⟩ | ⟨hb,h3,rfl⟩ <;> simp only at hb <;> subst hb
   ·exact eE (VW h1) hx h3
   ·exact dG (VW h1) hx h3 rfl
  ·cases h
 ·cases h
abbrev ow {α:Type} (i g:Nat) (l:List α):AV:=.own i g l.length
abbrev ro {α:Type} (g el size:Nat) (enc:α→List AV) (l:List α):Row:=⟨g,el,size,l.map enc⟩
abbrev ls {α:Type} (enc:α→List AV) (l:List α):AV:=.sl (l.map enc)
def cu:AV→Option Bool
 | .bool b=>some b
 | _=>none
theorem Qy {v:AV} {b:Bool} (h:cu v=some b):v=.bool b:=by cases v <;> cases h;rfl
def gE (ds:List (Option Tmp)) (jj:Nat) (e:Nat→AV):Option Bool:=
 match ds[jj]? with
 | some (some t)=>cu (e t)
 | _=>none
def uE (ds:List (Option Tmp)) (jj:Nat) (e:Nat→AV):Bool:=
 match ds[jj]? with
 | some (some t)=>match e t with
  | .un=>true
  | _=>false
 | _=>false
section
variable {P : Program} {k : Nat} {ops : Array Oper} {Q : Exit → St → Prop} {ds : List (Option Tmp)} {r : List Oper} {n : Nat} {e : Nat → AV} {st st' : List Row} {op : Op} {ty t' : TypeId} {ps : String} {ed : Array Edge} {d : Option Tmp} {t : Tmp} {v v' : AV}
variable {jj : Nat} {want b p : Bool} {tg : Tmp} {gd : Option (Nat × Bool)} {x y c : Operand} {KS : St → Prop}
theorem YR (h:gE ds jj e=some b) (hb:b=want):GO ds (some (jj,want)) e:=by
 unfold gE at h
 split at h
 ·rename_i tg hj;exact DT hj (Qy h) hb
 ·cases h
def qL (T:Kg P) (s:St) (op:Op):Option AV:=bif Iw op then none else qE T s op
theorem Nx {s:St} (h:qL T s op=some v):Iw op=false∧qE T s op=some v:=by
 unfold qL at h
 cases hl:Iw op with
 | true=>rw[hl] at h;cases h
 | false=>rw[hl] at h;exact⟨rfl,h⟩
def gL (T:Kg P) (ds:List (Option Tmp)) (jj:Nat) (s:St) (op:Op):Option (Bool×AV):=
 match gE ds jj s.env with
 | some b=>match qL T s op with
  | some v=>some (b,v)
  | none=>none
 | none=>none
theorem Lx {s:St} (h:gL T ds jj s op=some (b,v)):gE ds jj s.env=some b∧Iw op=false∧qE T s op=some v:=by
 unfold gL at h
 split at h
 ·rename_i b' hg
  split at h
  ·rename_i v' hv
   cases h
   exact⟨hg,Nx hv⟩
  ·cases h
 ·cases h
def pE (s:St) (c x:Operand):Option (Bool×AV):=
 match cu (s.ev c) with
 | some b=>match fo (s.ev x) with
  | some v=>some (b,v)
  | none=>none
 | none=>none
theorem KD {s:St} {c x:Operand} (h:pE s c x=some (b,v)):s.ev c=.bool b∧s.ev x=v:=by
 unfold pE at h
 split at h
 ·rename_i b' hg
  split at h
  ·rename_i v' hv
   cases h
   exact⟨Qy hg,Pc hv⟩
  ·cases h
 ·cases h
theorem zq (T:Kg P) (h:qL T ⟨n,e,st⟩ op=some v) (hk:AO P k ops Q (ds ++ [some t]) r ⟨n,Dh e t v,st⟩):AO P k ops Q ds (⟨some t,op,ty,ps,ed,none⟩ :: r) ⟨n,e,st⟩:=BH Ac (Nx h).1 (WQ (Nx h).2) hk
theorem zg (T:Kg P) (hb:b=want) (h:gL T ds jj ⟨n,e,st⟩ op=some (b,v)) (hk:AO P k ops Q (ds ++ [some t]) r ⟨n,Dh e t v,st⟩):AO P k ops Q ds (⟨some t,op,ty,ps,ed,some (jj,want)⟩ :: r) ⟨n,e,st⟩:=BH (YR (Lx h).1 hb) (Lx h).2.1 (WQ (Lx h).2.2) hk
theorem zz (v:AV) (h:AQ P ⟨n,e,st⟩ op v) (hl:Iw op=false) (hk:AO P k ops Q (ds ++ [some t]) r ⟨n,Dh e t v,st⟩):AO P k ops Q ds (⟨some t,op,ty,ps,ed,none⟩ :: r) ⟨n,e,st⟩:=BH Ac hl h hk
theorem yq (T:Kg P) (h:qL T ⟨n,e,st⟩ op=some v) (hk:DF P (ds ++ [some t]) r KS ⟨n,Dh e t v,st⟩):DF P ds (⟨some t,op,ty,ps,ed,none⟩ :: r) KS ⟨n,e,st⟩:=Kh Ac (Nx h).1 (WQ (Nx h).2) hk
theorem yg (T:Kg P) (hb:b=want) (h:gL T ds jj ⟨n,e,st⟩ op=some (b,v)) (hk:DF P (ds ++ [some t]) r KS ⟨n,Dh e t v,st⟩):DF P ds (⟨some t,op,ty,ps,ed,some (jj,want)⟩ :: r) KS ⟨n,e,st⟩:=Kh (YR (Lx h).1 hb) (Lx h).2.1 (WQ (Lx h).2.2) hk
theorem yz (v:AV) (h:AQ P ⟨n,e,st⟩ op v) (hl:Iw op=false) (hk:DF P (ds ++ [some t]) r KS ⟨n,Dh e t v,st⟩):DF P ds (⟨some t,op,ty,ps,ed,none⟩ :: r) KS ⟨n,e,st⟩:=Kh Ac hl h hk
theorem zs (hb:b=!want) (hg:gE ds jj e=some b) (h:AO P k ops Q (ds ++ [some t]) r ⟨n,Dh e t .un,st⟩):AO P k ops Q ds (⟨some t,op,ty,ps,ed,some (jj,want)⟩ :: r) ⟨n,e,st⟩:=by
 unfold gE at hg
 split at hg
 ·rename_i tg hj;exact ay hj (Qy hg) hb h
 ·cases hg
theorem ys (hb:b=!want) (hg:gE ds jj e=some b) (h:DF P (ds ++ [some t]) r KS ⟨n,Dh e t .un,st⟩):DF P ds (⟨some t,op,ty,ps,ed,some (jj,want)⟩ :: r) KS ⟨n,e,st⟩:=by
 unfold gE at hg
 split at hg
 ·rename_i tg hj;exact ct hj (Qy hg) hb h
 ·cases hg
theorem bQ (hu:uE ds jj e=true) :∃tg,ds[jj]?=some (some tg)∧e tg=.un:=by
 unfold uE at hu
 split at hu
 ·rename_i tg hj
  refine⟨tg,hj,?_⟩
  cases he:e tg <;> rw[he] at hu <;> cases hu
 ·cases hu
theorem zn (hu:uE ds jj e=true) (h:AO P k ops Q (ds ++ [some t]) r ⟨n,Dh e t .un,st⟩):AO P k ops Q ds (⟨some t,op,ty,ps,ed,some (jj,want)⟩ :: r) ⟨n,e,st⟩:=by
 obtain⟨tg,h1,h2⟩:=bQ hu
 exact cF h1 h2 h
def XA (T:Kg P) (n:Nat) (st:List Row):List Oper→(Nat→AV)→Option (Nat→AV)
 | [],e=>some e
 | ⟨some t,op,_,_,_,none⟩ :: r,e=>match qL T ⟨n,e,st⟩ op with
  | some v=>XA T n st r (Dh e t v)
  | none=>none
 | _,_=>none
theorem X3 {T:Kg P} :∀{l:List Oper} {e e':Nat→AV} {ds:List (Option Tmp)},XA T n st l e=some e'→(∀ds,AO P k ops Q ds [] ⟨n,e',st⟩)→AO P k ops Q ds l ⟨n,e,st⟩
 | [],e,e',ds,h,hk=>by
  simp only[XA,Option.some.injEq] at h
  subst h;exact hk ds
 | o :: r,e,e',ds,h,hk=>by
  unfold XA at h
  split at h
  ·rename_i h0;cases h0
  ·rename_i t op ty ps ed r' e0 h0
   cases h0
   split at h
   ·rename_i v hv;exact zq T hv (X3 h hk)
   ·cases h
  ·cases h
def runN (T:Kg P) (n:Nat) (st:List Row):Nat→List Oper→List (Option Tmp)→(Nat→AV)→Option (List Oper×List (Option Tmp)×(Nat→AV))
 | 0,l,ds,e=>some (l,ds,e)
 | m+1,⟨some t,op,_,_,_,none⟩ :: r,ds,e=>match qL T ⟨n,e,st⟩ op with
  | some v=>runN T n st m r (ds ++ [some t]) (Dh e t v)
  | none=>none
 | _,_,_,_=>none
theorem zm (T:Kg P) :∀(m:Nat) {l l':List Oper} {e e':Nat→AV} {ds ds':List (Option Tmp)},runN T n st m l ds e=some (l',ds',e')→AO P k ops Q ds' l' ⟨n,e',st⟩→AO P k ops Q ds l ⟨n,e,st⟩
 | 0,l,l',e,e',ds,ds',h,hk=>by
  simp only[runN,Option.some.injEq,Prod.mk.injEq] at h
  obtain⟨rfl,rfl,rfl⟩:=h;exact hk
 | m+1,[],l',e,e',ds,ds',h,hk=>by simp[runN] at h
 | m+1,o :: r,l',e,e',ds,ds',h,hk=>by
  unfold runN at h
  split at h
  ·rename_i h0;cases h0
  ·rename_i m0 t op ty ps ed r' hm h0
   cases h0;cases hm
   split at h
   ·rename_i v hv;exact zq T hv (zm T m h hk)
   ·cases h
  ·cases h
theorem zt (hp:p=true) (h:pE ⟨n,e,st⟩ c x=some (p,v)) (hk:AO P k ops Q (ds ++ [some t]) r ⟨n,Dh e t v,st⟩):AO P k ops Q ds (⟨some t,.pick c x y,ty,ps,ed,none⟩ :: r) ⟨n,e,st⟩:=BH Ac rfl (MY (KD h).1 hp (KD h).2) hk
theorem zf (hp:p=false) (h:pE ⟨n,e,st⟩ c y=some (p,v)) (hk:AO P k ops Q (ds ++ [some t]) r ⟨n,Dh e t v,st⟩):AO P k ops Q ds (⟨some t,.pick c x y,ty,ps,ed,none⟩ :: r) ⟨n,e,st⟩:=BH Ac rfl (OS (KD h).1 hp (KD h).2) hk
theorem yt (hp:p=true) (h:pE ⟨n,e,st⟩ c x=some (p,v)) (hk:DF P (ds ++ [some t]) r KS ⟨n,Dh e t v,st⟩):DF P ds (⟨some t,.pick c x y,ty,ps,ed,none⟩ :: r) KS ⟨n,e,st⟩:=Kh Ac rfl (MY (KD h).1 hp (KD h).2) hk
theorem yf (hp:p=false) (h:pE ⟨n,e,st⟩ c y=some (p,v)) (hk:DF P (ds ++ [some t]) r KS ⟨n,Dh e t v,st⟩):DF P ds (⟨some t,.pick c x y,ty,ps,ed,none⟩ :: r) KS ⟨n,e,st⟩:=Kh Ac rfl (OS (KD h).1 hp (KD h).2) hk
variable {α : Type} {l : List α} {enc : α → List AV} {kk : IntKind} {j : Int} {u : α} {el size bytes : Nat} {zz : List AV}
theorem zl (T:Kg P) (hs:has T.s t'=true) (hx:St.ev ⟨n,e,st⟩ x=.sl (l.map enc)) (hk:AO P k ops Q (ds ++ [some t]) r ⟨n,Dh e t (i64 (Sh.len l)),st⟩):AO P k ops Q ds (⟨some t,.call ⟨.builtin .len,#[x],#[t']⟩,ty,ps,ed,none⟩ :: r) ⟨n,e,st⟩:=BH Ac rfl (CK (T.sl hs) hx) hk
theorem yl (T:Kg P) (hs:has T.s t'=true) (hx:St.ev ⟨n,e,st⟩ x=.sl (l.map enc)) (hk:DF P (ds ++ [some t]) r KS ⟨n,Dh e t (i64 (Sh.len l)),st⟩):DF P ds (⟨some t,.call ⟨.builtin .len,#[x],#[t']⟩,ty,ps,ed,none⟩ :: r) KS ⟨n,e,st⟩:=Kh Ac rfl (CK (T.sl hs) hx) hk
theorem zx (he:By P t'=some ⟨el,size,bytes,zz⟩) (hg:Sh.get l j=some u) (hx:St.ev ⟨n,e,st⟩ x=.sl (l.map enc)) (hy:St.ev ⟨n,e,st⟩ y=.int kk j) (hs:(enc u).length=size) (hk:AO P k ops Q (ds ++ [some t]) r ⟨n,Dh e t (.Bd (enc u) 0),st⟩):AO P k ops Q ds (⟨some t,.indexAddr t' x y,ty,ps,ed,none⟩ :: r) ⟨n,e,st⟩:=BH Ac rfl (FC he hx hy hg hs) hk
theorem yx (he:By P t'=some ⟨el,size,bytes,zz⟩) (hg:Sh.get l j=some u) (hx:St.ev ⟨n,e,st⟩ x=.sl (l.map enc)) (hy:St.ev ⟨n,e,st⟩ y=.int kk j) (hs:(enc u).length=size) (hk:DF P (ds ++ [some t]) r KS ⟨n,Dh e t (.Bd (enc u) 0),st⟩):DF P ds (⟨some t,.indexAddr t' x y,ty,ps,ed,none⟩ :: r) KS ⟨n,e,st⟩:=Kh Ac rfl (FC he hx hy hg hs) hk
variable {f : FuncId} {ars : Array Operand} {ts : Array TypeId} {args : List AV}
theorem zd (hbw:b=want) (hb:DI P f=true) (hc:Aa P f args [] fun r st=>r=v∧st=[]) (ha:ars.toList.map (St.ev ⟨n,e,st⟩) ++ []=args) (hf:args.all flat=true) (hv:fo (shift st.length v)=some v')
  (hg:gE ds jj e=some b) (hk:AO P k ops Q (ds ++ [d]) r (St.put ⟨n,e,st⟩ d v')):AO P k ops Q ds (⟨d,.call ⟨.value (.func f),ars,ts⟩,ty,ps,ed,some (jj,want)⟩ :: r) ⟨n,e,st⟩:=
 BF (YR hg hbw) hb hc ha hf trivial (Pc hv) (List.append_nil st) hk
theorem zc (hb:DI P f=true) (hc:Aa P f args [] fun r st=>r=v∧st=[]) (ha:ars.toList.map (St.ev ⟨n,e,st⟩) ++ []=args) (hf:args.all flat=true) (hv:fo (shift st.length v)=some v')
  (hk:AO P k ops Q (ds ++ [d]) r (St.put ⟨n,e,st⟩ d v')):AO P k ops Q ds (⟨d,.call ⟨.value (.func f),ars,ts⟩,ty,ps,ed,none⟩ :: r) ⟨n,e,st⟩:=
 BF Ac hb hc ha hf trivial (Pc hv) (List.append_nil st) hk
theorem sr {id:Nat} {y:Code} {s:St} (hd:(ops.toList.all fun o=>Cu s.n o.dst)=true) (h :∀K:St→Prop,(∀s,AW P k y Q s→K s)→AO P k ops (I0 K Q) [] ops.toList s):AW P k (.seq (.region id ops false) y) Q s:=
 AB fun K hK=>AF hd (h K hK)
def Sc:Nat→List AV→List (Nat×AV)
 | _,[]=>[]
 | i,a :: r=>(i,a) :: Sc (i+1) r
theorem Ra :∀(l:List AV) (i t:Nat),AL (Sc i l) t=if t < i then .Eu else (l[t - i]?).getD .Eu
 | [],i,t=>by simp[Sc,AL]
 | a :: r,i,t=>by
  simp only[Sc,AL,Ra r (i+1) t]
  by_cases h:t=i
  ·subst h;simp
  ·by_cases h2:t < i
   ·simp[h,h2,Nat.lt_succ_of_lt h2]
   ·obtain⟨d,hd⟩ :∃d,t - i=d+1:=⟨t - i - 1,by omega⟩
    have h3:¬ t < i+1:=by omega
    simp[h,h2,h3,hd,show t - (i+1)=d by omega]
theorem ai {k N:Nat} {f:FuncId} {fn:Func} {c:Code} {args:List AV} {st:List Row} {R:AV→List Row→Prop} (hf:P.funcs[f]?=some fn) (hb:fn.body=some c) (hN:fn.ntmps=N) (hn:Nat.ble args.length N=true) (hk:st.length=k)
  (h:AW P k c (ZS P k fn R) ⟨N,AL (Sc 0 args),st⟩):Aa P f args st R:=by
 subst hN;subst hk
 refine Aa.intro hf hb (Nat.le_of_ble_eq_true hn) ?_
 have e:MW args=AL (Sc 0 args):=by
  funext t
  rw[Ra]
  simp[MW,List.getD_eq_getElem?_getD]
 rw[e];exact h
theorem zr (T:Kg P) {id:Nat} {y:Code} {e':Nat→AV} (h:XA T n st ops.toList e=some e') (hd:(ops.toList.all fun o=>Cu n o.dst)=true) (hk:AW P k y Q ⟨n,e',st⟩):AW P k (.seq (.region id ops false) y) Q ⟨n,e,st⟩:=
 AB fun K hK=>AF hd (X3 h fun ds=>AE (hK _ hk))
theorem dn {s:St} {K p:St→Prop} (hK :∀s,p s→K s) (hq:Q .normal s=K s) (h:p s):AO P k ops Q ds [] s:=AE (hq ▸ hK s h)
theorem ci {α:Type} {o:Operand} {x y:Code} {s:St} {A B C:α} (h:(if b=true then A else B)=C) (ho:cu (s.ev o)=some b) (h1:b=true→A=C→AW P k x Q s) (h2:b=false→B=C→AW P k y Q s):AW P k (.cond o x y) Q s:=
 FT (Qy ho) (fun hb=>h1 hb (by rw[← h,if_pos hb])) (fun hb=>h2 hb (by rw[← h,if_neg (by rw[hb];decide)]))
theorem bs {α β:Type} {x:Option α} {f:α→Option β} {r:β} {G:Prop} (h:x.bind f=some r) (k :∀v,x=some v→f v=some r→G):G:=
 let ⟨v,h1,h2⟩:=Sh.bind_some h;k v h1 h2
theorem xi {α:Type} {p q:α→Prop} (a:α) (h:p a) (g:q a) :∃a,p a∧q a:=⟨a,h,g⟩
theorem xr {α:Type} {p q:α→Prop} {a:α} (h:p a) (g:q a:=by exact And.intro rfl rfl) :∃a,p a∧q a:=⟨a,h,g⟩
def Tm (e:Nat→AV):List (Nat×AV)→List AV
 | []=>[]
 | (t,_) :: r=>e t :: Tm e r
def UH:List (Nat×AV)→List AV
 | []=>[]
 | (_,v) :: r=>v :: UH r
theorem ME.of {e:Nat→AV} :∀{L:List (Nat×AV)},Tm e L=UH L→ME e L
 | [],_=>trivial
 | (t,v) :: r,h=>by
  simp only[Tm,UH,List.cons.injEq] at h
  exact⟨le.of h.1,ME.of h.2⟩
theorem AH {L:List (Nat×AV)} (h:Tm e L=UH L):Wk k ⟨n,e,st⟩ ⟨n,AL L,st⟩:=AS (ME.of h)
theorem Ai (L:List (Nat×AV)) (h:Tm (fun t=>Jm [] (e t)) L=UH L):Wk 0 ⟨n,e,st⟩ ⟨n,AL L,[]⟩:=
 A5 (L:=L) (st':=[]) (st1:=[]) [] rfl .nil (by decide) rfl rfl .nil (ME.of h)
end
end Go.Abs

