import Derived.Test.YthapbpfhdnmboaaAbsW

namespace Go.Abs
open Go
structure E4 (P:Program) where
 t:List (Nat×Bool×Nat)
 f:List (Nat×Nat×Nat)
 v:List (Nat×Nat×Nat×Bool×Nat)
 b:List Nat
 s:List Nat
 ht:(t.all fun x=>decide (DX P x.1=some x.2))=true
 hf:(f.all fun x=>decide (JO P x.1 x.2.1=some x.2.2))=true
 hv:(v.all fun x=>decide (Jc P x.1 x.2.1=some x.2.2))=true
 hb:(b.all fun x=>Gm P x)=true
 hs:(s.all fun x=>C8 P x)=true
def look {α:Type}:List (Nat×α)→Nat→Option α
 | [],_=>none
 | (a,x) :: r,k=>bif Nat.beq a k then some x else look r k
def Hh {α:Type}:List (Nat×Nat×α)→Nat→Nat→Option α
 | [],_,_=>none
 | (a,b,x) :: r,k,m=>bif Nat.beq a k && Nat.beq b m then some x else Hh r k m
theorem MT {α:Type} {k:Nat} {x:α} :∀{l:List (Nat×α)},look l k=some x→(k,x)∈l
 | (a,y) :: r,h=>by
  unfold look at h
  cases hb:Nat.beq a k with
  | true=>rw[hb] at h;cases h;cases Nat.eq_of_beq_eq_true hb;exact List.mem_cons_self
  | false=>rw[hb] at h;exact List.mem_cons_of_mem _ (MT h)
theorem IT {α:Type} {k m:Nat} {x:α} :∀{l:List (Nat×Nat×α)},Hh l k m=some x→(k,m,x)∈l
 | (a,b,y) :: r,h=>by
  unfold Hh at h
  cases hb:Nat.beq a k && Nat.beq b m with
  | true=>
   rw[hb] at h;cases h
   rw[Bool.and_eq_true] at hb
   cases Nat.eq_of_beq_eq_true hb.1;cases Nat.eq_of_beq_eq_true hb.2;exact List.mem_cons_self
  | false=>rw[hb] at h;exact List.mem_cons_of_mem _ (IT h)
def has:List Nat→Nat→Bool
 | [],_=>false
 | a :: r,k=>bif Nat.beq a k then true else has r k
theorem KO {k:Nat} :∀{l:List Nat},has l k=true→k∈l
 | a :: r,h=>by
  unfold has at h
  cases hb:Nat.beq a k with
  | true=>cases Nat.eq_of_beq_eq_true hb;exact List.mem_cons_self
  | false=>rw[hb] at h;exact List.mem_cons_of_mem _ (KO h)
variable {P : Program} {T : E4 P} {k m : Nat}
theorem E4.ti {x:Bool×Nat} (h:look T.t k=some x):DX P k=some x:=of_decide_eq_true (List.all_eq_true.1 T.ht _ (MT h))
theorem E4.fi {x:Nat} (h:Hh T.f k m=some x):JO P k m=some x:=of_decide_eq_true (List.all_eq_true.1 T.hf _ (IT h))
theorem MX {x:Nat×Bool×Nat} (h:Hh T.v k m=some x):Jc P k m=some x:=of_decide_eq_true (List.all_eq_true.1 T.hv _ (IT h))
theorem E4.bo (h:has T.b k=true):Gm P k=true:=List.all_eq_true.1 T.hb _ (KO h)
theorem E4.sl (h:has T.s k=true):C8 P k=true:=List.all_eq_true.1 T.hs _ (KO h)
def fo:AV→Option AV
 | .CV=>none
 | .un=>some .un
 | .int k n=>some (.int k n)
 | .bool b=>some (.bool b)
 | .str s=>some (.str s)
 | .zc=>some .zc
 | .JH=>some .JH
 | .I0=>some .I0
 | .sl xs=>some (.sl xs)
 | .own a b c=>some (.own a b c)
 | .ptr a b c d=>some (.ptr a b c d)
 | .B4 x o=>some (.B4 x o)
 | .fn f c=>some (.fn f c)
 | .agg c=>some (.agg c)
 | .BI c=>some (.BI c)
 | .dv a b c=>some (.dv a b c)
theorem Ia {a v:AV} (h:fo a=some v):a=v:=by cases a <;> cases h <;> rfl
def arith (o:BinOp) (k:IntKind) (a b:Int):Option AV:=
 match o with
 | .add=>match k with
  | .i64=>some (i64 (Sh.w (a+b)))
  | k=>some (.int k (Sh.wk k (a+b)))
 | .sub=>match k with
  | .i64=>some (i64 (Sh.w (a - b)))
  | k=>some (.int k (Sh.wk k (a - b)))
 | .mul=>match k with
  | .i64=>some (i64 (Sh.w (a * b)))
  | k=>some (.int k (Sh.wk k (a * b)))
 | .lss=>some (.bool (decide (a < b)))
 | .leq=>some (.bool (decide (a≤b)))
 | .gtr=>some (.bool (decide (b < a)))
 | .geq=>some (.bool (decide (b≤a)))
 | .eql=>some (.bool (decide (a=b)))
 | .neq=>some (.bool (!decide (a=b)))
 | _=>none
def QD (k k':IntKind):Bool:=decide (k=k')
def Q2 (T:E4 P) (o:BinOp) (t:Nat):AV→AV→Option AV
 | .int k a,.int k' b=>bif QD k k' then arith o k a b else none
 | .bool p,.bool q=>bif has T.b t then (match o with
  | .eql=>some (.bool (p == q))
  | .neq=>some (.bool (p != q))
  | _=>none) else none
 | _,_=>none
def Jd (xs:List (List AV)) (cs:List AV) (off:Nat):Bool×Nat→Option AV
 | (false,_)=>(cs[off]?).bind fo
 | (true,sz)=>bif Nat.ble (off+sz) cs.length then some (.agg ((cs.drop off).take sz)) else none
def NU (g:Nat) (r:Option Row) {α:Type} (f:Row→Option α):Option α:=
 match r with
 | none=>none
 | some r=>bif Nat.beq r.gen g then f r else none
def Ow (T:E4 P) (s:St) (t:Nat):AV→Option AV
 | .B4 cs off=>(look T.t t).bind (Jd [] cs off)
 | .ptr id g i off=>NU g s.st[id]? fun r=>(r.xs[i]?).bind fun cs=>(look T.t t).bind (Jd [] cs off)
 | _=>none
def qE (T:E4 P) (s:St):Op→Option AV
 | .move x=>fo (s.ev x)
 | .assign x=>fo (s.ev x)
 | .binOp o t x y _=>Q2 T o t (s.ev x) (s.ev y)
 | .unOp .not _ x=>match s.ev x with
  | .bool p=>some (.bool (!p))
  | _=>none
 | .unOp .neg _ x=>match s.ev x with
  | .int .i64 a=>some (i64 (Sh.w (-a)))
  | _=>none
 | .extract x i=>match s.ev x with
  | .BI vs=>(vs[i]?).bind fo
  | _=>none
 | .nilCheck x=>match s.ev x with
  | .ptr id g i off=>NU g s.st[id]? fun _=>some (.ptr id g i off)
  | .B4 cs off=>some (.B4 cs off)
  | _=>none
 | .fieldAddr t x f=>match s.ev x with
  | .B4 cs off=>(Hh T.f t f).bind fun j=>some (.B4 cs (off+j))
  | .ptr id g i off=>(Hh T.f t f).bind fun j=>NU g s.st[id]? fun r=>bif Nat.ble (off+j) r.size then some (.ptr id g i (off+j)) else none
  | _=>none
 | .load t x=>Ow T s t (s.ev x)
 | .field t x f=>match s.ev x with
  | .agg cs=>(Hh T.v t f).bind fun i=>Jd [] cs i.1 i.2
  | _=>none
 | _=>none
theorem IY {α:Type} {g:Nat} {r:Option Row} {f:Row→Option α} {v:α} (h:NU g r f=some v) :∃el size xs,r=some ⟨g,el,size,xs⟩∧f ⟨g,el,size,xs⟩=some v:=by
 unfold NU at h
 split at h
 ·cases h
 ·rename_i r
  cases hb:Nat.beq r.gen g with
  | true=>rw[hb] at h;cases Nat.eq_of_beq_eq_true hb;exact⟨_,_,_,rfl,h⟩
  | false=>rw[hb] at h;cases h
theorem QC {s:St} {o:BinOp} {t t':TypeId} {x y:Operand} {v:AV} (h:Q2 T o t (s.ev x) (s.ev y)=some v):AQ P s (.binOp o t x y t') v:=by
 unfold Q2 at h
 split at h
 ·rename_i kk a kk' b hx hy
  cases hk:QD kk kk' with
  | false=>rw[hk] at h;cases h
  | true=>
   rw[hk] at h
   have hk':kk=kk':=of_decide_eq_true hk
   subst hk'
   simp only[cond_true] at h
   cases o <;> simp only[arith] at h
   all_goals try (cases kk <;> cases h <;> first | exact RY hx hy | exact RR hx hy | exact Ra hx hy | exact QY hx hy | exact Qj hx hy | exact QX hx hy)
   all_goals first
    | (cases h;done)
    | (cases h;first | exact SE hx hy | exact SM hx hy | exact R5 hx hy | exact R2 hx hy | exact SK hx hy | exact SQ hx hy)
 ·rename_i p q hx hy
  cases hb:has T.b t with
  | false=>rw[hb] at h;cases h
  | true=>
   rw[hb] at h
   simp only[cond_true] at h
   cases o <;> first
    | (cases h;done)
    | (cases h;first | exact RV (T.bo hb) hx hy | exact RH (T.bo hb) hx hy)
 ·cases h
theorem Hi {cs:List AV} {off:Nat} {i:Bool×Nat} {v:AV} (h:Jd [] cs off i=some v):(i.1=false∧cs[off]?=some v)∨(i.1=true∧off+i.2≤cs.length∧v=.agg ((cs.drop off).take i.2)):=by
 obtain⟨b,sz⟩:=i
 cases b with
 | false=>
  simp only[Jd] at h
  obtain⟨a,h1,h2⟩:=Option.bind_eq_some_iff.1 h
  rw[h1,Ia h2];exact .inl ⟨rfl,rfl⟩
 | true=>
  simp only[Jd] at h
  cases hb:Nat.ble (off+sz) cs.length with
  | false=>rw[hb] at h;cases h
  | true=>rw[hb] at h;cases h;exact .inr ⟨rfl,Nat.le_of_ble_eq_true hb,rfl⟩
theorem P7 {s:St} {t:TypeId} {x:Operand} {v:AV} (h:Ow T s t (s.ev x)=some v):AQ P s (.load t x) v:=by
 unfold Ow at h
 split at h
 ·rename_i cs off hx
  obtain⟨⟨b,sz⟩,h1,h2⟩:=Option.bind_eq_some_iff.1 h
  rcases Hi h2 with ⟨hb,h3⟩ | ⟨hb,h3,rfl⟩ <;> simp only at hb <;> subst hb
  ·exact Rk (E4.ti h1) hx h3
  ·exact Qg (E4.ti h1) hx h3 rfl
 ·rename_i id g i off hx
  obtain⟨el,size,xs,hr,h⟩:=IY h
  obtain⟨cs,hi,h⟩:=Option.bind_eq_some_iff.1 h
  obtain⟨⟨b,sz⟩,h1,h2⟩:=Option.bind_eq_some_iff.1 h
  rcases Hi h2 with ⟨hb,h3⟩ | ⟨hb,h3,rfl⟩ <;> simp only at hb <;> subst hb
  ·exact Aw (E4.ti h1) hx hr hi h3
  ·exact D3 (E4.ti h1) hx hr hi h3 rfl
 ·cases h
theorem NP {s:St} {op:Op} {v:AV} (h:qE T s op=some v):AQ P s op v:=by
 unfold qE at h
 split at h
 ·exact SA (Ia h)
 ·exact SG (Ia h)
 ·exact QC h
 ·split at h
  ·rename_i hx;cases h;exact RU hx
  ·cases h
 ·split at h
  ·rename_i hx;cases h;exact Rg hx
  ·cases h
 ·split at h
  ·rename_i vs hx
   obtain⟨a,h1,h2⟩:=Option.bind_eq_some_iff.1 h
   rw[Ia h2] at h1
   exact Rz hx h1
  ·cases h
 ·split at h
  ·rename_i hx
   obtain⟨el,size,xs,hr,h⟩:=IY h
   cases h
   exact RT hx hr
  ·rename_i hx;cases h;exact RW hx
  ·cases h
 ·split at h
  ·rename_i hx
   obtain⟨j,h1,h2⟩:=Option.bind_eq_some_iff.1 h
   cases h2
   exact RX (E4.fi h1) hx rfl
  ·rename_i hx
   obtain⟨j,h1,h2⟩:=Option.bind_eq_some_iff.1 h
   obtain⟨el,size,xs,hr,h2⟩:=IY h2
   simp only at h2
   cases hb:Nat.ble (_+j) size with
   | false=>rw[hb] at h2;cases h2
   | true=>rw[hb] at h2;cases h2;exact RQ (E4.fi h1) hx hr (Nat.le_of_ble_eq_true hb) rfl
  ·cases h
 ·exact P7 h
 ·split at h
  ·rename_i hx
   obtain⟨⟨o,b,sz⟩,h1,h2⟩:=Option.bind_eq_some_iff.1 h
   rcases Hi h2 with ⟨hb,h3⟩ | ⟨hb,h3,rfl⟩ <;> simp only at hb <;> subst hb
   ·exact SD (MX h1) hx h3
   ·exact Q7 (MX h1) hx h3 rfl
  ·cases h
 ·cases h
abbrev ow {α:Type} (i g:Nat) (l:List α):AV:=.own i g l.length
abbrev ro {α:Type} (g el size:Nat) (enc:α→List AV) (l:List α):Row:=⟨g,el,size,l.map enc⟩
abbrev ls {α:Type} (enc:α→List AV) (l:List α):AV:=.sl (l.map enc)
def RB:AV→Option Bool
 | .bool b=>some b
 | _=>none
theorem Iy {v:AV} {b:Bool} (h:RB v=some b):v=.bool b:=by cases v <;> cases h;rfl
def gE (ds:List (Option Tmp)) (jj:Nat) (e:Nat→AV):Option Bool:=
 match ds[jj]? with
 | some (some t)=>RB (e t)
 | _=>none
def uE (ds:List (Option Tmp)) (jj:Nat) (e:Nat→AV):Bool:=
 match ds[jj]? with
 | some (some t)=>match e t with
  | .un=>true
  | _=>false
 | _=>false
section
variable {P : Program} {k : Nat} {ops : Array Oper} {Q : Exit → St → Prop} {ds : List (Option Tmp)} {r : List Oper} {n : Nat} {e : Nat → AV} {st st' : List Row} {op : Op} {ty t' : TypeId} {ps : String} {ed : Array Edge} {d : Option Tmp} {t : Tmp} {v v' : AV}
variable {jj : Nat} {want b p : Bool} {tg : Tmp} {gd : Option (Nat × Bool)} {x y c : Operand} {KS : St → Prop}
theorem OO (h:gE ds jj e=some b) (hb:b=want):GO ds (some (jj,want)) e:=by
 unfold gE at h
 split at h
 ·rename_i tg hj;exact Ce hj (Iy h) hb
 ·cases h
def qL (T:E4 P) (s:St) (op:Op):Option AV:=bif E0 op then none else qE T s op
theorem HU {s:St} (h:qL T s op=some v):E0 op=false∧qE T s op=some v:=by
 unfold qL at h
 cases hl:E0 op with
 | true=>rw[hl] at h;cases h
 | false=>rw[hl] at h;exact⟨rfl,h⟩
def gL (T:E4 P) (ds:List (Option Tmp)) (jj:Nat) (s:St) (op:Op):Option (Bool×AV):=
 match gE ds jj s.env with
 | some b=>match qL T s op with
  | some v=>some (b,v)
  | none=>none
 | none=>none
theorem Gj {s:St} (h:gL T ds jj s op=some (b,v)):gE ds jj s.env=some b∧E0 op=false∧qE T s op=some v:=by
 unfold gL at h
 split at h
 ·rename_i b' hg
  split at h
  ·rename_i v' hv
   cases h
   exact⟨hg,HU hv⟩
  ·cases h
 ·cases h
def pE (s:St) (c x:Operand):Option (Bool×AV):=
 match RB (s.ev c) with
 | some b=>match fo (s.ev x) with
  | some v=>some (b,v)
  | none=>none
 | none=>none
theorem FN {s:St} {c x:Operand} (h:pE s c x=some (b,v)):s.ev c=.bool b∧s.ev x=v:=by
 unfold pE at h
 split at h
 ·rename_i b' hg
  split at h
  ·rename_i v' hv
   cases h
   exact⟨Iy hg,Ia hv⟩
  ·cases h
 ·cases h
theorem zq (T:E4 P) (h:qL T ⟨n,e,st⟩ op=some v) (hk:AO P k ops Q (ds ++ [some t]) r ⟨n,DE e t v,st⟩):AO P k ops Q ds (⟨some t,op,ty,ps,ed,none⟩ :: r) ⟨n,e,st⟩:=CY Ae (HU h).1 (NP (HU h).2) hk
theorem zg (T:E4 P) (hb:b=want) (h:gL T ds jj ⟨n,e,st⟩ op=some (b,v)) (hk:AO P k ops Q (ds ++ [some t]) r ⟨n,DE e t v,st⟩):AO P k ops Q ds (⟨some t,op,ty,ps,ed,some (jj,want)⟩ :: r) ⟨n,e,st⟩:=CY (OO (Gj h).1 hb) (Gj h).2.1 (NP (Gj h).2.2) hk
theorem zz (v:AV) (h:AQ P ⟨n,e,st⟩ op v) (hl:E0 op=false) (hk:AO P k ops Q (ds ++ [some t]) r ⟨n,DE e t v,st⟩):AO P k ops Q ds (⟨some t,op,ty,ps,ed,none⟩ :: r) ⟨n,e,st⟩:=CY Ae hl h hk
theorem yq (T:E4 P) (h:qL T ⟨n,e,st⟩ op=some v) (hk:B6 P (ds ++ [some t]) r KS ⟨n,DE e t v,st⟩):B6 P ds (⟨some t,op,ty,ps,ed,none⟩ :: r) KS ⟨n,e,st⟩:=Gu Ae (HU h).1 (NP (HU h).2) hk
theorem yg (T:E4 P) (hb:b=want) (h:gL T ds jj ⟨n,e,st⟩ op=some (b,v)) (hk:B6 P (ds ++ [some t]) r KS ⟨n,DE e t v,st⟩):B6 P ds (⟨some t,op,ty,ps,ed,some (jj,want)⟩ :: r) KS ⟨n,e,st⟩:=Gu (OO (Gj h).1 hb) (Gj h).2.1 (NP (Gj h).2.2) hk
theorem yz (v:AV) (h:AQ P ⟨n,e,st⟩ op v) (hl:E0 op=false) (hk:B6 P (ds ++ [some t]) r KS ⟨n,DE e t v,st⟩):B6 P ds (⟨some t,op,ty,ps,ed,none⟩ :: r) KS ⟨n,e,st⟩:=Gu Ae hl h hk
theorem zs (hb:b=!want) (hg:gE ds jj e=some b) (h:AO P k ops Q (ds ++ [some t]) r ⟨n,DE e t .un,st⟩):AO P k ops Q ds (⟨some t,op,ty,ps,ed,some (jj,want)⟩ :: r) ⟨n,e,st⟩:=by
 unfold gE at hg
 split at hg
 ·rename_i tg hj;exact Qf hj (Iy hg) hb h
 ·cases hg
theorem ys (hb:b=!want) (hg:gE ds jj e=some b) (h:B6 P (ds ++ [some t]) r KS ⟨n,DE e t .un,st⟩):B6 P ds (⟨some t,op,ty,ps,ed,some (jj,want)⟩ :: r) KS ⟨n,e,st⟩:=by
 unfold gE at hg
 split at hg
 ·rename_i tg hj;exact Rf hj (Iy hg) hb h
 ·cases hg
theorem OA (hu:uE ds jj e=true) :∃tg,ds[jj]?=some (some tg)∧e tg=.un:=by
 unfold uE at hu
 split at hu
 ·rename_i tg hj
  refine⟨tg,hj,?_⟩
  cases he:e tg <;> rw[he] at hu <;> cases hu
 ·cases hu
theorem zn (hu:uE ds jj e=true) (h:AO P k ops Q (ds ++ [some t]) r ⟨n,DE e t .un,st⟩):AO P k ops Q ds (⟨some t,op,ty,ps,ed,some (jj,want)⟩ :: r) ⟨n,e,st⟩:=by
 obtain⟨tg,h1,h2⟩:=OA hu
 exact Qu h1 h2 h
theorem yn (hu:uE ds jj e=true) (h:B6 P (ds ++ [some t]) r KS ⟨n,DE e t .un,st⟩):B6 P ds (⟨some t,op,ty,ps,ed,some (jj,want)⟩ :: r) KS ⟨n,e,st⟩:=by
 obtain⟨tg,h1,h2⟩:=OA hu
 exact Re h1 h2 h
def OB (T:E4 P) (n:Nat) (st:List Row):List Oper→(Nat→AV)→Option (Nat→AV)
 | [],e=>some e
 | ⟨some t,op,_,_,_,none⟩ :: r,e=>match qL T ⟨n,e,st⟩ op with
  | some v=>OB T n st r (DE e t v)
  | none=>none
 | _,_=>none
theorem Nb {T:E4 P} :∀{l:List Oper} {e e':Nat→AV} {ds:List (Option Tmp)},OB T n st l e=some e'→(∀ds,AO P k ops Q ds [] ⟨n,e',st⟩)→AO P k ops Q ds l ⟨n,e,st⟩
 | [],e,e',ds,h,hk=>by
  simp only[OB,Option.some.injEq] at h
  subst h;exact hk ds
 | o :: r,e,e',ds,h,hk=>by
  unfold OB at h
  split at h
  ·rename_i h0;cases h0
  ·rename_i t op ty ps ed r' e0 h0
   cases h0
   split at h
   ·rename_i v hv;exact zq T hv (Nb h hk)
   ·cases h
  ·cases h
def runN (T:E4 P) (n:Nat) (st:List Row):Nat→List Oper→List (Option Tmp)→(Nat→AV)→Option (List Oper×List (Option Tmp)×(Nat→AV))
 | 0,l,ds,e=>some (l,ds,e)
 | m+1,⟨some t,op,_,_,_,none⟩ :: r,ds,e=>match qL T ⟨n,e,st⟩ op with
  | some v=>runN T n st m r (ds ++ [some t]) (DE e t v)
  | none=>none
 | _,_,_,_=>none
theorem zm (T:E4 P) :∀(m:Nat) {l l':List Oper} {e e':Nat→AV} {ds ds':List (Option Tmp)},runN T n st m l ds e=some (l',ds',e')→AO P k ops Q ds' l' ⟨n,e',st⟩→AO P k ops Q ds l ⟨n,e,st⟩
 | 0,l,l',e,e',ds,ds',h,hk=>by
  simp only[runN,Option.some.injEq,Prod.mk.injEq] at h
  obtain⟨rfl,rfl,rfl⟩:=h;exact hk
 | m+1,[],l',e,e',ds,ds',h,hk=>by simp[runN] at h
 | m+1,o :: r,l',e,e',ds,ds',h,hk=>by
  unfold runN at h
  split at h
  ·rename_i h0;cases h0
  ·rename_i m0 t op ty ps ed r' hm h0
   cases h0;cases hm
   split at h
   ·rename_i v hv;exact zq T hv (zm T m h hk)
   ·cases h
  ·cases h
theorem zt (hp:p=true) (h:pE ⟨n,e,st⟩ c x=some (p,v)) (hk:AO P k ops Q (ds ++ [some t]) r ⟨n,DE e t v,st⟩):AO P k ops Q ds (⟨some t,.pick c x y,ty,ps,ed,none⟩ :: r) ⟨n,e,st⟩:=CY Ae rfl (Gx (FN h).1 hp (FN h).2) hk
theorem zf (hp:p=false) (h:pE ⟨n,e,st⟩ c y=some (p,v)) (hk:AO P k ops Q (ds ++ [some t]) r ⟨n,DE e t v,st⟩):AO P k ops Q ds (⟨some t,.pick c x y,ty,ps,ed,none⟩ :: r) ⟨n,e,st⟩:=CY Ae rfl (Gs (FN h).1 hp (FN h).2) hk
theorem yt (hp:p=true) (h:pE ⟨n,e,st⟩ c x=some (p,v)) (hk:B6 P (ds ++ [some t]) r KS ⟨n,DE e t v,st⟩):B6 P ds (⟨some t,.pick c x y,ty,ps,ed,none⟩ :: r) KS ⟨n,e,st⟩:=Gu Ae rfl (Gx (FN h).1 hp (FN h).2) hk
theorem yf (hp:p=false) (h:pE ⟨n,e,st⟩ c y=some (p,v)) (hk:B6 P (ds ++ [some t]) r KS ⟨n,DE e t v,st⟩):B6 P ds (⟨some t,.pick c x y,ty,ps,ed,none⟩ :: r) KS ⟨n,e,st⟩:=Gu Ae rfl (Gs (FN h).1 hp (FN h).2) hk
variable {α : Type} {l : List α} {enc : α → List AV} {kk : IntKind} {j : Int} {u : α} {el size bytes : Nat} {zz : List AV}
theorem zl (T:E4 P) (hs:has T.s t'=true) (hx:St.ev ⟨n,e,st⟩ x=.sl (l.map enc)) (hk:AO P k ops Q (ds ++ [some t]) r ⟨n,DE e t (i64 (Sh.len l)),st⟩):AO P k ops Q ds (⟨some t,.call ⟨.builtin .len,#[x],#[t']⟩,ty,ps,ed,none⟩ :: r) ⟨n,e,st⟩:=CY Ae rfl (Ea (T.sl hs) hx) hk
theorem yl (T:E4 P) (hs:has T.s t'=true) (hx:St.ev ⟨n,e,st⟩ x=.sl (l.map enc)) (hk:B6 P (ds ++ [some t]) r KS ⟨n,DE e t (i64 (Sh.len l)),st⟩):B6 P ds (⟨some t,.call ⟨.builtin .len,#[x],#[t']⟩,ty,ps,ed,none⟩ :: r) KS ⟨n,e,st⟩:=Gu Ae rfl (Ea (T.sl hs) hx) hk
theorem zx (he:DT P t'=some ⟨el,size,bytes,zz⟩) (hg:Sh.get l j=some u) (hx:St.ev ⟨n,e,st⟩ x=.sl (l.map enc)) (hy:St.ev ⟨n,e,st⟩ y=.int kk j) (hs:(enc u).length=size) (hk:AO P k ops Q (ds ++ [some t]) r ⟨n,DE e t (.B4 (enc u) 0),st⟩):AO P k ops Q ds (⟨some t,.indexAddr t' x y,ty,ps,ed,none⟩ :: r) ⟨n,e,st⟩:=CY Ae rfl (Ei he hx hy hg hs) hk
theorem yx (he:DT P t'=some ⟨el,size,bytes,zz⟩) (hg:Sh.get l j=some u) (hx:St.ev ⟨n,e,st⟩ x=.sl (l.map enc)) (hy:St.ev ⟨n,e,st⟩ y=.int kk j) (hs:(enc u).length=size) (hk:B6 P (ds ++ [some t]) r KS ⟨n,DE e t (.B4 (enc u) 0),st⟩):B6 P ds (⟨some t,.indexAddr t' x y,ty,ps,ed,none⟩ :: r) KS ⟨n,e,st⟩:=Gu Ae rfl (Ei he hx hy hg hs) hk
variable {f : FuncId} {ars : Array Operand} {ts : Array TypeId} {args : List AV}
theorem zd (hbw:b=want) (hb:Al P f=true) (hc:Ag P f args [] fun r st=>r=v∧st=[]) (ha:ars.toList.map (St.ev ⟨n,e,st⟩) ++ []=args) (hf:args.all flat=true) (hv:fo (shift st.length v)=some v')
  (hg:gE ds jj e=some b) (hk:AO P k ops Q (ds ++ [d]) r (St.put ⟨n,e,st⟩ d v')):AO P k ops Q ds (⟨d,.call ⟨.value (.func f),ars,ts⟩,ty,ps,ed,some (jj,want)⟩ :: r) ⟨n,e,st⟩:=
 BJ (OO hg hbw) hb hc ha hf trivial (Ia hv) (List.append_nil st) hk
theorem zc (hb:Al P f=true) (hc:Ag P f args [] fun r st=>r=v∧st=[]) (ha:ars.toList.map (St.ev ⟨n,e,st⟩) ++ []=args) (hf:args.all flat=true) (hv:fo (shift st.length v)=some v')
  (hk:AO P k ops Q (ds ++ [d]) r (St.put ⟨n,e,st⟩ d v')):AO P k ops Q ds (⟨d,.call ⟨.value (.func f),ars,ts⟩,ty,ps,ed,none⟩ :: r) ⟨n,e,st⟩:=
 BJ Ae hb hc ha hf trivial (Ia hv) (List.append_nil st) hk
theorem sr {id:Nat} {y:Code} {s:St} (hd:(ops.toList.all fun o=>Ck s.n o.dst)=true) (h :∀K:St→Prop,(∀s,AW P k y Q s→K s)→AO P k ops (ON K Q) [] ops.toList s):AW P k (.seq (.region id ops false) y) Q s:=
 AN fun K hK=>AR hd (h K hK)
def MO:Nat→List AV→List (Nat×AV)
 | _,[]=>[]
 | i,a :: r=>(i,a) :: MO (i+1) r
theorem L3 :∀(l:List AV) (i t:Nat),AM (MO i l) t=if t < i then .CV else (l[t - i]?).getD .CV
 | [],i,t=>by simp[MO,AM]
 | a :: r,i,t=>by
  simp only[MO,AM,L3 r (i+1) t]
  by_cases h:t=i
  ·subst h;simp
  ·by_cases h2:t < i
   ·simp[h,h2,Nat.lt_succ_of_lt h2]
   ·obtain⟨d,hd⟩ :∃d,t - i=d+1:=⟨t - i - 1,by omega⟩
    have h3:¬ t < i+1:=by omega
    simp[h,h2,h3,hd,show t - (i+1)=d by omega]
theorem ai {k N:Nat} {f:FuncId} {fn:Func} {c:Code} {args:List AV} {st:List Row} {R:AV→List Row→Prop} (hf:P.funcs[f]?=some fn) (hb:fn.body=some c) (hN:fn.ntmps=N) (hn:Nat.ble args.length N=true) (hk:st.length=k)
  (h:AW P k c (Ro P k fn R) ⟨N,AM (MO 0 args),st⟩):Ag P f args st R:=by
 subst hN;subst hk
 refine Ag.intro hf hb (Nat.le_of_ble_eq_true hn) ?_
 have e:LH args=AM (MO 0 args):=by
  funext t
  rw[L3]
  simp[LH,List.getD_eq_getElem?_getD]
 rw[e];exact h
theorem zr (T:E4 P) {id:Nat} {y:Code} {e':Nat→AV} (h:OB T n st ops.toList e=some e') (hd:(ops.toList.all fun o=>Ck n o.dst)=true) (hk:AW P k y Q ⟨n,e',st⟩):AW P k (.seq (.region id ops false) y) Q ⟨n,e,st⟩:=
 AN fun K hK=>AR hd (Nb h fun ds=>AE (hK _ hk))
theorem dn {s:St} {K p:St→Prop} (hK :∀s,p s→K s) (hq:Q .normal s=K s) (h:p s):AO P k ops Q ds [] s:=AE (hq ▸ hK s h)
theorem ci {α:Type} {o:Operand} {x y:Code} {s:St} {A B C:α} (h:(if b=true then A else B)=C) (ho:RB (s.ev o)=some b) (h1:b=true→A=C→AW P k x Q s) (h2:b=false→B=C→AW P k y Q s):AW P k (.cond o x y) Q s:=
 FP (Iy ho) (fun hb=>h1 hb (by rw[← h,if_pos hb])) (fun hb=>h2 hb (by rw[← h,if_neg (by rw[hb];decide)]))
theorem xi {α:Type} {p q:α→Prop} (a:α) (h:p a) (g:q a) :∃a,p a∧q a:=⟨a,h,g⟩
theorem xr {α:Type} {p q:α→Prop} {a:α} (h:p a) (g:q a:=by exact And.intro rfl rfl) :∃a,p a∧q a:=⟨a,h,g⟩
def Q5 (e:Nat→AV):List (Nat×AV)→List AV
 | []=>[]
 | (t,_) :: r=>e t :: Q5 e r
def Ql:List (Nat×AV)→List AV
 | []=>[]
 | (_,v) :: r=>v :: Ql r
theorem Kh {e:Nat→AV} :∀{L:List (Nat×AV)},Q5 e L=Ql L→ME e L
 | [],_=>trivial
 | (t,v) :: r,h=>by
  simp only[Q5,Ql,List.cons.injEq] at h
  exact⟨KL h.1,Kh h.2⟩
theorem AP {L:List (Nat×AV)} (h:Q5 e L=Ql L):Wk k ⟨n,e,st⟩ ⟨n,AM L,st⟩:=AF (Kh h)
theorem Be (L:List (Nat×AV)) (h:Q5 (fun t=>Fv [] (e t)) L=Ql L):Wk 0 ⟨n,e,st⟩ ⟨n,AM L,[]⟩:=
 AL (L:=L) (st':=[]) (st1:=[]) [] rfl .nil (by decide) rfl rfl .nil (Kh h)
end
end Go.Abs

