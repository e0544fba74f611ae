import Derived.Test.YtobjlimoekffaaaGreatAbsW

namespace Go.Abs
open Go
structure JW (P:Program) where
 t:List (Nat×Bool×Nat)
 f:List (Nat×Nat×Nat)
 v:List (Nat×Nat×Nat×Bool×Nat)
 b:List Nat
 s:List Nat
 ht:(t.all fun x=>decide (CY P x.1=some x.2))=true
 hf:(f.all fun x=>decide (PC P x.1 x.2.1=some x.2.2))=true
 hv:(v.all fun x=>decide (Pj P x.1 x.2.1=some x.2.2))=true
 hb:(b.all fun x=>Kq P x)=true
 hs:(s.all fun x=>Db P x)=true
def look {α:Type}:List (Nat×α)→Nat→Option α
 | [],_=>none
 | (a,x) :: r,k=>bif Nat.beq a k then some x else look r k
def MD {α:Type}:List (Nat×Nat×α)→Nat→Nat→Option α
 | [],_,_=>none
 | (a,b,x) :: r,k,m=>bif Nat.beq a k && Nat.beq b m then some x else MD r k m
theorem Sq {α:Type} {k:Nat} {x:α} :∀{l:List (Nat×α)},look l k=some x→(k,x)∈l
 | (a,y) :: r,h=>by
  unfold look at h
  cases hb:Nat.beq a k with
  | true=>rw[hb] at h;cases h;cases Nat.eq_of_beq_eq_true hb;exact List.mem_cons_self
  | false=>rw[hb] at h;exact List.mem_cons_of_mem _ (Sq h)
theorem N5 {α:Type} {k m:Nat} {x:α} :∀{l:List (Nat×Nat×α)},MD l k m=some x→(k,m,x)∈l
 | (a,b,y) :: r,h=>by
  unfold MD at h
  cases hb:Nat.beq a k && Nat.beq b m with
  | true=>
   rw[hb] at h;cases h
   rw[Bool.and_eq_true] at hb
   cases Nat.eq_of_beq_eq_true hb.1;cases Nat.eq_of_beq_eq_true hb.2;exact List.mem_cons_self
  | false=>rw[hb] at h;exact List.mem_cons_of_mem _ (N5 h)
def has:List Nat→Nat→Bool
 | [],_=>false
 | a :: r,k=>bif Nat.beq a k then true else has r k
theorem SF {k:Nat} :∀{l:List Nat},has l k=true→k∈l
 | a :: r,h=>by
  unfold has at h
  cases hb:Nat.beq a k with
  | true=>cases Nat.eq_of_beq_eq_true hb;exact List.mem_cons_self
  | false=>rw[hb] at h;exact List.mem_cons_of_mem _ (SF h)
variable {P : Program} {T : JW P} {k m : Nat}
theorem JW.ti {x:Bool×Nat} (h:look T.t k=some x):CY P k=some x:=of_decide_eq_true (List.all_eq_true.1 T.ht _ (Sq h))
theorem S5 {x:Nat} (h:MD T.f k m=some x):PC P k m=some x:=of_decide_eq_true (List.all_eq_true.1 T.hf _ (N5 h))
theorem TA {x:Nat×Bool×Nat} (h:MD T.v k m=some x):Pj P k m=some x:=of_decide_eq_true (List.all_eq_true.1 T.hv _ (N5 h))
theorem JW.bo (h:has T.b k=true):Kq P k=true:=List.all_eq_true.1 T.hb _ (SF h)
theorem JW.sl (h:has T.s k=true):Db P k=true:=List.all_eq_true.1 T.hs _ (SF h)
def fo:AV→Option AV
 | .EI=>none
 | .un=>some .un
 | .int k n=>some (.int k n)
 | .bool b=>some (.bool b)
 | .str s=>some (.str s)
 | .zc=>some .zc
 | .NT=>some .NT
 | .L8=>some .L8
 | .sl xs=>some (.sl xs)
 | .own a b c=>some (.own a b c)
 | .ptr a b c d=>some (.ptr a b c d)
 | .Bh x o=>some (.Bh x o)
 | .fn f c=>some (.fn f c)
 | .agg c=>some (.agg c)
 | .DV c=>some (.DV c)
 | .dv a b c=>some (.dv a b c)
theorem Nb {a v:AV} (h:fo a=some v):a=v:=by cases a <;> cases h <;> rfl
def arith (o:BinOp) (k:IntKind) (a b:Int):Option AV:=
 match o with
 | .add=>match k with
  | .i64=>some (i64 (Sh.w (a+b)))
  | k=>some (.int k (Sh.wk k (a+b)))
 | .sub=>match k with
  | .i64=>some (i64 (Sh.w (a - b)))
  | k=>some (.int k (Sh.wk k (a - b)))
 | .mul=>match k with
  | .i64=>some (i64 (Sh.w (a * b)))
  | k=>some (.int k (Sh.wk k (a * b)))
 | .lss=>some (.bool (decide (a < b)))
 | .leq=>some (.bool (decide (a≤b)))
 | .gtr=>some (.bool (decide (b < a)))
 | .geq=>some (.bool (decide (b≤a)))
 | .eql=>some (.bool (decide (a=b)))
 | .neq=>some (.bool (!decide (a=b)))
 | _=>none
def X2 (k k':IntKind):Bool:=decide (k=k')
def Yo (T:JW P) (o:BinOp) (t:Nat):AV→AV→Option AV
 | .int k a,.int k' b=>bif X2 k k' then arith o k a b else none
 | .bool p,.bool q=>bif has T.b t then (match o with
  | .eql=>some (.bool (p == q))
  | .neq=>some (.bool (p != q))
  | _=>none) else none
 | _,_=>none
def PH (xs:List (List AV)) (cs:List AV) (off:Nat):Bool×Nat→Option AV
 | (false,_)=>(cs[off]?).bind fo
 | (true,sz)=>bif Nat.ble (off+sz) cs.length then some (.agg ((cs.drop off).take sz)) else none
def Ve (g:Nat) (r:Option Row) {α:Type} (f:Row→Option α):Option α:=
 match r with
 | none=>none
 | some r=>bif Nat.beq r.gen g then f r else none
def WD (T:JW P) (s:St) (t:Nat):AV→Option AV
 | .Bh cs off=>(look T.t t).bind (PH [] cs off)
 | .ptr id g i off=>Ve g s.st[id]? fun r=>(r.xs[i]?).bind fun cs=>(look T.t t).bind (PH [] cs off)
 | _=>none
def qE (T:JW P) (s:St):Op→Option AV
 | .move x=>fo (s.ev x)
 | .assign x=>fo (s.ev x)
 | .binOp o t x y _=>Yo T o t (s.ev x) (s.ev y)
 | .unOp .not _ x=>match s.ev x with
  | .bool p=>some (.bool (!p))
  | _=>none
 | .unOp .neg _ x=>match s.ev x with
  | .int .i64 a=>some (i64 (Sh.w (-a)))
  | _=>none
 | .extract x i=>match s.ev x with
  | .DV vs=>(vs[i]?).bind fo
  | _=>none
 | .nilCheck x=>match s.ev x with
  | .ptr id g i off=>Ve g s.st[id]? fun _=>some (.ptr id g i off)
  | .Bh cs off=>some (.Bh cs off)
  | _=>none
 | .fieldAddr t x f=>match s.ev x with
  | .Bh cs off=>(MD T.f t f).bind fun j=>some (.Bh cs (off+j))
  | .ptr id g i off=>(MD T.f t f).bind fun j=>Ve g s.st[id]? fun r=>bif Nat.ble (off+j) r.size then some (.ptr id g i (off+j)) else none
  | _=>none
 | .load t x=>WD T s t (s.ev x)
 | .field t x f=>match s.ev x with
  | .agg cs=>(MD T.v t f).bind fun i=>PH [] cs i.1 i.2
  | _=>none
 | _=>none
theorem N9 {α:Type} {g:Nat} {r:Option Row} {f:Row→Option α} {v:α} (h:Ve g r f=some v) :∃el size xs,r=some ⟨g,el,size,xs⟩∧f ⟨g,el,size,xs⟩=some v:=by
 unfold Ve at h
 split at h
 ·cases h
 ·rename_i r
  cases hb:Nat.beq r.gen g with
  | true=>rw[hb] at h;cases Nat.eq_of_beq_eq_true hb;exact⟨_,_,_,rfl,h⟩
  | false=>rw[hb] at h;cases h
theorem Xy {s:St} {o:BinOp} {t t':TypeId} {x y:Operand} {v:AV} (h:Yo T o t (s.ev x) (s.ev y)=some v):AQ P s (.binOp o t x y t') v:=by
 unfold Yo at h
 split at h
 ·rename_i kk a kk' b hx hy
  cases hk:X2 kk kk' with
  | false=>rw[hk] at h;cases h
  | true=>
   rw[hk] at h
   have hk':kk=kk':=of_decide_eq_true hk
   subst hk'
   simp only[cond_true] at h
   cases o <;> simp only[arith] at h
   all_goals try (cases kk <;> cases h <;> first | exact Zs hx hy | exact Z6 hx hy | exact Z4 hx hy | exact Yd hx hy | exact Yp hx hy | exact ZM hx hy)
   all_goals first
    | (cases h;done)
    | (cases h;first | exact aw hx hy | exact bZ hx hy | exact aZ hx hy | exact ay hx hy | exact bP hx hy | exact bg hx hy)
 ·rename_i p q hx hy
  cases hb:has T.b t with
  | false=>rw[hb] at h;cases h
  | true=>
   rw[hb] at h
   simp only[cond_true] at h
   cases o <;> first
    | (cases h;done)
    | (cases h;first | exact Zb (T.bo hb) hx hy | exact Za (T.bo hb) hx hy)
 ·cases h
theorem L2 {cs:List AV} {off:Nat} {i:Bool×Nat} {v:AV} (h:PH [] cs off i=some v):(i.1=false∧cs[off]?=some v)∨(i.1=true∧off+i.2≤cs.length∧v=.agg ((cs.drop off).take i.2)):=by
 obtain⟨b,sz⟩:=i
 cases b with
 | false=>
  simp only[PH] at h
  obtain⟨a,h1,h2⟩:=Option.bind_eq_some_iff.1 h
  rw[h1,Nb h2];exact .inl ⟨rfl,rfl⟩
 | true=>
  simp only[PH] at h
  cases hb:Nat.ble (off+sz) cs.length with
  | false=>rw[hb] at h;cases h
  | true=>rw[hb] at h;cases h;exact .inr ⟨rfl,Nat.le_of_ble_eq_true hb,rfl⟩
theorem XF {s:St} {t:TypeId} {x:Operand} {v:AV} (h:WD T s t (s.ev x)=some v):AQ P s (.load t x) v:=by
 unfold WD at h
 split at h
 ·rename_i cs off hx
  obtain⟨⟨b,sz⟩,h1,h2⟩:=Option.bind_eq_some_iff.1 h
  rcases L2 h2 with ⟨hb,h3⟩ | ⟨hb,h3,rfl⟩ <;> simp only at hb <;> subst hb
  ·exact ZR (JW.ti h1) hx h3
  ·exact Yx (JW.ti h1) hx h3 rfl
 ·rename_i id g i off hx
  obtain⟨el,size,xs,hr,h⟩:=N9 h
  obtain⟨cs,hi,h⟩:=Option.bind_eq_some_iff.1 h
  obtain⟨⟨b,sz⟩,h1,h2⟩:=Option.bind_eq_some_iff.1 h
  rcases L2 h2 with ⟨hb,h3⟩ | ⟨hb,h3,rfl⟩ <;> simp only at hb <;> subst hb
  ·exact Be (JW.ti h1) hx hr hi h3
  ·exact Fe (JW.ti h1) hx hr hi h3 rfl
 ·cases h
theorem Te {s:St} {op:Op} {v:AV} (h:qE T s op=some v):AQ P s op v:=by
 unfold qE at h
 split at h
 ·exact bO (Nb h)
 ·exact cM (Nb h)
 ·exact Xy h
 ·split at h
  ·rename_i hx;cases h;exact aC hx
  ·cases h
 ·split at h
  ·rename_i hx;cases h;exact Z3 hx
  ·cases h
 ·split at h
  ·rename_i vs hx
   obtain⟨a,h1,h2⟩:=Option.bind_eq_some_iff.1 h
   rw[Nb h2] at h1
   exact bl hx h1
  ·cases h
 ·split at h
  ·rename_i hx
   obtain⟨el,size,xs,hr,h⟩:=N9 h
   cases h
   exact Zo hx hr
  ·rename_i hx;cases h;exact ZW hx
  ·cases h
 ·split at h
  ·rename_i hx
   obtain⟨j,h1,h2⟩:=Option.bind_eq_some_iff.1 h
   cases h2
   exact Z9 (S5 h1) hx rfl
  ·rename_i hx
   obtain⟨j,h1,h2⟩:=Option.bind_eq_some_iff.1 h
   obtain⟨el,size,xs,hr,h2⟩:=N9 h2
   simp only at h2
   cases hb:Nat.ble (_+j) size with
   | false=>rw[hb] at h2;cases h2
   | true=>rw[hb] at h2;cases h2;exact ZT (S5 h1) hx hr (Nat.le_of_ble_eq_true hb) rfl
  ·cases h
 ·exact XF h
 ·split at h
  ·rename_i hx
   obtain⟨⟨o,b,sz⟩,h1,h2⟩:=Option.bind_eq_some_iff.1 h
   rcases L2 h2 with ⟨hb,h3⟩ | ⟨hb,h3,rfl⟩ <;> simp only at hb <;> subst hb
   ·exact bM (TA h1) hx h3
   ·exact Zi (TA h1) hx h3 rfl
  ·cases h
 ·cases h
abbrev ow {α:Type} (i g:Nat) (l:List α):AV:=.own i g l.length
abbrev ro {α:Type} (g el size:Nat) (enc:α→List AV) (l:List α):Row:=⟨g,el,size,l.map enc⟩
abbrev ls {α:Type} (enc:α→List AV) (l:List α):AV:=.sl (l.map enc)
def Zv:AV→Option Bool
 | .bool b=>some b
 | _=>none
theorem OY {v:AV} {b:Bool} (h:Zv v=some b):v=.bool b:=by cases v <;> cases h;rfl
def gE (ds:List (Option Tmp)) (jj:Nat) (e:Nat→AV):Option Bool:=
 match ds[jj]? with
 | some (some t)=>Zv (e t)
 | _=>none
def uE (ds:List (Option Tmp)) (jj:Nat) (e:Nat→AV):Bool:=
 match ds[jj]? with
 | some (some t)=>match e t with
  | .un=>true
  | _=>false
 | _=>false
section
variable {P : Program} {k : Nat} {ops : Array Oper} {Q : Exit → St → Prop} {ds : List (Option Tmp)} {r : List Oper} {n : Nat} {e : Nat → AV} {st st' : List Row} {op : Op} {ty t' : TypeId} {ps : String} {ed : Array Edge} {d : Option Tmp} {t : Tmp} {v v' : AV}
variable {jj : Nat} {want b p : Bool} {tg : Tmp} {gd : Option (Nat × Bool)} {x y c : Operand} {KS : St → Prop}
theorem V3 (h:gE ds jj e=some b) (hb:b=want):GO ds (some (jj,want)) e:=by
 unfold gE at h
 split at h
 ·rename_i tg hj;exact A9 hj (OY h) hb
 ·cases h
def qL (T:JW P) (s:St) (op:Op):Option AV:=bif IY op then none else qE T s op
theorem Lx {s:St} (h:qL T s op=some v):IY op=false∧qE T s op=some v:=by
 unfold qL at h
 cases hl:IY op with
 | true=>rw[hl] at h;cases h
 | false=>rw[hl] at h;exact⟨rfl,h⟩
def gL (T:JW P) (ds:List (Option Tmp)) (jj:Nat) (s:St) (op:Op):Option (Bool×AV):=
 match gE ds jj s.env with
 | some b=>match qL T s op with
  | some v=>some (b,v)
  | none=>none
 | none=>none
theorem LI {s:St} (h:gL T ds jj s op=some (b,v)):gE ds jj s.env=some b∧IY op=false∧qE T s op=some v:=by
 unfold gL at h
 split at h
 ·rename_i b' hg
  split at h
  ·rename_i v' hv
   cases h
   exact⟨hg,Lx hv⟩
  ·cases h
 ·cases h
def pE (s:St) (c x:Operand):Option (Bool×AV):=
 match Zv (s.ev c) with
 | some b=>match fo (s.ev x) with
  | some v=>some (b,v)
  | none=>none
 | none=>none
theorem JL {s:St} {c x:Operand} (h:pE s c x=some (b,v)):s.ev c=.bool b∧s.ev x=v:=by
 unfold pE at h
 split at h
 ·rename_i b' hg
  split at h
  ·rename_i v' hv
   cases h
   exact⟨OY hg,Nb hv⟩
  ·cases h
 ·cases h
theorem zq (T:JW P) (h:qL T ⟨n,e,st⟩ op=some v) (hk:AO P k ops Q (ds ++ [some t]) r ⟨n,FL e t v,st⟩):AO P k ops Q ds (⟨some t,op,ty,ps,ed,none⟩ :: r) ⟨n,e,st⟩:=A5 Aa (Lx h).1 (Te (Lx h).2) hk
theorem zg (T:JW P) (hb:b=want) (h:gL T ds jj ⟨n,e,st⟩ op=some (b,v)) (hk:AO P k ops Q (ds ++ [some t]) r ⟨n,FL e t v,st⟩):AO P k ops Q ds (⟨some t,op,ty,ps,ed,some (jj,want)⟩ :: r) ⟨n,e,st⟩:=A5 (V3 (LI h).1 hb) (LI h).2.1 (Te (LI h).2.2) hk
theorem zz (v:AV) (h:AQ P ⟨n,e,st⟩ op v) (hl:IY op=false) (hk:AO P k ops Q (ds ++ [some t]) r ⟨n,FL e t v,st⟩):AO P k ops Q ds (⟨some t,op,ty,ps,ed,none⟩ :: r) ⟨n,e,st⟩:=A5 Aa hl h hk
theorem yq (T:JW P) (h:qL T ⟨n,e,st⟩ op=some v) (hk:DE P (ds ++ [some t]) r KS ⟨n,FL e t v,st⟩):DE P ds (⟨some t,op,ty,ps,ed,none⟩ :: r) KS ⟨n,e,st⟩:=Dg Aa (Lx h).1 (Te (Lx h).2) hk
theorem yg (T:JW P) (hb:b=want) (h:gL T ds jj ⟨n,e,st⟩ op=some (b,v)) (hk:DE P (ds ++ [some t]) r KS ⟨n,FL e t v,st⟩):DE P ds (⟨some t,op,ty,ps,ed,some (jj,want)⟩ :: r) KS ⟨n,e,st⟩:=Dg (V3 (LI h).1 hb) (LI h).2.1 (Te (LI h).2.2) hk
theorem yz (v:AV) (h:AQ P ⟨n,e,st⟩ op v) (hl:IY op=false) (hk:DE P (ds ++ [some t]) r KS ⟨n,FL e t v,st⟩):DE P ds (⟨some t,op,ty,ps,ed,none⟩ :: r) KS ⟨n,e,st⟩:=Dg Aa hl h hk
theorem zs (hb:b=!want) (hg:gE ds jj e=some b) (h:AO P k ops Q (ds ++ [some t]) r ⟨n,FL e t .un,st⟩):AO P k ops Q ds (⟨some t,op,ty,ps,ed,some (jj,want)⟩ :: r) ⟨n,e,st⟩:=by
 unfold gE at hg
 split at hg
 ·rename_i tg hj;exact ZG hj (OY hg) hb h
 ·cases hg
theorem ys (hb:b=!want) (hg:gE ds jj e=some b) (h:DE P (ds ++ [some t]) r KS ⟨n,FL e t .un,st⟩):DE P ds (⟨some t,op,ty,ps,ed,some (jj,want)⟩ :: r) KS ⟨n,e,st⟩:=by
 unfold gE at hg
 split at hg
 ·rename_i tg hj;exact Zg hj (OY hg) hb h
 ·cases hg
theorem VO (hu:uE ds jj e=true) :∃tg,ds[jj]?=some (some tg)∧e tg=.un:=by
 unfold uE at hu
 split at hu
 ·rename_i tg hj
  refine⟨tg,hj,?_⟩
  cases he:e tg <;> rw[he] at hu <;> cases hu
 ·cases hu
theorem zn (hu:uE ds jj e=true) (h:AO P k ops Q (ds ++ [some t]) r ⟨n,FL e t .un,st⟩):AO P k ops Q ds (⟨some t,op,ty,ps,ed,some (jj,want)⟩ :: r) ⟨n,e,st⟩:=by
 obtain⟨tg,h1,h2⟩:=VO hu
 exact YW h1 h2 h
theorem yn (hu:uE ds jj e=true) (h:DE P (ds ++ [some t]) r KS ⟨n,FL e t .un,st⟩):DE P ds (⟨some t,op,ty,ps,ed,some (jj,want)⟩ :: r) KS ⟨n,e,st⟩:=by
 obtain⟨tg,h1,h2⟩:=VO hu
 exact Zq h1 h2 h
def Uo (T:JW P) (n:Nat) (st:List Row):List Oper→(Nat→AV)→Option (Nat→AV)
 | [],e=>some e
 | ⟨some t,op,_,_,_,none⟩ :: r,e=>match qL T ⟨n,e,st⟩ op with
  | some v=>Uo T n st r (FL e t v)
  | none=>none
 | _,_=>none
theorem UX {T:JW P} :∀{l:List Oper} {e e':Nat→AV} {ds:List (Option Tmp)},Uo T n st l e=some e'→(∀ds,AO P k ops Q ds [] ⟨n,e',st⟩)→AO P k ops Q ds l ⟨n,e,st⟩
 | [],e,e',ds,h,hk=>by
  simp only[Uo,Option.some.injEq] at h
  subst h;exact hk ds
 | o :: r,e,e',ds,h,hk=>by
  unfold Uo at h
  split at h
  ·rename_i h0;cases h0
  ·rename_i t op ty ps ed r' e0 h0
   cases h0
   split at h
   ·rename_i v hv;exact zq T hv (UX h hk)
   ·cases h
  ·cases h
def runN (T:JW P) (n:Nat) (st:List Row):Nat→List Oper→List (Option Tmp)→(Nat→AV)→Option (List Oper×List (Option Tmp)×(Nat→AV))
 | 0,l,ds,e=>some (l,ds,e)
 | m+1,⟨some t,op,_,_,_,none⟩ :: r,ds,e=>match qL T ⟨n,e,st⟩ op with
  | some v=>runN T n st m r (ds ++ [some t]) (FL e t v)
  | none=>none
 | _,_,_,_=>none
theorem zm (T:JW P) :∀(m:Nat) {l l':List Oper} {e e':Nat→AV} {ds ds':List (Option Tmp)},runN T n st m l ds e=some (l',ds',e')→AO P k ops Q ds' l' ⟨n,e',st⟩→AO P k ops Q ds l ⟨n,e,st⟩
 | 0,l,l',e,e',ds,ds',h,hk=>by
  simp only[runN,Option.some.injEq,Prod.mk.injEq] at h
  obtain⟨rfl,rfl,rfl⟩:=h;exact hk
 | m+1,[],l',e,e',ds,ds',h,hk=>by simp[runN] at h
 | m+1,o :: r,l',e,e',ds,ds',h,hk=>by
  unfold runN at h
  split at h
  ·rename_i h0;cases h0
  ·rename_i m0 t op ty ps ed r' hm h0
   cases h0;cases hm
   split at h
   ·rename_i v hv;exact zq T hv (zm T m h hk)
   ·cases h
  ·cases h
theorem zt (hp:p=true) (h:pE ⟨n,e,st⟩ c x=some (p,v)) (hk:AO P k ops Q (ds ++ [some t]) r ⟨n,FL e t v,st⟩):AO P k ops Q ds (⟨some t,.pick c x y,ty,ps,ed,none⟩ :: r) ⟨n,e,st⟩:=A5 Aa rfl (Bq (JL h).1 hp (JL h).2) hk
theorem zf (hp:p=false) (h:pE ⟨n,e,st⟩ c y=some (p,v)) (hk:AO P k ops Q (ds ++ [some t]) r ⟨n,FL e t v,st⟩):AO P k ops Q ds (⟨some t,.pick c x y,ty,ps,ed,none⟩ :: r) ⟨n,e,st⟩:=A5 Aa rfl (CA (JL h).1 hp (JL h).2) hk
theorem yt (hp:p=true) (h:pE ⟨n,e,st⟩ c x=some (p,v)) (hk:DE P (ds ++ [some t]) r KS ⟨n,FL e t v,st⟩):DE P ds (⟨some t,.pick c x y,ty,ps,ed,none⟩ :: r) KS ⟨n,e,st⟩:=Dg Aa rfl (Bq (JL h).1 hp (JL h).2) hk
theorem yf (hp:p=false) (h:pE ⟨n,e,st⟩ c y=some (p,v)) (hk:DE P (ds ++ [some t]) r KS ⟨n,FL e t v,st⟩):DE P ds (⟨some t,.pick c x y,ty,ps,ed,none⟩ :: r) KS ⟨n,e,st⟩:=Dg Aa rfl (CA (JL h).1 hp (JL h).2) hk
variable {α : Type} {l : List α} {enc : α → List AV} {kk : IntKind} {j : Int} {u : α} {el size bytes : Nat} {zz : List AV}
theorem zl (T:JW P) (hs:has T.s t'=true) (hx:St.ev ⟨n,e,st⟩ x=.sl (l.map enc)) (hk:AO P k ops Q (ds ++ [some t]) r ⟨n,FL e t (i64 (Sh.len l)),st⟩):AO P k ops Q ds (⟨some t,.call ⟨.builtin .len,#[x],#[t']⟩,ty,ps,ed,none⟩ :: r) ⟨n,e,st⟩:=A5 Aa rfl (BK (T.sl hs) hx) hk
theorem yl (T:JW P) (hs:has T.s t'=true) (hx:St.ev ⟨n,e,st⟩ x=.sl (l.map enc)) (hk:DE P (ds ++ [some t]) r KS ⟨n,FL e t (i64 (Sh.len l)),st⟩):DE P ds (⟨some t,.call ⟨.builtin .len,#[x],#[t']⟩,ty,ps,ed,none⟩ :: r) KS ⟨n,e,st⟩:=Dg Aa rfl (BK (T.sl hs) hx) hk
theorem zx (he:Cn P t'=some ⟨el,size,bytes,zz⟩) (hg:Sh.get l j=some u) (hx:St.ev ⟨n,e,st⟩ x=.sl (l.map enc)) (hy:St.ev ⟨n,e,st⟩ y=.int kk j) (hs:(enc u).length=size) (hk:AO P k ops Q (ds ++ [some t]) r ⟨n,FL e t (.Bh (enc u) 0),st⟩):AO P k ops Q ds (⟨some t,.indexAddr t' x y,ty,ps,ed,none⟩ :: r) ⟨n,e,st⟩:=A5 Aa rfl (Bg he hx hy hg hs) hk
theorem yx (he:Cn P t'=some ⟨el,size,bytes,zz⟩) (hg:Sh.get l j=some u) (hx:St.ev ⟨n,e,st⟩ x=.sl (l.map enc)) (hy:St.ev ⟨n,e,st⟩ y=.int kk j) (hs:(enc u).length=size) (hk:DE P (ds ++ [some t]) r KS ⟨n,FL e t (.Bh (enc u) 0),st⟩):DE P ds (⟨some t,.indexAddr t' x y,ty,ps,ed,none⟩ :: r) KS ⟨n,e,st⟩:=Dg Aa rfl (Bg he hx hy hg hs) hk
variable {f : FuncId} {ars : Array Operand} {ts : Array TypeId} {args : List AV}
theorem zd (hbw:b=want) (hb:AZ P f=true) (hc:AY P f args [] fun r st=>r=v∧st=[]) (ha:ars.toList.map (St.ev ⟨n,e,st⟩) ++ []=args) (hf:args.all flat=true) (hv:fo (shift st.length v)=some v')
  (hg:gE ds jj e=some b) (hk:AO P k ops Q (ds ++ [d]) r (St.put ⟨n,e,st⟩ d v')):AO P k ops Q ds (⟨d,.call ⟨.value (.func f),ars,ts⟩,ty,ps,ed,some (jj,want)⟩ :: r) ⟨n,e,st⟩:=
 BL (V3 hg hbw) hb hc ha hf trivial (Nb hv) (List.append_nil st) hk
theorem zc (hb:AZ P f=true) (hc:AY P f args [] fun r st=>r=v∧st=[]) (ha:ars.toList.map (St.ev ⟨n,e,st⟩) ++ []=args) (hf:args.all flat=true) (hv:fo (shift st.length v)=some v')
  (hk:AO P k ops Q (ds ++ [d]) r (St.put ⟨n,e,st⟩ d v')):AO P k ops Q ds (⟨d,.call ⟨.value (.func f),ars,ts⟩,ty,ps,ed,none⟩ :: r) ⟨n,e,st⟩:=
 BL Aa hb hc ha hf trivial (Nb hv) (List.append_nil st) hk
theorem sr {id:Nat} {y:Code} {s:St} (hd:(ops.toList.all fun o=>Ep s.n o.dst)=true) (h :∀K:St→Prop,(∀s,AW P k y Q s→K s)→AO P k ops (UK K Q) [] ops.toList s):AW P k (.seq (.region id ops false) y) Q s:=
 AB fun K hK=>AF hd (h K hK)
def Sw:Nat→List AV→List (Nat×AV)
 | _,[]=>[]
 | i,a :: r=>(i,a) :: Sw (i+1) r
theorem TO :∀(l:List AV) (i t:Nat),AS (Sw i l) t=if t < i then .EI else (l[t - i]?).getD .EI
 | [],i,t=>by simp[Sw,AS]
 | a :: r,i,t=>by
  simp only[Sw,AS,TO r (i+1) t]
  by_cases h:t=i
  ·subst h;simp
  ·by_cases h2:t < i
   ·simp[h,h2,Nat.lt_succ_of_lt h2]
   ·obtain⟨d,hd⟩ :∃d,t - i=d+1:=⟨t - i - 1,by omega⟩
    have h3:¬ t < i+1:=by omega
    simp[h,h2,h3,hd,show t - (i+1)=d by omega]
theorem ai {k N:Nat} {f:FuncId} {fn:Func} {c:Code} {args:List AV} {st:List Row} {R:AV→List Row→Prop} (hf:P.funcs[f]?=some fn) (hb:fn.body=some c) (hN:fn.ntmps=N) (hn:Nat.ble args.length N=true) (hk:st.length=k)
  (h:AW P k c (aT P k fn R) ⟨N,AS (Sw 0 args),st⟩):AY P f args st R:=by
 subst hN;subst hk
 refine AY.intro hf hb (Nat.le_of_ble_eq_true hn) ?_
 have e:R4 args=AS (Sw 0 args):=by
  funext t
  rw[TO]
  simp[R4,List.getD_eq_getElem?_getD]
 rw[e];exact h
theorem zr (T:JW P) {id:Nat} {y:Code} {e':Nat→AV} (h:Uo T n st ops.toList e=some e') (hd:(ops.toList.all fun o=>Ep n o.dst)=true) (hk:AW P k y Q ⟨n,e',st⟩):AW P k (.seq (.region id ops false) y) Q ⟨n,e,st⟩:=
 AB fun K hK=>AF hd (UX h fun ds=>AD (hK _ hk))
theorem dn {s:St} {K p:St→Prop} (hK :∀s,p s→K s) (hq:Q .normal s=K s) (h:p s):AO P k ops Q ds [] s:=AD (hq ▸ hK s h)
theorem ci {α:Type} {o:Operand} {x y:Code} {s:St} {A B C:α} (h:(if b=true then A else B)=C) (ho:Zv (s.ev o)=some b) (h1:b=true→A=C→AW P k x Q s) (h2:b=false→B=C→AW P k y Q s):AW P k (.cond o x y) Q s:=
 L9 (OY ho) (fun hb=>h1 hb (by rw[← h,if_pos hb])) (fun hb=>h2 hb (by rw[← h,if_neg (by rw[hb];decide)]))
theorem bs {α β:Type} {x:Option α} {f:α→Option β} {r:β} {G:Prop} (h:x.bind f=some r) (k :∀v,x=some v→f v=some r→G):G:=
 let ⟨v,h1,h2⟩:=Sh.bind_some h;k v h1 h2
theorem xi {α:Type} {p q:α→Prop} (a:α) (h:p a) (g:q a) :∃a,p a∧q a:=⟨a,h,g⟩
theorem xr {α:Type} {p q:α→Prop} {a:α} (h:p a) (g:q a:=by exact And.intro rfl rfl) :∃a,p a∧q a:=⟨a,h,g⟩
def X1 (e:Nat→AV):List (Nat×AV)→List AV
 | []=>[]
 | (t,_) :: r=>e t :: X1 e r
def ZJ:List (Nat×AV)→List AV
 | []=>[]
 | (_,v) :: r=>v :: ZJ r
theorem ME.of {e:Nat→AV} :∀{L:List (Nat×AV)},X1 e L=ZJ L→ME e L
 | [],_=>trivial
 | (t,v) :: r,h=>by
  simp only[X1,ZJ,List.cons.injEq] at h
  exact⟨le.of h.1,ME.of h.2⟩
theorem AE {L:List (Nat×AV)} (h:X1 e L=ZJ L):Wk k ⟨n,e,st⟩ ⟨n,AS L,st⟩:=AM (ME.of h)
theorem AR (L:List (Nat×AV)) (h:X1 (fun t=>Jq [] (e t)) L=ZJ L):Wk 0 ⟨n,e,st⟩ ⟨n,AS L,[]⟩:=
 AP (L:=L) (st':=[]) (st1:=[]) [] rfl .nil (by decide) rfl rfl .nil (ME.of h)
end
end Go.Abs

