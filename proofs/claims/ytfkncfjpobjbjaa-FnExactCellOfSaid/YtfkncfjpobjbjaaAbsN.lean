import Derived.Test.YtfkncfjpobjbjaaAbsM
set_option linter.all false
namespace Sh
open Go
def w (n:Int):Int:=IntKind.i64.wrap n
def wk (k:IntKind)(n:Int):Int:=k.wrap n
def get {α:Type}(l:List α)(j:Int):Option α:=if 0<=j then l[j.toNat]? else none
def put {α:Type}(l:List α)(j:Int)(x:α):List α:=l.set j.toNat x
def len {α:Type}(l:List α):Int:=l.length
def mk {α:Type}(x:α)(j:Int)(bytes:Nat):Option (List α):=if 0<=j/\j*bytes<=281474976710656/\j<=9223372036854775807 then some (List.replicate j.toNat x) else none
def app {α:Type}(l m:List α)(bytes:Nat):Option (List α):=if (l.length+m.length)*bytes<=140737488355328/\l.length+m.length<=9223372036854775807 then some (l++m) else none
def hi {α:Type}(l:List α)(j:Int):Option (List α):=if 0<=j/\j<=l.length then some (l.take j.toNat) else none
def lo {α:Type}(l:List α)(j:Int):Option (List α):=if 0<=j/\j<=l.length then some (l.drop j.toNat) else none
def sl {α:Type}(l:List α)(i j:Int):Option (List α):=if 0<=i/\i<=j/\j<=l.length then some ((l.take j.toNat).drop i.toNat) else none
def quo (a b:Int):Option Int:=if b=0 then none else some (w (a.tdiv b))
def rem (a b:Int):Option Int:=if b=0 then none else some (a.tmod b)
def xor (a b:Int):Int:=IntKind.i64.wrap (BitVec.ofInt 64 a ^^^ BitVec.ofInt 64 b).toNat
theorem get_some {α:Type}{l:List α}{j:Int}{c:α}(h:get l j=some c):0<=j/\l[j.toNat]?=some c/\j<l.length:=by
 unfold get at h;split at h
 ·rename_i h0;have:=(Rq.1 h).1;exact⟨h0,h,by omega⟩
 ·cases h
theorem bind_some {α β:Type}{x:Option α}{f:α->Option β}{r:β}(h:x.bind f=some r):∃v,x=some v/\f v=some r:=by
 cases x with
 | none=>cases h
 | some v=>exact⟨v,rfl,h⟩
theorem DI {α:Type}{l:List α}{j:Int}{x:α}:(put l j x).length=l.length:=by simp[put]
theorem AA {α:Type}{a b:α}(h:some a=some b):a=b:=T3 h
def cont {ρ σ β:Type}(o:Option (ρ ⊕ σ))(g:ρ->β)(f:σ->Option β):Option β:=
 match o with
 | none=>none
 | some (.inl r)=>some (g r)
 | some (.inr v)=>f v
theorem An {ρ σ β:Type}{o:Option (ρ ⊕ σ)}{g:ρ->β}{f:σ->Option β}{b:β}(h:cont o g f=some b):
  ∃v,o=some v/\(match v with|.inl r=>some (g r)|.inr v=>f v)=some b:=by
 unfold cont at h;split at h
 ·cases h
 ·exact⟨_,rfl,h⟩
 ·exact⟨_,rfl,h⟩
@[simp] theorem Qt {ρ σ β:Type}(r:ρ)(g:ρ->β)(f:σ->Option β):cont (some (.inl r)) g f=some (g r):=rfl
@[simp] theorem Eh {ρ σ β:Type}(v:σ)(g:ρ->β)(f:σ->Option β):cont (some (.inr v)) g f=f v:=rfl
theorem Aa {α:Type}{b:Bool}{x y:Option α}{r:α}(h:(if b=true then x else y)=some r):(b=true/\x=some r)∨(b=false/\y=some r):=by
 cases b
 ·exact .inr ⟨rfl,h⟩
 ·exact .inl ⟨rfl,h⟩
end Sh
namespace Go.Abs
open Go
def AX:List (Nat×AV)->Nat->AV
 | [],_=>.Bl
 | (t,v)::r,k=>if k=t then v else AX r k
def le (a b:AV):Prop:=∀F w os u,AF F w os a u->AF F w os b u
theorem le.rfl {a:AV}:le a a:=λ_ _ _ _ h=>h
theorem Jj {a b:AV}(h:a=b):le a b:=h▸le.rfl
theorem le.Bl {a:AV}:le a .Bl:=λ_ _ _ _ _=>by simp[AF]
def Om:List AV->List AV->Prop
 | [],[]=>True
 | a::r,b::r'=>le a b/\Om r r'
 | _,_=>False
theorem Om.rep {F:Nat->Prop}{w:World}{os:List Own}:∀{xs ys:List AV} {us:List Value},Om xs ys->Ad F w os xs us->Ad F w os ys us
 | [],[],_,_,h=>h
 | a::r,b::r',us,h,h'=>by
  simp only[Ad]at h' ⊢;obtain⟨u,VR,e,h1,h2⟩:=h';exact⟨u,VR,e,h.1 _ _ _ _ h1,Om.rep h.2 h2⟩
 | [],_::_,_,h,_=>h.elim
 | _::_,[],_,h,_=>h.elim
theorem le.agg {xs ys:List AV}(h:Om xs ys):le (.agg xs) (.agg ys):=λF w os u hu=>by
 simp only[AF]at hu⊢;obtain⟨us,e,hl⟩:=hu;exact⟨us,e,h.rep hl⟩
def ME (e:Nat->AV):List (Nat×AV)->Prop
 | []=>True
 | (t,v)::r=>le (e t) v/\ME e r
theorem le.len {id g m m':Nat}(h:m=m'):le (.own id g m) (.own id g m'):=h▸le.rfl
theorem ME.le {e:Nat->AV}:∀{L:List (Nat×AV)},ME e L->∀t,le (e t) (AX L t)
 | [],_,_=>le.Bl
 | (t',v)::r,h,t=>by
  simp only[AX];split
  ·rename_i ht;subst ht;exact h.1
  ·exact ME.le h.2 t
variable {k n : Nat} {e : Nat -> AV} {st st' : List Row} {L : List (Nat × AV)}
theorem Wk.Qc {e':Nat->AV}(h :∀t,le (e t) (e' t)):Wk k ⟨n,e,st⟩ ⟨n,e',st⟩:=λF os _ w hr=>
 ⟨F,os,⟨hr.st,λt=>h t _ _ _ _ (hr.env t),hr.size,hr.rows,hr.inj,hr.CL,hr.defers⟩,BN _ _ _ _⟩
theorem AR (h:ME e L):Wk k ⟨n,e,st⟩ ⟨n,AX L,st⟩:=Wk.Qc h.le
theorem le.DT {α:Type}{id g m:Nat}{l:List α}{enc:α->List AV}(h:m=l.length):le (DT id g (l.map enc) (.own id g m)) (.sl (l.map enc)):=by
 subst h;refine Jj ?_;rw[PI,<- SF (f:=enc) (as:=l),Sy,SL]
theorem NM {α:Type}{id g m:Nat}{l:List α}{enc:α->List AV}(h:m=l.length):Dk id g (l.map enc) (.own id g m)=.sl (l.map enc):=by
 subst h;rw[N9,<- SF (f:=enc) (as:=l),Sy,SL]
theorem Wk.DT {id g size:Nat}{el:TypeId}{xs:List (List AV)}(T4:st[id]?=some ⟨g,el,size,xs⟩)(WJ:k<=id)(hp:C1 xs)
  (h:ME (λt=>Abs.DT id g xs (e t)) L) (UL:st.set id ⟨g+1,el,size,[]⟩=st'):Wk k ⟨n,e,st⟩ ⟨n,AX L,st'⟩:=by
 subst UL;exact (Wk.freeze (s:=⟨n,e,st⟩) WJ T4 hp).trans (AR h)
def JZ (AP:List Nat):List Row->Prop
 | []=>True
 | row::r=>(∀x∈row.xs,∀c∈x,stays AP c=true)/\JZ AP r
theorem JZ.deep {AP:List Nat}{row:Row}{r:List Row}(h:Au row.xs)(hr:JZ AP r):JZ AP (row::r):=⟨λx hx c hc=>by
 have:=h x hx c hc;cases c<;>simp[BQ,simple,stays]at this⊢,hr⟩
theorem JZ.pure {AP:List Nat}{row:Row}{r:List Row}(h:C1 row.xs)(hr:JZ AP r):JZ AP (row::r):=.deep h.any hr
theorem JZ.get {AP:List Nat}:∀{l:List Row},JZ AP l->∀row∈l,∀x∈row.xs,∀c∈x,stays AP c=true
 | row::r,h,row',hm=>by
  rcases SE.1 hm with rfl|hm
  ·exact h.1
  ·exact JZ.get h.2 row' hm
theorem KR (AP:List Nat)(hk:AP.take k=List.range k)(VM:AP.Nodup)(UM:AP.all (·<st.length)=true)(UL:BM st AP=st')(hr:JZ AP st')(h:ME (λt=>E0 AP (e t)) L):
  Wk k ⟨n,e,st⟩ ⟨n,AX L,st'⟩:=by
 subst UL;refine (Wk.select (s:=⟨n,e,st⟩) AP (λi hi=>?_) VM (λi hi=>by simpa using Ry.1 UM i hi) (λi hi row T4=>?_)).trans (AR h)
 ·have h1:(AP.take k)[i]?=some i:=by rw[hk];simp[hi]
  rw[SB]at h1;simpa [hi] using h1
 ·exact hr.get row (Su.2 ⟨i,hi,T4⟩)
def Jn (st:List Row):AV->AV
 | .own id g n=>match st[id]? with
  | some row=>if row.gen=g then .own id 0 n else .Bl
  | none=>.Bl
 | .ptr id g i off=>match st[id]? with
  | some row=>if row.gen=g then .ptr id 0 i off else .Bl
  | none=>.Bl
 | .fn ..|.agg _|.BB _=>.Bl
 | v=>v
def Ir (st:List Row)(x:AV):AV:=two (Jn st) x
def rg (st:List Row):AV->AV
 | .fn f cs=>.fn f (cs.map (Ir st))
 | .agg cs=>.agg (cs.map (Ir st))
 | .BB cs=>.BB (cs.map (Ir st))
 | v=>Ir st v
def DE (st:List Row)(row:Row):Row:={ row with gen:=0,xs:=row.xs.map (·.map (Ir st)) }
def DV (st:List Row)(o:Own):Own:={ o with row:=DE st o.row }
theorem O2 {F:Nat->Prop}{w:World}{os:List Own}(UL:os.map Own.row=st){x:AV}{v:Value}(h:AF F w os x v):AF F w (os.map (DV st)) (Jn st x) v:=by
 have hs:∀{id:Nat} {o:Own},os[id]?=some o->st[id]?=some o.row:=λ{id o} ho=>by rw[<- UL,Rs,ho];rfl
 cases x with
 | own id g n=>
  simp only[AF]at h;obtain⟨o,ho,hle,hsh,hv⟩:=h;simp only[Jn,hs ho];split
  ·rename_i e;obtain⟨h1,h2⟩:=hv e;simp only[AF];exact⟨DV st o,by simp[ho],SA _,hsh,λ_=>⟨by simpa [DV,DE] using h1,by simpa [DV,DE] using h2⟩⟩
  ·simp[AF]
 | ptr id g i off=>
  simp only[AF]at h;obtain⟨o,ho,hle,hsh,hv⟩:=h;simp only[Jn,hs ho];split
  ·rename_i e;obtain⟨h1,h2,h3⟩:=hv e;simp only[AF];exact⟨DV st o,by simp[ho],SA _,hsh,λ_=>⟨by simpa [DV,DE] using h1,h2,h3⟩⟩
  ·simp[AF]
 | fn f Ul=>simp[Jn,AF]
 | agg cs=>simp[Jn,AF]
 | BB cs=>simp[Jn,AF]
 | _=>simp only[Jn,AF]at h⊢<;>exact h
theorem Jw {F:Nat->Prop}{w:World}{os:List Own}(UL:os.map Own.row=st){x:AV}{v:Value}(h:AF F w os x v):AF F w (os.map (DV st)) (Ir st x) v:=
 FL (λ_ _ h=>O2 UL h) _ _ h
theorem IG {F:Nat->Prop}{w:World}{os:List Own}(UL:os.map Own.row=st){xs:List AV}{us:List Value}(h:Ad F w os xs us):Ad F w (os.map (DV st)) (xs.map (Ir st)) us:=
 BP (by simp[Ab h]) λi x u hx hu=>by
  simp only[Rs,Rv]at hx;obtain⟨y,hy,rfl⟩:=hx;obtain⟨u',VJ,hr⟩:=Al h i y hy;rw[VJ]at hu;cases hu;exact Jw UL hr
theorem Pf {F:Nat->Prop}{w:World}{os:List Own}(UL:os.map Own.row=st){x:AV}{v:Value}(h:AF F w os x v):AF F w (os.map (DV st)) (rg st x) v:=by
 cases x with
 | fn f cs=>simp only[rg,AF]at h⊢;obtain⟨us,e,hl⟩:=h;exact⟨us,e,IG UL hl⟩
 | agg cs=>simp only[rg,AF]at h⊢;obtain⟨us,e,hl⟩:=h;exact⟨us,e,IG UL hl⟩
 | BB cs=>simp only[rg,AF]at h⊢;obtain⟨us,e,hl⟩:=h;exact⟨us,e,IG UL hl⟩
 | _=>exact Jw UL h
def Ee (st:List Row):Prop:=∀row∈st,∀x∈row.xs,∀c∈x,c.kept=true
theorem P0 {st:List Row}{c:AV}{el s:Nat}{ys:List (List AV)}(h:Ir st c=.dv el s ys):c=.dv el s ys:=by
 refine Lk (X:=Jn st) (λc h=>?_) h;cases c<;>simp only[Jn]at h<;>first|exact h|cases h|(split at h<;>first|cases h|(split at h<;>cases h))
theorem Wk.Qj (hl:Ee (st.map (DE st))):Wk 0 ⟨n,e,st⟩ ⟨n,λt=>rg st (e t),st.map (DE st)⟩:=λF os a w hr=>by
 have UL:=hr.st;simp only at UL;refine⟨F,os.map (DV st),⟨?_,λt=>Pf UL (hr.env t),hr.size,λi o ho=>?_,λi j oi oj b hi hj V6 V7=>?_,hr.CL,hr.defers⟩,⟨rfl,rfl,rfl,R3 _,λ_ h=>h,λ_ _=>rfl,λb _ h1 h2=>⟨rfl,h1,λo ho=>?_⟩,λi o hi=>absurd hi (Nat.not_lt_zero _)⟩⟩
 ·simp only[<- UL,Sx];congr 1
 ·rw[Rs,Rv]at ho;obtain⟨o0,ho0,rfl⟩:=ho;have T6:=hr.rows i o0 ho0;have hm:DE st o0.row∈st.map (DE st):=R9.2 ⟨o0.row,by rw[<- UL];exact R9.2 ⟨o0,Ro ho0,rfl⟩,rfl⟩;refine⟨T6.pos,λx hx=>⟨?_,hl _ hm x hx⟩,λh=>?_,λb hb=>?_,T6.mo,T6.deep.keep rfl (λ_ h=>h) rfl (λ_ _=>rfl) (λi x j e s ys hx hc=>by
   simp only[DV,DE,Rs,Rv]at hx;obtain⟨y,hy,rfl⟩:=hx;simp only[Rs,Rv]at hc;obtain⟨d,hd,hc⟩:=hc;exact⟨y,hy,by rw[hd,P0 hc]⟩)⟩
  ·simp only[DV,DE,R9]at hx;obtain⟨y,hy,rfl⟩:=hx;simpa [DV,DE] using (T6.lens y hy).1
  ·obtain⟨h1,h2⟩:=T6.none h;exact⟨by simpa [DV,DE] using FV (Ir st) (λ_ _=>rfl) h1,h2⟩
  ·obtain⟨h1,cur,h2,h3,h4,h5,h6⟩:=T6.some b hb;refine⟨h1,cur,h2,h3,by simpa [DV,DE] using h4,h5,λi' x hx j c hc=>?_⟩;simp only[DV,DE,Rs,Rv]at hx;obtain⟨y,hy,rfl⟩:=hx;simp only[Rs,Rv]at hc;obtain⟨d,hd,rfl⟩:=hc;obtain⟨u,e1,e2⟩:=h6 i' y hy j d hd;exact⟨u,e1,Jw UL e2⟩
 ·rw[Rs,Rv]at hi hj;obtain⟨Xe,hi0,rfl⟩:=hi;obtain⟨dA,hj0,rfl⟩:=hj;exact hr.inj i j Xe dA b hi0 hj0 V6 V7
 ·obtain⟨o0,h0,rfl⟩:=R9.1 ho;exact h2 o0 h0
inductive RG (st:List Row):List Row->List Row->Prop
 | nil:RG st [] []
 | deep {g size:Nat} {el:TypeId} {xs:List (List AV)} {r r':List Row} (hp:Au xs) (hl:RG st r r'):RG st (⟨g,el,size,xs⟩::r) (⟨0,el,size,xs⟩::r')
 | raw {g size:Nat} {el:TypeId} {cs cs':List AV} {r r':List Row} (hc:cs.map (Ir st)=cs') (hp:cs'.all AV.leaf=true) (hl:RG st r r'):RG st (⟨g,el,size,[cs]⟩::r) (⟨0,el,size,[cs']⟩::r')
theorem RG.pure {g size:Nat}{el:TypeId}{xs:List (List AV)}{r r':List Row}(hp:C1 xs)(hl:RG st r r'):RG st (⟨g,el,size,xs⟩::r) (⟨0,el,size,xs⟩::r'):=.deep hp.any hl
theorem Lj {c:AV}(h:BQ c=true):Ir st c=c:=by cases c<;>simp[BQ,simple,Ir,two,Jn]at h⊢
theorem RG.spec {st0:List Row}(hle :∀row∈st0,∀x∈row.xs,∀c∈x,c.kept=true):∀{l l':List Row},RG st l l'->(∀row∈l,row∈st0)->l.map (DE st)=l'/\Ee l'
 | _,_,.nil,_=>⟨rfl,λ_ h=>by cases h⟩
 | _,_,.deep hp hl,hm=>by
  obtain⟨h1,h2⟩:=RG.spec hle hl (λrow h=>hm row (Sg _ h));have Xv:=hle _ (hm _ (Ss ..));refine⟨?_,?_⟩
  ·simp only[SD,h1];congr 1;simp only[DE];congr 1;refine (R8 (g:=id) λx hx=>?_).trans (Sn _);refine (R8 (g:=id) λc hc=>?_).trans (Sn _);exact Lj (hp x hx c hc)
  ·intro row T4;rcases SE.1 T4 with rfl|h
   ·exact Xv
   ·exact h2 row h
 | _,_,.raw hc hp hl,hm=>by
  obtain⟨h1,h2⟩:=RG.spec hle hl (λrow h=>hm row (Sg _ h));refine⟨?_,?_⟩
  ·simp only[SD,h1,DE,TB,hc]
  ·intro row T4;rcases SE.1 T4 with rfl|h
   ·intro x hx c ZJ;simp only[SC]at hx;subst hx;exact Bd (Ry.1 hp c ZJ)
   ·exact h2 row h
theorem Ci (hg:RG st st st')(h:ME (λt=>Abs.rg st (e t)) L):Wk 0 ⟨n,e,st⟩ ⟨n,AX L,st'⟩:=λF os a w hr=>by
 have hle:∀row∈st,∀x∈row.xs,∀c∈x,c.kept=true:=λrow T4 x hx c hc=>by
  have UL:=hr.st;simp only at UL;rw[<- UL]at T4;obtain⟨o,ho,rfl⟩:=R9.1 T4;obtain⟨i,hi⟩:=R5.1 ho;exact ((hr.rows i o hi).lens x hx).2 c hc
 obtain⟨h1,h2⟩:=hg.spec (st0:=st) hle (λ_ h=>h);have h3:Wk 0 ⟨n,e,st⟩ ⟨n,AX L,st'⟩:=by
  have:=Wk.Qj (n:=n) (e:=e) (st:=st) (by rw[h1];exact h2);rw[h1]at this;exact this.trans (AR h)
 exact h3 F os a w hr
theorem AK {α:Type}{l:List α}{enc:α->List AV}(h :∀x,(enc x).all simple=true):C1 (l.map enc):=λx hx c hc=>by
 obtain⟨y,_,rfl⟩:=R9.1 hx;exact Ry.1 (h y) c hc
theorem By {α:Type}{l:List α}{enc:α->List AV}(h :∀x,(enc x).all simple=true):Au (l.map enc):=(AK h).any
theorem Bi {α:Type}{l:List α}{enc:α->List AV}(h :∀x,(enc x).all BQ=true):Au (l.map enc):=λx hx c hc=>by
 obtain⟨y,_,rfl⟩:=R9.1 hx;exact Ry.1 (h y) c hc
end Go.Abs
