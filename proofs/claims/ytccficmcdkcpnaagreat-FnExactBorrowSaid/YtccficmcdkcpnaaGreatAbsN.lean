import Derived.Test.YtccficmcdkcpnaaGreatAbsM
set_option linter.all false
namespace Sh
open Go
def w (n:Int):Int:=IntKind.i64.wrap n
def wk (k:IntKind)(n:Int):Int:=k.wrap n
def get {α:Type}(l:List α)(j:Int):Option α:=if 0<=j then l[j.toNat]? else none
def put {α:Type}(l:List α)(j:Int)(x:α):List α:=l.set j.toNat x
def len {α:Type}(l:List α):Int:=l.length
def mk {α:Type}(x:α)(j:Int)(bytes:Nat):Option (List α):=if 0<=j/\j*bytes<=281474976710656/\j<=9223372036854775807 then some (List.replicate j.toNat x) else none
def app {α:Type}(l m:List α)(bytes:Nat):Option (List α):=if (l.length+m.length)*bytes<=140737488355328/\l.length+m.length<=9223372036854775807 then some (l++m) else none
def hi {α:Type}(l:List α)(j:Int):Option (List α):=if 0<=j/\j<=l.length then some (l.take j.toNat) else none
def lo {α:Type}(l:List α)(j:Int):Option (List α):=if 0<=j/\j<=l.length then some (l.drop j.toNat) else none
def sl {α:Type}(l:List α)(i j:Int):Option (List α):=if 0<=i/\i<=j/\j<=l.length then some ((l.take j.toNat).drop i.toNat) else none
def quo (a b:Int):Option Int:=if b=0 then none else some (w (a.tdiv b))
def rem (a b:Int):Option Int:=if b=0 then none else some (a.tmod b)
def xor (a b:Int):Int:=IntKind.i64.wrap (BitVec.ofInt 64 a ^^^ BitVec.ofInt 64 b).toNat
theorem get_some {α:Type}{l:List α}{j:Int}{c:α}(h:get l j=some c):0<=j/\l[j.toNat]?=some c/\j<l.length:=by
 unfold get at h;split at h
 ·rename_i h0;have:=(mT.1 h).1;exact⟨h0,h,by omega⟩
 ·cases h
theorem bind_some {α β:Type}{x:Option α}{f:α->Option β}{r:β}(h:x.bind f=some r):∃v,x=some v/\f v=some r:=by
 cases x with
 | none=>cases h
 | some v=>exact⟨v,rfl,h⟩
theorem Ap {α:Type}{l:List α}{j:Int}{x:α}:(put l j x).length=l.length:=by simp[put]
theorem AF {α:Type}{a b:α}(h:some a=some b):a=b:=qf h
theorem fD {α:Type}{b:Bool}{x y r:α}(hb:b=true)(h:(if b=true then x else y)=r):x=r:=by rw[me hb]at h;exact h
theorem fI {α:Type}{b:Bool}{x y r:α}(hb:b=false)(h:(if b=true then x else y)=r):y=r:=by rw[mj (by simp[hb])]at h;exact h
def cont {ρ σ β:Type}(o:Option (ρ ⊕ σ))(g:ρ->β)(f:σ->Option β):Option β:=
 match o with
 | none=>none
 | some (.inl r)=>some (g r)
 | some (.inr v)=>f v
theorem Ar {ρ σ β:Type}{o:Option (ρ ⊕ σ)}{g:ρ->β}{f:σ->Option β}{b:β}(h:cont o g f=some b):
  ∃v,o=some v/\(match v with|.inl r=>some (g r)|.inr v=>f v)=some b:=by
 unfold cont at h;split at h
 ·cases h
 ·exact⟨_,rfl,h⟩
 ·exact⟨_,rfl,h⟩
@[simp] theorem lA {ρ σ β:Type}(r:ρ)(g:ρ->β)(f:σ->Option β):cont (some (.inl r)) g f=some (g r):=rfl
@[simp] theorem Il {ρ σ β:Type}(v:σ)(g:ρ->β)(f:σ->Option β):cont (some (.inr v)) g f=f v:=rfl
theorem Ab {α:Type}{b:Bool}{x y:Option α}{r:α}(h:(if b=true then x else y)=some r):(b=true/\x=some r)∨(b=false/\y=some r):=by
 cases b
 ·exact .inr ⟨rfl,h⟩
 ·exact .inl ⟨rfl,h⟩
end Sh
namespace Go.Abs
open Go
def AM:List (Nat×AV)->Nat->AV
 | [],_=>.FQ
 | (t,v)::r,k=>if k=t then v else AM r k
def le (a b:AV):Prop:=∀F w os u,AU F w os a u->AU F w os b u
theorem le.rfl {a:AV}:le a a:=λ_ _ _ _ h=>h
theorem le.of {a b:AV}(h:a=b):le a b:=h▸le.rfl
theorem le.FQ {a:AV}:le a .FQ:=λ_ _ _ _ _=>by simp[AU]
theorem le.zc:le .zc (.sl []):=λ_ _ _ _ h=>by
 simp only[AU]at h⊢;obtain⟨ad,e⟩:=h;exact⟨ad,0,by simpa using e,by simp,by simp⟩
def X5:List AV->List AV->Prop
 | [],[]=>True
 | a::r,b::r'=>le a b/\X5 r r'
 | _,_=>False
theorem X5.rep {F:Nat->Prop}{w:World}{os:List Own}:∀{xs ys:List AV} {us:List Value},X5 xs ys->A7 F w os xs us->A7 F w os ys us
 | [],[],_,_,h=>h
 | a::r,b::r',us,h,h'=>by
  simp only[A7]at h' ⊢;obtain⟨u,tO,e,h1,h2⟩:=h';exact⟨u,tO,e,h.1 _ _ _ _ h1,X5.rep h.2 h2⟩
 | [],_::_,_,h,_=>h.elim
 | _::_,[],_,h,_=>h.elim
theorem le.agg {xs ys:List AV}(h:X5 xs ys):le (.agg xs) (.agg ys):=λF w os u hu=>by
 simp only[AU]at hu⊢;obtain⟨us,e,hl⟩:=hu;exact⟨us,e,h.rep hl⟩
def ME (e:Nat->AV):List (Nat×AV)->Prop
 | []=>True
 | (t,v)::r=>le (e t) v/\ME e r
theorem le.len {id g m m':Nat}(h:m=m'):le (.own id g m) (.own id g m'):=h▸le.rfl
theorem ME.le {e:Nat->AV}:∀{L:List (Nat×AV)},ME e L->∀t,le (e t) (AM L t)
 | [],_,_=>le.FQ
 | (t',v)::r,h,t=>by
  simp only[AM];split
  ·rename_i ht;subst ht;exact h.1
  ·exact ME.le h.2 t
variable {k n : Nat} {e : Nat -> AV} {st st' : List Row} {L : List (Nat × AV)}
theorem Wk.jr {e':Nat->AV}(h :∀t,le (e t) (e' t)):Wk k ⟨n,e,st⟩ ⟨n,e',st⟩:=λF os _ w hr=>
 ⟨F,os,⟨hr.st,λt=>h t _ _ _ _ (hr.env t),hr.size,hr.rows,hr.inj,hr.FU,hr.defers⟩,Ext.refl _ _ _ _⟩
theorem As (h:ME e L):Wk k ⟨n,e,st⟩ ⟨n,AM L,st⟩:=Wk.jr h.le
theorem le.Ct {α:Type}{id g m:Nat}{l:List α}{enc:α->List AV}(h:m=l.length):le (Ct id g (l.map enc) (.own id g m)) (.sl (l.map enc)):=by
 subst h;refine le.of ?_;rw[ee,<- mf (f:=enc) (as:=l),oo,nP]
theorem bb {α:Type}{id g m:Nat}{l:List α}{enc:α->List AV}(h:m=l.length):Je id g (l.map enc) (.own id g m)=.sl (l.map enc):=by
 subst h;rw[cx,<- mf (f:=enc) (as:=l),oo,nP]
theorem Wk.Ct {id g size:Nat}{el:TypeId}{xs:List (List AV)}(rK:st[id]?=some ⟨g,el,size,xs⟩)(uj:k<=id)(hp:F9 xs)
  (h:ME (λt=>Abs.Ct id g xs (e t)) L) (ra:st.set id ⟨g+1,el,size,[]⟩=st'):Wk k ⟨n,e,st⟩ ⟨n,AM L,st'⟩:=by
 subst ra;exact (Wk.freeze (s:=⟨n,e,st⟩) uj rK hp).trans (As h)
def Uv (sel:List Nat):List Row->Prop
 | []=>True
 | row::r=>(∀x∈row.xs,∀c∈x,stays sel c=true)/\Uv sel r
theorem Uv.deep {sel:List Nat}{row:Row}{r:List Row}(h:B8 row.xs)(hr:Uv sel r):Uv sel (row::r):=⟨λx hx c hc=>by
 have:=h x hx c hc;cases c<;>simp[Dd,simple,stays]at this⊢,hr⟩
theorem Uv.pure {sel:List Nat}{row:Row}{r:List Row}(h:F9 row.xs)(hr:Uv sel r):Uv sel (row::r):=.deep h.any hr
theorem Uv.get {sel:List Nat}:∀{l:List Row},Uv sel l->∀row∈l,∀x∈row.xs,∀c∈x,stays sel c=true
 | row::r,h,row',hm=>by
  rcases mr.1 hm with rfl|hm
  ·exact h.1
  ·exact Uv.get h.2 row' hm
theorem GQ (sel:List Nat)(hk:sel.take k=List.range k)(tX:sel.Nodup)(rh:sel.all (·<st.length)=true)(ra:B9 st sel=st')(hr:Uv sel st')(h:ME (λt=>Jg sel (e t)) L):
  Wk k ⟨n,e,st⟩ ⟨n,AM L,st'⟩:=by
 subst ra;refine (Wk.select (s:=⟨n,e,st⟩) sel (λi hi=>?_) tX (λi hi=>by simpa using ma.1 rh i hi) (λi hi row rK=>?_)).trans (As h)
 ·have h1:(sel.take k)[i]?=some i:=by rw[hk];simp[hi]
  rw[nJ]at h1;simpa [hi] using h1
 ·exact hr.get row (oM.2 ⟨i,hi,rK⟩)
def VZ (st:List Row):AV->AV
 | .own id g n=>match st[id]? with
  | some row=>if row.gen=g then .own id 0 n else .FQ
  | none=>.FQ
 | .ptr id g i off=>match st[id]? with
  | some row=>if row.gen=g then .ptr id 0 i off else .FQ
  | none=>.FQ
 | .fn ..|.agg _|.C7 _=>.FQ
 | v=>v
def VT (st:List Row)(x:AV):AV:=two (VZ st) x
def rg (st:List Row):AV->AV
 | .fn f cs=>.fn f (cs.map (VT st))
 | .agg cs=>.agg (cs.map (VT st))
 | .C7 cs=>.C7 (cs.map (VT st))
 | v=>VT st v
def IV (st:List Row)(row:Row):Row:={ row with gen:=0,xs:=row.xs.map (·.map (VT st)) }
def I3 (st:List Row)(o:Own):Own:={ o with row:=IV st o.row }
theorem gP {F:Nat->Prop}{w:World}{os:List Own}(ra:os.map Own.row=st){x:AV}{v:Value}(h:AU F w os x v):AU F w (os.map (I3 st)) (VZ st x) v:=by
 have hs:∀{id:Nat} {o:Own},os[id]?=some o->st[id]?=some o.row:=λ{id o} ho=>by rw[<- ra,mX,ho];rfl
 cases x with
 | own id g n=>
  simp only[AU]at h;obtain⟨o,ho,hle,hsh,hv⟩:=h;simp only[VZ,hs ho];split
  ·rename_i e;obtain⟨h1,h2⟩:=hv e;simp only[AU];exact⟨I3 st o,by simp[ho],mi _,hsh,λ_=>⟨by simpa [I3,IV] using h1,by simpa [I3,IV] using h2⟩⟩
  ·simp[AU]
 | ptr id g i off=>
  simp only[AU]at h;obtain⟨o,ho,hle,hsh,hv⟩:=h;simp only[VZ,hs ho];split
  ·rename_i e;obtain⟨h1,h2,h3⟩:=hv e;simp only[AU];exact⟨I3 st o,by simp[ho],mi _,hsh,λ_=>⟨by simpa [I3,IV] using h1,h2,h3⟩⟩
  ·simp[AU]
 | fn f sM=>simp[VZ,AU]
 | agg cs=>simp[VZ,AU]
 | C7 cs=>simp[VZ,AU]
 | _=>simp only[VZ,AU]at h⊢<;>exact h
theorem Uo {F:Nat->Prop}{w:World}{os:List Own}(ra:os.map Own.row=st){x:AV}{v:Value}(h:AU F w os x v):AU F w (os.map (I3 st)) (VT st x) v:=
 Nt (λ_ _ h=>gP ra h) _ _ h
theorem Sz {F:Nat->Prop}{w:World}{os:List Own}(ra:os.map Own.row=st){xs:List AV}{us:List Value}(h:A7 F w os xs us):A7 F w (os.map (I3 st)) (xs.map (VT st)) us:=
 Cq (by simp[A3 h]) λi x u hx hu=>by
  simp only[mX,mZ]at hx;obtain⟨y,hy,rfl⟩:=hx;obtain⟨u',tZ,hr⟩:=BQ h i y hy;rw[tZ]at hu;cases hu;exact Uo ra hr
theorem gl {F:Nat->Prop}{w:World}{os:List Own}(ra:os.map Own.row=st){x:AV}{v:Value}(h:AU F w os x v):AU F w (os.map (I3 st)) (rg st x) v:=by
 cases x with
 | fn f cs=>simp only[rg,AU]at h⊢;obtain⟨us,e,hl⟩:=h;exact⟨us,e,Sz ra hl⟩
 | agg cs=>simp only[rg,AU]at h⊢;obtain⟨us,e,hl⟩:=h;exact⟨us,e,Sz ra hl⟩
 | C7 cs=>simp only[rg,AU]at h⊢;obtain⟨us,e,hl⟩:=h;exact⟨us,e,Sz ra hl⟩
 | _=>exact Uo ra h
def KO (st:List Row):Prop:=∀row∈st,∀x∈row.xs,∀c∈x,c.kept=true
theorem hU {st:List Row}{c:AV}{el s:Nat}{ys:List (List AV)}(h:VT st c=.dv el s ys):c=.dv el s ys:=by
 refine YN (X:=VZ st) (λc h=>?_) h;cases c<;>simp only[VZ]at h<;>first|exact h|cases h|(split at h<;>first|cases h|(split at h<;>cases h))
theorem Wk.kS (hl:KO (st.map (IV st))):Wk 0 ⟨n,e,st⟩ ⟨n,λt=>rg st (e t),st.map (IV st)⟩:=λF os a w hr=>by
 have ra:=hr.st;simp only at ra;refine⟨F,os.map (I3 st),⟨?_,λt=>gl ra (hr.env t),hr.size,λi o ho=>?_,λi j oi oj b hi hj uH uQ=>?_,hr.FU,hr.defers⟩,⟨rfl,rfl,rfl,ml _,λ_ h=>h,λ_ _=>rfl,λb _ h1 h2=>⟨rfl,h1,λo ho=>?_⟩,λi o hi=>absurd hi (qd _)⟩⟩
 ·simp only[<- ra,oC];congr 1
 ·rw[mX,mZ]at ho;obtain⟨o0,ho0,rfl⟩:=ho;have rR:=hr.rows i o0 ho0;have hm:IV st o0.row∈st.map (IV st):=mu.2 ⟨o0.row,by rw[<- ra];exact mu.2 ⟨o0,mS ho0,rfl⟩,rfl⟩;refine⟨rR.pos,λx hx=>⟨?_,hl _ hm x hx⟩,λh=>?_,λb hb=>?_,rR.mo,rR.deep.keep rfl (λ_ h=>h) rfl (λ_ _=>rfl) (λi x j e s ys hx hc=>by
   simp only[I3,IV,mX,mZ]at hx;obtain⟨y,hy,rfl⟩:=hx;simp only[mX,mZ]at hc;obtain⟨d,hd,hc⟩:=hc;exact⟨y,hy,by rw[hd,hU hc]⟩)⟩
  ·simp only[I3,IV,mu]at hx;obtain⟨y,hy,rfl⟩:=hx;simpa [I3,IV] using (rR.lens y hy).1
  ·obtain⟨h1,h2⟩:=rR.none h;exact⟨by simp[I3,IV,h1],h2⟩
  ·obtain⟨h1,cur,h2,h3,h4,h5,h6⟩:=rR.some b hb;refine⟨h1,cur,h2,h3,by simpa [I3,IV] using h4,h5,λi' x hx j c hc=>?_⟩;simp only[I3,IV,mX,mZ]at hx;obtain⟨y,hy,rfl⟩:=hx;simp only[mX,mZ]at hc;obtain⟨d,hd,rfl⟩:=hc;obtain⟨u,e1,e2⟩:=h6 i' y hy j d hd;exact⟨u,e1,Uo ra e2⟩
 ·rw[mX,mZ]at hi hj;obtain⟨oi0,hi0,rfl⟩:=hi;obtain⟨oj0,hj0,rfl⟩:=hj;exact hr.inj i j oi0 oj0 b hi0 hj0 uH uQ
 ·obtain⟨o0,h0,rfl⟩:=mu.1 ho;exact h2 o0 h0
inductive RG (st:List Row):List Row->List Row->Prop
 | nil:RG st [] []
 | deep {g size:Nat} {el:TypeId} {xs:List (List AV)} {r r':List Row} (hp:B8 xs) (hl:RG st r r'):RG st (⟨g,el,size,xs⟩::r) (⟨0,el,size,xs⟩::r')
 | raw {g size:Nat} {el:TypeId} {cs cs':List AV} {r r':List Row} (hc:cs.map (VT st)=cs') (hp:cs'.all AV.leaf=true) (hl:RG st r r'):RG st (⟨g,el,size,[cs]⟩::r) (⟨0,el,size,[cs']⟩::r')
theorem RG.pure {g size:Nat}{el:TypeId}{xs:List (List AV)}{r r':List Row}(hp:F9 xs)(hl:RG st r r'):RG st (⟨g,el,size,xs⟩::r) (⟨0,el,size,xs⟩::r'):=.deep hp.any hl
theorem XZ {c:AV}(h:Dd c=true):VT st c=c:=by cases c<;>simp[Dd,simple,VT,two,VZ]at h⊢
theorem RG.spec {st0:List Row}(hle :∀row∈st0,∀x∈row.xs,∀c∈x,c.kept=true):∀{l l':List Row},RG st l l'->(∀row∈l,row∈st0)->l.map (IV st)=l'/\KO l'
 | _,_,.nil,_=>⟨rfl,λ_ h=>by cases h⟩
 | _,_,.deep hp hl,hm=>by
  obtain⟨h1,h2⟩:=RG.spec hle hl (λrow h=>hm row (nv _ h));have uP:=hle _ (hm _ (oQ ..));refine⟨?_,?_⟩
  ·simp only[mz,h1];congr 1;simp only[IV];congr 1;refine (nD (g:=id) λx hx=>?_).trans (nt _);refine (nD (g:=id) λc hc=>?_).trans (nt _);exact XZ (hp x hx c hc)
  ·intro row rK;rcases mr.1 rK with rfl|h
   ·exact uP
   ·exact h2 row h
 | _,_,.raw hc hp hl,hm=>by
  obtain⟨h1,h2⟩:=RG.spec hle hl (λrow h=>hm row (nv _ h));refine⟨?_,?_⟩
  ·simp only[mz,h1,IV,od,hc]
  ·intro row rK;rcases mr.1 rK with rfl|h
   ·intro x hx c xS;simp only[nQ]at hx;subst hx;exact Ci (ma.1 hp c xS)
   ·exact h2 row h
theorem CP (hg:RG st st st')(h:ME (λt=>Abs.rg st (e t)) L):Wk 0 ⟨n,e,st⟩ ⟨n,AM L,st'⟩:=λF os a w hr=>by
 have hle:∀row∈st,∀x∈row.xs,∀c∈x,c.kept=true:=λrow rK x hx c hc=>by
  have ra:=hr.st;simp only at ra;rw[<- ra]at rK;obtain⟨o,ho,rfl⟩:=mu.1 rK;obtain⟨i,hi⟩:=nC.1 ho;exact ((hr.rows i o hi).lens x hx).2 c hc
 obtain⟨h1,h2⟩:=hg.spec (st0:=st) hle (λ_ h=>h);have h3:Wk 0 ⟨n,e,st⟩ ⟨n,AM L,st'⟩:=by
  have:=Wk.kS (n:=n) (e:=e) (st:=st) (by rw[h1];exact h2);rw[h1]at this;exact this.trans (As h)
 exact h3 F os a w hr
theorem Ac {α:Type}{l:List α}{enc:α->List AV}(h :∀x,(enc x).all simple=true):F9 (l.map enc):=λx hx c hc=>by
 obtain⟨y,_,rfl⟩:=mu.1 hx;exact ma.1 (h y) c hc
theorem A9 {α:Type}{l:List α}{enc:α->List AV}(h :∀x,(enc x).all simple=true):B8 (l.map enc):=(Ac h).any
theorem AS {α:Type}{l:List α}{enc:α->List AV}(h :∀x,(enc x).all Dd=true):B8 (l.map enc):=λx hx c hc=>by
 obtain⟨y,_,rfl⟩:=mu.1 hx;exact ma.1 (h y) c hc
theorem TQ {cs:List AV}(h:cs.all simple=true):F9 [cs]:=λx hx c hc=>by
 simp only[nQ]at hx;subst hx;exact ma.1 h c hc
end Go.Abs
