import Derived.Test.YtihdgoiebmfapaaGreatAbsM
set_option linter.all false
namespace Sh
open Go
def w (n:Int):Int:=IntKind.i64.wrap n
def wk (k:IntKind)(n:Int):Int:=k.wrap n
def get {α:Type}(l:List α)(j:Int):Option α:=if 0<=j then l[j.toNat]? else none
def put {α:Type}(l:List α)(j:Int)(x:α):List α:=l.set j.toNat x
def len {α:Type}(l:List α):Int:=l.length
def mk {α:Type}(x:α)(j:Int)(bytes:Nat):Option (List α):=if 0<=j/\j*bytes<=281474976710656/\j<=9223372036854775807 then some (List.replicate j.toNat x) else none
def app {α:Type}(l m:List α)(bytes:Nat):Option (List α):=if (l.length+m.length)*bytes<=140737488355328/\l.length+m.length<=9223372036854775807 then some (l++m) else none
def hi {α:Type}(l:List α)(j:Int):Option (List α):=if 0<=j/\j<=l.length then some (l.take j.toNat) else none
def lo {α:Type}(l:List α)(j:Int):Option (List α):=if 0<=j/\j<=l.length then some (l.drop j.toNat) else none
def sl {α:Type}(l:List α)(i j:Int):Option (List α):=if 0<=i/\i<=j/\j<=l.length then some ((l.take j.toNat).drop i.toNat) else none
def quo (a b:Int):Option Int:=if b=0 then none else some (w (a.tdiv b))
def rem (a b:Int):Option Int:=if b=0 then none else some (a.tmod b)
def xor (a b:Int):Int:=IntKind.i64.wrap (BitVec.ofInt 64 a ^^^ BitVec.ofInt 64 b).toNat
theorem bk {a b c:Int}(h:rem a b=some c):b≠0/\a.tmod b=c:=by
 unfold rem at h;split at h
 ·cases h
 ·exact⟨by assumption,lT h⟩
theorem cJ {a b c:Int}(h:quo a b=some c):b≠0/\w (a.tdiv b)=c:=by
 unfold quo at h;split at h
 ·cases h
 ·exact⟨by assumption,lT h⟩
theorem get_some {α:Type}{l:List α}{j:Int}{c:α}(h:get l j=some c):0<=j/\l[j.toNat]?=some c/\j<l.length:=by
 unfold get at h;split at h
 ·rename_i h0;have:=(jg.1 h).1;exact⟨h0,h,by omega⟩
 ·cases h
theorem bind_some {α β:Type}{x:Option α}{f:α->Option β}{r:β}(h:x.bind f=some r):∃v,x=some v/\f v=some r:=by
 cases x with
 | none=>cases h
 | some v=>exact⟨v,rfl,h⟩
theorem Ga {α:Type}{l:List α}{j:Int}{x:α}:(put l j x).length=l.length:=by simp[put]
theorem AB {α:Type}{a b:α}(h:some a=some b):a=b:=lT h
theorem dy {α:Type}{b:Bool}{x y r:α}(hb:b=true)(h:(if b=true then x else y)=r):x=r:=by rw[jm hb]at h;exact h
theorem eL {α:Type}{b:Bool}{x y r:α}(hb:b=false)(h:(if b=true then x else y)=r):y=r:=by rw[jn (by simp[hb])]at h;exact h
def cont {ρ σ β:Type}(o:Option (ρ ⊕ σ))(g:ρ->β)(f:σ->Option β):Option β:=
 match o with
 | none=>none
 | some (.inl r)=>some (g r)
 | some (.inr v)=>f v
theorem Bi {ρ σ β:Type}{o:Option (ρ ⊕ σ)}{g:ρ->β}{f:σ->Option β}{b:β}(h:cont o g f=some b):
  ∃v,o=some v/\(match v with|.inl r=>some (g r)|.inr v=>f v)=some b:=by
 unfold cont at h;split at h
 ·cases h
 ·exact⟨_,rfl,h⟩
 ·exact⟨_,rfl,h⟩
@[simp] theorem iM {ρ σ β:Type}(r:ρ)(g:ρ->β)(f:σ->Option β):cont (some (.inl r)) g f=some (g r):=rfl
@[simp] theorem Ni {ρ σ β:Type}(v:σ)(g:ρ->β)(f:σ->Option β):cont (some (.inr v)) g f=f v:=rfl
theorem Ak {α:Type}{b:Bool}{x y:Option α}{r:α}(h:(if b=true then x else y)=some r):(b=true/\x=some r)∨(b=false/\y=some r):=by
 cases b
 ·exact .inr ⟨rfl,h⟩
 ·exact .inl ⟨rfl,h⟩
end Sh
namespace Go.Abs
open Go
def Aa:List (Nat×AV)->Nat->AV
 | [],_=>.E2
 | (t,v)::r,k=>if k=t then v else Aa r k
def le (a b:AV):Prop:=∀F w os u,Ae F w os a u->Ae F w os b u
theorem le.rfl {a:AV}:le a a:=λ_ _ _ _ h=>h
theorem le.of {a b:AV}(h:a=b):le a b:=h▸le.rfl
theorem le.E2 {a:AV}:le a .E2:=λ_ _ _ _ _=>by simp[Ae]
theorem le.zc:le .zc (.sl []):=λ_ _ _ _ h=>by
 simp only[Ae]at h⊢;obtain⟨ad,e⟩:=h;exact⟨ad,0,by simpa using e,by simp,by simp⟩
def Xx:List AV->List AV->Prop
 | [],[]=>True
 | a::r,b::r'=>le a b/\Xx r r'
 | _,_=>False
theorem Xx.rep {F:Nat->Prop}{w:World}{os:List Own}:∀{xs ys:List AV} {us:List Value},Xx xs ys->Br F w os xs us->Br F w os ys us
 | [],[],_,_,h=>h
 | a::r,b::r',us,h,h'=>by
  simp only[Br]at h' ⊢;obtain⟨u,rN,e,h1,h2⟩:=h';exact⟨u,rN,e,h.1 _ _ _ _ h1,Xx.rep h.2 h2⟩
 | [],_::_,_,h,_=>h.elim
 | _::_,[],_,h,_=>h.elim
theorem le.agg {xs ys:List AV}(h:Xx xs ys):le (.agg xs) (.agg ys):=λF w os u hu=>by
 simp only[Ae]at hu⊢;obtain⟨us,e,hl⟩:=hu;exact⟨us,e,h.rep hl⟩
def ME (e:Nat->AV):List (Nat×AV)->Prop
 | []=>True
 | (t,v)::r=>le (e t) v/\ME e r
theorem le.len {id g m m':Nat}(h:m=m'):le (.own id g m) (.own id g m'):=h▸le.rfl
theorem ME.le {e:Nat->AV}:∀{L:List (Nat×AV)},ME e L->∀t,le (e t) (Aa L t)
 | [],_,_=>le.E2
 | (t',v)::r,h,t=>by
  simp only[Aa];split
  ·rename_i ht;subst ht;exact h.1
  ·exact ME.le h.2 t
variable {k n : Nat} {e : Nat -> AV} {st st' : List Row} {L : List (Nat × AV)}
theorem Wk.iF {e':Nat->AV}(h :∀t,le (e t) (e' t)):Wk k ⟨n,e,st⟩ ⟨n,e',st⟩:=λF os _ w hr=>
 ⟨F,os,⟨hr.st,λt=>h t _ _ _ _ (hr.env t),hr.size,hr.rows,hr.inj,hr.FR,hr.defers⟩,Ext.refl _ _ _ _⟩
theorem Ag (h:ME e L):Wk k ⟨n,e,st⟩ ⟨n,Aa L,st⟩:=Wk.iF h.le
theorem le.BL {α:Type}{id g m:Nat}{l:List α}{enc:α->List AV}(h:m=l.length):le (BL id g (l.map enc) (.own id g m)) (.sl (l.map enc)):=by
 subst h;refine le.of ?_;rw[eH,<- kB (f:=enc) (as:=l),lW,lj]
theorem aL {α:Type}{id g m:Nat}{l:List α}{enc:α->List AV}(h:m=l.length):HR id g (l.map enc) (.own id g m)=.sl (l.map enc):=by
 subst h;rw[cY,<- kB (f:=enc) (as:=l),lW,lj]
theorem Wk.BL {id g size:Nat}{el:TypeId}{xs:List (List AV)}(oY:st[id]?=some ⟨g,el,size,xs⟩)(rP:k<=id)(hp:EK xs)
  (h:ME (λt=>Abs.BL id g xs (e t)) L) (pI:st.set id ⟨g+1,el,size,[]⟩=st'):Wk k ⟨n,e,st⟩ ⟨n,Aa L,st'⟩:=by
 subst pI;exact (Wk.freeze (s:=⟨n,e,st⟩) rP oY hp).trans (Ag h)
def SG (sel:List Nat):List Row->Prop
 | []=>True
 | row::r=>(∀x∈row.xs,∀c∈x,stays sel c=true)/\SG sel r
theorem SG.deep {sel:List Nat}{row:Row}{r:List Row}(h:DD row.xs)(hr:SG sel r):SG sel (row::r):=⟨λx hx c hc=>by
 have:=h x hx c hc;cases c<;>simp[Ed,simple,stays]at this⊢,hr⟩
theorem SG.pure {sel:List Nat}{row:Row}{r:List Row}(h:EK row.xs)(hr:SG sel r):SG sel (row::r):=.deep h.any hr
theorem SG.raw {sel:List Nat}{g size:Nat}{el:TypeId}{cs:List AV}{r:List Row}(h:cs.all (stays sel)=true)(hr:SG sel r):SG sel (⟨g,el,size,[cs]⟩::r):=
 ⟨λx hx c hc=>by
  simp only[jy]at hx;subst hx;exact jq.1 h c hc,hr⟩
theorem SG.get {sel:List Nat}:∀{l:List Row},SG sel l->∀row∈l,∀x∈row.xs,∀c∈x,stays sel c=true
 | row::r,h,rr,hm=>by
  rcases js.1 hm with rfl|hm
  ·exact h.1
  ·exact SG.get h.2 rr hm
theorem De (sel:List Nat)(hk:sel.take k=List.range k)(qM:sel.Nodup)(pG:sel.all (·<st.length)=true)(pI:Cc st sel=st')(hr:SG sel st')(h:ME (λt=>KB sel (e t)) L):
  Wk k ⟨n,e,st⟩ ⟨n,Aa L,st'⟩:=by
 subst pI;refine (Wk.select (s:=⟨n,e,st⟩) sel (λi hi=>?_) qM (λi hi=>by simpa using jq.1 pG i hi) (λi hi row oY=>?_)).trans (Ag h)
 ·have h1:(sel.take k)[i]?=some i:=by rw[hk];simp[hi]
  rw[kL]at h1;simpa [hi] using h1
 ·exact hr.get row (kz.2 ⟨i,hi,oY⟩)
def Uy (st:List Row):AV->AV
 | .own id g n=>match st[id]? with
  | some row=>if row.gen=g then .own id 0 n else .E2
  | none=>.E2
 | .ptr id g i off=>match st[id]? with
  | some row=>if row.gen=g then .ptr id 0 i off else .E2
  | none=>.E2
 | .fn ..|.agg _|.Dp _=>.E2
 | v=>v
def U0 (st:List Row)(x:AV):AV:=two (Uy st) x
def rg (st:List Row):AV->AV
 | .fn f cs=>.fn f (cs.map (U0 st))
 | .agg cs=>.agg (cs.map (U0 st))
 | .Dp cs=>.Dp (cs.map (U0 st))
 | v=>U0 st v
def I9 (st:List Row)(row:Row):Row:={ row with gen:=0,xs:=row.xs.map (·.map (U0 st)) }
def Jc (st:List Row)(o:Own):Own:={ o with row:=I9 st o.row }
theorem eb {F:Nat->Prop}{w:World}{os:List Own}(pI:os.map Own.row=st){x:AV}{v:Value}(h:Ae F w os x v):Ae F w (os.map (Jc st)) (Uy st x) v:=by
 have hs:∀{id:Nat} {o:Own},os[id]?=some o->st[id]?=some o.row:=λ{id o} ho=>by rw[<- pI,ji,ho];rfl
 cases x with
 | own id g n=>
  simp only[Ae]at h;obtain⟨o,ho,hle,rl,hv⟩:=h;simp only[Uy,hs ho];split
  ·rename_i e;obtain⟨h1,h2⟩:=hv e;simp only[Ae];exact⟨Jc st o,by simp[ho],kE _,rl,λ_=>⟨by simpa [Jc,I9] using h1,by simpa [Jc,I9] using h2⟩⟩
  ·simp[Ae]
 | ptr id g i off=>
  simp only[Ae]at h;obtain⟨o,ho,hle,rl,hv⟩:=h;simp only[Uy,hs ho];split
  ·rename_i e;obtain⟨h1,h2,h3⟩:=hv e;simp only[Ae];exact⟨Jc st o,by simp[ho],kE _,rl,λ_=>⟨by simpa [Jc,I9] using h1,h2,h3⟩⟩
  ·simp[Ae]
 | fn f pc=>simp[Uy,Ae]
 | agg cs=>simp[Uy,Ae]
 | Dp cs=>simp[Uy,Ae]
 | _=>simp only[Uy,Ae]at h⊢<;>exact h
theorem Vr {F:Nat->Prop}{w:World}{os:List Own}(pI:os.map Own.row=st){x:AV}{v:Value}(h:Ae F w os x v):Ae F w (os.map (Jc st)) (U0 st x) v:=
 LQ (λ_ _ h=>eb pI h) _ _ h
theorem TA {F:Nat->Prop}{w:World}{os:List Own}(pI:os.map Own.row=st){xs:List AV}{us:List Value}(h:Br F w os xs us):Br F w (os.map (Jc st)) (xs.map (U0 st)) us:=
 DZ (by simp[BY h]) λi x u hx hu=>by
  simp only[ji,jo]at hx;obtain⟨y,hy,rfl⟩:=hx;obtain⟨u',qV,hr⟩:=CN h i y hy;rw[qV]at hu;cases hu;exact Vr pI hr
theorem fQ {F:Nat->Prop}{w:World}{os:List Own}(pI:os.map Own.row=st){x:AV}{v:Value}(h:Ae F w os x v):Ae F w (os.map (Jc st)) (rg st x) v:=by
 cases x with
 | fn f cs=>simp only[rg,Ae]at h⊢;obtain⟨us,e,hl⟩:=h;exact⟨us,e,TA pI hl⟩
 | agg cs=>simp only[rg,Ae]at h⊢;obtain⟨us,e,hl⟩:=h;exact⟨us,e,TA pI hl⟩
 | Dp cs=>simp only[rg,Ae]at h⊢;obtain⟨us,e,hl⟩:=h;exact⟨us,e,TA pI hl⟩
 | _=>exact Vr pI h
def Ic (st:List Row):Prop:=∀row∈st,∀x∈row.xs,∀c∈x,c.kept=true
theorem fW {st:List Row}{c:AV}{el s:Nat}{ys:List (List AV)}(h:U0 st c=.dv el s ys):c=.dv el s ys:=by
 refine SE (X:=Uy st) (λc h=>?_) h;cases c<;>simp only[Uy]at h<;>first|exact h|cases h|(split at h<;>first|cases h|(split at h<;>cases h))
theorem Wk.gy (hl:Ic (st.map (I9 st))):Wk 0 ⟨n,e,st⟩ ⟨n,λt=>rg st (e t),st.map (I9 st)⟩:=λF os a w hr=>by
 have pI:=hr.st;simp only at pI;refine⟨F,os.map (Jc st),⟨?_,λt=>fQ pI (hr.env t),hr.size,λi o ho=>?_,λi j oi oj b hi hj qX qY=>?_,hr.FR,hr.defers⟩,⟨rfl,rfl,rfl,jv _,λ_ h=>h,λ_ _=>rfl,λb _ h1 h2=>⟨rfl,h1,λo ho=>?_⟩,λi o hi=>absurd hi (Nat.not_lt_zero _)⟩⟩
 ·simp only[<- pI,lU];congr 1
 ·rw[ji,jo]at ho;obtain⟨o0,ho0,rfl⟩:=ho;have ob:=hr.rows i o0 ho0;have hm:I9 st o0.row∈st.map (I9 st):=kC.2 ⟨o0.row,by rw[<- pI];exact kC.2 ⟨o0,je ho0,rfl⟩,rfl⟩;refine⟨ob.pos,λx hx=>⟨?_,hl _ hm x hx⟩,λh=>?_,λb hb=>?_,ob.mo,ob.deep.keep rfl (λ_ h=>h) rfl (λ_ _=>rfl) (λi x j e s ys hx hc=>by
   simp only[Jc,I9,ji,jo]at hx;obtain⟨y,hy,rfl⟩:=hx;simp only[ji,jo]at hc;obtain⟨d,hd,hc⟩:=hc;exact⟨y,hy,by rw[hd,fW hc]⟩)⟩
  ·simp only[Jc,I9,kC]at hx;obtain⟨y,hy,rfl⟩:=hx;simpa [Jc,I9] using (ob.lens y hy).1
  ·obtain⟨h1,h2⟩:=ob.none h;exact⟨by simp[Jc,I9,h1],h2⟩
  ·obtain⟨h1,cur,h2,h3,h4,h5,h6⟩:=ob.some b hb;refine⟨h1,cur,h2,h3,by simpa [Jc,I9] using h4,h5,λi' x hx j c hc=>?_⟩;simp only[Jc,I9,ji,jo]at hx;obtain⟨y,hy,rfl⟩:=hx;simp only[ji,jo]at hc;obtain⟨d,hd,rfl⟩:=hc;obtain⟨u,e1,e2⟩:=h6 i' y hy j d hd;exact⟨u,e1,Vr pI e2⟩
 ·rw[ji,jo]at hi hj;obtain⟨oi0,hi0,rfl⟩:=hi;obtain⟨oj0,hj0,rfl⟩:=hj;exact hr.inj i j oi0 oj0 b hi0 hj0 qX qY
 ·obtain⟨o0,h0,rfl⟩:=kC.1 ho;exact h2 o0 h0
inductive RG (st:List Row):List Row->List Row->Prop
 | nil:RG st [] []
 | deep {g size:Nat} {el:TypeId} {xs:List (List AV)} {r r':List Row} (hp:DD xs) (hl:RG st r r'):RG st (⟨g,el,size,xs⟩::r) (⟨0,el,size,xs⟩::r')
 | raw {g size:Nat} {el:TypeId} {cs cs':List AV} {r r':List Row} (hc:cs.map (U0 st)=cs') (hp:cs'.all AV.leaf=true) (hl:RG st r r'):RG st (⟨g,el,size,[cs]⟩::r) (⟨0,el,size,[cs']⟩::r')
theorem RG.pure {g size:Nat}{el:TypeId}{xs:List (List AV)}{r r':List Row}(hp:EK xs)(hl:RG st r r'):RG st (⟨g,el,size,xs⟩::r) (⟨0,el,size,xs⟩::r'):=.deep hp.any hl
theorem XT {c:AV}(h:Ed c=true):U0 st c=c:=by cases c<;>simp[Ed,simple,U0,two,Uy]at h⊢
theorem RG.spec {st0:List Row}(hle :∀row∈st0,∀x∈row.xs,∀c∈x,c.kept=true):∀{l l':List Row},RG st l l'->(∀row∈l,row∈st0)->l.map (I9 st)=l'/\Ic l'
 | _,_,.nil,_=>⟨rfl,λ_ h=>by cases h⟩
 | _,_,.deep hp hl,hm=>by
  obtain⟨h1,h2⟩:=RG.spec hle hl (λrow h=>hm row (kr _ h));have pn:=hle _ (hm _ (ld ..));refine⟨?_,?_⟩
  ·simp only[kI,h1];congr 1;simp only[I9];congr 1;refine (kM (g:=id) λx hx=>?_).trans (lI _);refine (kM (g:=id) λc hc=>?_).trans (lI _);exact XT (hp x hx c hc)
  ·intro row oY;rcases js.1 oY with rfl|h
   ·exact pn
   ·exact h2 row h
 | _,_,.raw hc hp hl,hm=>by
  obtain⟨h1,h2⟩:=RG.spec hle hl (λrow h=>hm row (kr _ h));refine⟨?_,?_⟩
  ·simp only[kI,h1,I9,lV,hc]
  ·intro row oY;rcases js.1 oY with rfl|h
   ·intro x hx c uQ;simp only[jy]at hx;subst hx;exact Dz (jq.1 hp c uQ)
   ·exact h2 row h
theorem EX (hg:RG st st st')(h:ME (λt=>Abs.rg st (e t)) L):Wk 0 ⟨n,e,st⟩ ⟨n,Aa L,st'⟩:=λF os a w hr=>by
 have hle:∀row∈st,∀x∈row.xs,∀c∈x,c.kept=true:=λrow oY x hx c hc=>by
  have pI:=hr.st;simp only at pI;rw[<- pI]at oY;obtain⟨o,ho,rfl⟩:=kC.1 oY;obtain⟨i,hi⟩:=jz.1 ho;exact ((hr.rows i o hi).lens x hx).2 c hc
 obtain⟨h1,h2⟩:=hg.spec (st0:=st) hle (λ_ h=>h);have h3:Wk 0 ⟨n,e,st⟩ ⟨n,Aa L,st'⟩:=by
  have:=Wk.gy (n:=n) (e:=e) (st:=st) (by rw[h1];exact h2);rw[h1]at this;exact this.trans (Ag h)
 exact h3 F os a w hr
theorem AD {α:Type}{l:List α}{enc:α->List AV}(h :∀x,(enc x).all simple=true):EK (l.map enc):=λx hx c hc=>by
 obtain⟨y,_,rfl⟩:=kC.1 hx;exact jq.1 (h y) c hc
theorem CQ {α:Type}{l:List α}{enc:α->List AV}(h :∀x,(enc x).all simple=true):DD (l.map enc):=(AD h).any
theorem Ah {α:Type}{l:List α}{enc:α->List AV}(h :∀x,(enc x).all Ed=true):DD (l.map enc):=λx hx c hc=>by
 obtain⟨y,_,rfl⟩:=kC.1 hx;exact jq.1 (h y) c hc
theorem EO {cs:List AV}(h:cs.all simple=true):EK [cs]:=λx hx c hc=>by
 simp only[jy]at hx;subst hx;exact jq.1 h c hc
end Go.Abs
