import Derived.Test.YtihdgoiebmfapaaGreatAbsM
set_option linter.all false
namespace Sh
open Go
def w (n:Int):Int:=IntKind.i64.wrap n
def wk (k:IntKind)(n:Int):Int:=k.wrap n
def get {α:Type}(l:List α)(j:Int):Option α:=if 0<=j then l[j.toNat]? else none
def put {α:Type}(l:List α)(j:Int)(x:α):List α:=l.set j.toNat x
def len {α:Type}(l:List α):Int:=l.length
def mk {α:Type}(x:α)(j:Int)(bytes:Nat):Option (List α):=if 0<=j/\j*bytes<=281474976710656/\j<=9223372036854775807 then some (List.replicate j.toNat x) else none
def app {α:Type}(l m:List α)(bytes:Nat):Option (List α):=if (l.length+m.length)*bytes<=140737488355328/\l.length+m.length<=9223372036854775807 then some (l++m) else none
def hi {α:Type}(l:List α)(j:Int):Option (List α):=if 0<=j/\j<=l.length then some (l.take j.toNat) else none
def lo {α:Type}(l:List α)(j:Int):Option (List α):=if 0<=j/\j<=l.length then some (l.drop j.toNat) else none
def sl {α:Type}(l:List α)(i j:Int):Option (List α):=if 0<=i/\i<=j/\j<=l.length then some ((l.take j.toNat).drop i.toNat) else none
def quo (a b:Int):Option Int:=if b=0 then none else some (w (a.tdiv b))
def rem (a b:Int):Option Int:=if b=0 then none else some (a.tmod b)
def xor (a b:Int):Int:=IntKind.i64.wrap (BitVec.ofInt 64 a ^^^ BitVec.ofInt 64 b).toNat
theorem iM {a b c:Int}(h:rem a b=some c):b≠0/\a.tmod b=c:=by
 unfold rem at h;split at h
 .cases h
 .exact⟨by assumption,qf h⟩
theorem gn {a b c:Int}(h:quo a b=some c):b≠0/\w (a.tdiv b)=c:=by
 unfold quo at h;split at h
 .cases h
 .exact⟨by assumption,qf h⟩
theorem get_some {α:Type}{l:List α}{j:Int}{c:α}(h:get l j=some c):0<=j/\l[j.toNat]?=some c/\j<l.length:=by
 unfold get at h;split at h
 .rename_i h0;have:=(pA.1 h).1;exact⟨h0,h,by omega⟩
 .cases h
theorem bind_some {α β:Type}{x:Option α}{f:α->Option β}{r:β}(h:x.bind f=some r):∃v,x=some v/\f v=some r:=by
 cases x with
 |none=>cases h
 |some v=>exact⟨v,rfl,h⟩
theorem GR {α:Type}{l:List α}{j:Int}{x:α}:(put l j x).length=l.length:=by simp[put]
theorem BU {α:Type}{a b:α}(h:some a=some b):a=b:=qf h
theorem ij {α:Type}{b:Bool}{x y r:α}(hb:b=true)(h:(if b=true then x else y)=r):x=r:=by rw[pI hb]at h;exact h
theorem jk {α:Type}{b:Bool}{x y r:α}(hb:b=false)(h:(if b=true then x else y)=r):y=r:=by rw[pJ (by simp[hb])]at h;exact h
def cont {ρ σ β:Type}(o:Option (ρ⊕σ))(g:ρ->β)(f:σ->Option β):Option β:=
 match o with
 |none=>none
 |some (.inl r)=>some (g r)
 |some (.inr v)=>f v
theorem Bj {ρ σ β:Type}{o:Option (ρ⊕σ)}{g:ρ->β}{f:σ->Option β}{b:β}(h:cont o g f=some b):
  ∃v,o=some v/\(match v with|.inl r=>some (g r)|.inr v=>f v)=some b:=by
 unfold cont at h;split at h
 .cases h
 .exact⟨_,rfl,h⟩
 .exact⟨_,rfl,h⟩
@[simp] theorem nP {ρ σ β:Type}(r:ρ)(g:ρ->β)(f:σ->Option β):cont (some (.inl r)) g f=some (g r):=rfl
@[simp] theorem Oe {ρ σ β:Type}(v:σ)(g:ρ->β)(f:σ->Option β):cont (some (.inr v)) g f=f v:=rfl
theorem Ae {α:Type}{b:Bool}{x y:Option α}{r:α}(h:(if b=true then x else y)=some r):(b=true/\x=some r)∨(b=false/\y=some r):=by
 cases b
 .exact .inr ⟨rfl,h⟩
 .exact .inl ⟨rfl,h⟩
end Sh
namespace Go.Abs
open Go
def AP:List (Nat×AV)->Nat->AV
 | [],_=>.FZ
 |(t,v)::r,k=>if k=t then v else AP r k
def le (a b:AV):Prop:=∀F w os u,Ab F w os a u->Ab F w os b u
theorem le.rfl {a:AV}:le a a:=λ_ _ _ _ h=>h
theorem le.of {a b:AV}(h:a=b):le a b:=h▸le.rfl
theorem le.FZ {a:AV}:le a .FZ:=λ_ _ _ _ _=>by simp[Ab]
theorem le.zc:le .zc (.sl []):=λ_ _ _ _ h=>by
 simp only[Ab]at h⊢;obtain⟨ad,e⟩:=h;exact⟨ad,0,by simpa using e,by simp,by simp⟩
def aO:List AV->List AV->Prop
 | [],[]=>True
 |a::r,b::r'=>le a b/\aO r r'
 |_,_=>False
theorem aO.rep {F:Nat->Prop}{w:World}{os:List Own}:∀{xs ys:List AV} {us:List Value},aO xs ys->Br F w os xs us->Br F w os ys us
 | [],[],_,_,h=>h
 |a::r,b::r',us,h,h'=>by
  simp only[Br]at h' ⊢;obtain⟨u,xR,e,h1,h2⟩:=h';exact⟨u,xR,e,h.1 _ _ _ _ h1,aO.rep h.2 h2⟩
 | [],_::_,_,h,_=>h.elim
 |_::_,[],_,h,_=>h.elim
theorem le.agg {xs ys:List AV}(h:aO xs ys):le (.agg xs) (.agg ys):=λF w os u hu=>by
 simp only[Ab]at hu⊢;obtain⟨us,e,hl⟩:=hu;exact⟨us,e,h.rep hl⟩
def ME (e:Nat->AV):List (Nat×AV)->Prop
 | []=>True
 |(t,v)::r=>le (e t) v/\ME e r
theorem le.len {id g m m':Nat}(h:m=m'):le (.own id g m) (.own id g m'):=h▸le.rfl
theorem ME.le {e:Nat->AV}:∀{L:List (Nat×AV)},ME e L->∀t,le (e t) (AP L t)
 | [],_,_=>le.FZ
 |(t',v)::r,h,t=>by
  simp only[AP];split
  .rename_i ht;subst ht;exact h.1
  .exact ME.le h.2 t
variable {k n : Nat} {e : Nat -> AV} {st st' : List Row} {L : List (Nat × AV)}
theorem Wk.mh {e':Nat->AV}(h :∀t,le (e t) (e' t)):Wk k ⟨n,e,st⟩ ⟨n,e',st⟩:=λF os _ w hr=>
 ⟨F,os,⟨hr.st,λt=>h t _ _ _ _ (hr.env t),hr.size,hr.rows,hr.inj,hr.Fu,hr.defers⟩,Ext.refl _ _ _ _⟩
theorem Ag (h:ME e L):Wk k ⟨n,e,st⟩ ⟨n,AP L,st⟩:=Wk.mh h.le
theorem le.BZ {α:Type}{id g m:Nat}{l:List α}{enc:α->List AV}(h:m=l.length):le (BZ id g (l.map enc) (.own id g m)) (.sl (l.map enc)):=by
 subst h;refine le.of ?_;rw[ji,<- pR (f:=enc) (as:=l),qx,qJ]
theorem du {α:Type}{id g m:Nat}{l:List α}{enc:α->List AV}(h:m=l.length):IF id g (l.map enc) (.own id g m)=.sl (l.map enc):=by
 subst h;rw[iD,<- pR (f:=enc) (as:=l),qx,qJ]
theorem Wk.BZ {id g size:Nat}{el:TypeId}{xs:List (List AV)}(tv:st[id]?=some ⟨g,el,size,xs⟩)(xA:k<=id)(hp:ET xs)
  (h:ME (λt=>Abs.BZ id g xs (e t)) L) (uV:st.set id ⟨g+1,el,size,[]⟩=st'):Wk k ⟨n,e,st⟩ ⟨n,AP L,st'⟩:=by
 subst uV;exact (Wk.freeze (s:=⟨n,e,st⟩) xA tv hp).trans (Ag h)
def Tm (sel:List Nat):List Row->Prop
 | []=>True
 |row::r=>(∀x∈row.xs,∀c∈x,stays sel c=true)/\Tm sel r
theorem Tm.deep {sel:List Nat}{row:Row}{r:List Row}(h:DF row.xs)(hr:Tm sel r):Tm sel (row::r):=⟨λx hx c hc=>by
 have:=h x hx c hc;cases c<;>simp[E6,simple,stays]at this⊢,hr⟩
theorem Tm.pure {sel:List Nat}{row:Row}{r:List Row}(h:ET row.xs)(hr:Tm sel r):Tm sel (row::r):=.deep h.any hr
theorem Tm.raw {sel:List Nat}{g size:Nat}{el:TypeId}{cs:List AV}{r:List Row}(h:cs.all (stays sel)=true)(hr:Tm sel r):Tm sel (⟨g,el,size,[cs]⟩::r):=
 ⟨λx hx c hc=>by
  simp only[pS]at hx;subst hx;exact pG.1 h c hc,hr⟩
theorem Tm.get {sel:List Nat}:∀{l:List Row},Tm sel l->∀row∈l,∀x∈row.xs,∀c∈x,stays sel c=true
 |row::r,h,yE,hm=>by
  rcases pK.1 hm with rfl|hm
  .exact h.1
  .exact Tm.get h.2 yE hm
theorem D3 (sel:List Nat)(hk:sel.take k=List.range k)(vu:sel.Nodup)(uU:sel.all (·<st.length)=true)(uV:CE st sel=st')(hr:Tm sel st')(h:ME (λt=>Jn sel (e t)) L):
  Wk k ⟨n,e,st⟩ ⟨n,AP L,st'⟩:=by
 subst uV;refine (Wk.select (s:=⟨n,e,st⟩) sel (λi hi=>?_) vu (λi hi=>by simpa using pG.1 uU i hi) (λi hi row tv=>?_)).trans (Ag h)
 .have h1:(sel.take k)[i]?=some i:=by rw[hk];simp[hi]
  rw[pn]at h1;simpa [hi] using h1
 .exact hr.get row (qg.2 ⟨i,hi,tv⟩)
def Ya (st:List Row):AV->AV
 |.own id g n=>match st[id]? with
  |some row=>if row.gen=g then .own id 0 n else .FZ
  |none=>.FZ
 |.ptr id g i off=>match st[id]? with
  |some row=>if row.gen=g then .ptr id 0 i off else .FZ
  |none=>.FZ
 |.fn ..|.agg _|.C8 _=>.FZ
 |v=>v
def XJ (st:List Row)(x:AV):AV:=two (Ya st) x
def rg (st:List Row):AV->AV
 |.fn f cs=>.fn f (cs.map (XJ st))
 |.agg cs=>.agg (cs.map (XJ st))
 |.C8 cs=>.C8 (cs.map (XJ st))
 |v=>XJ st v
def J5 (st:List Row)(row:Row):Row:={ row with gen:=0,xs:=row.xs.map (·.map (XJ st)) }
def KW (st:List Row)(o:Own):Own:={ o with row:=J5 st o.row }
theorem jH {F:Nat->Prop}{w:World}{os:List Own}(uV:os.map Own.row=st){x:AV}{v:Value}(h:Ab F w os x v):Ab F w (os.map (KW st)) (Ya st x) v:=by
 have hs:∀{id:Nat} {o:Own},os[id]?=some o->st[id]?=some o.row:=λ{id o} ho=>by rw[<- uV,pB,ho];rfl
 cases x with
 |own id g n=>
  simp only[Ab]at h;obtain⟨o,ho,hle,yZ,hv⟩:=h;simp only[Ya,hs ho];split
  .rename_i e;obtain⟨h1,h2⟩:=hv e;simp only[Ab];exact⟨KW st o,by simp[ho],pT _,yZ,λ_=>⟨by simpa [KW,J5] using h1,by simpa [KW,J5] using h2⟩⟩
  .simp[Ab]
 |ptr id g i off=>
  simp only[Ab]at h;obtain⟨o,ho,hle,yZ,hv⟩:=h;simp only[Ya,hs ho];split
  .rename_i e;obtain⟨h1,h2,h3⟩:=hv e;simp only[Ab];exact⟨KW st o,by simp[ho],pT _,yZ,λ_=>⟨by simpa [KW,J5] using h1,h2,h3⟩⟩
  .simp[Ab]
 |fn f vO=>simp[Ya,Ab]
 |agg cs=>simp[Ya,Ab]
 |C8 cs=>simp[Ya,Ab]
 |_=>simp only[Ya,Ab]at h⊢<;>exact h
theorem Xr {F:Nat->Prop}{w:World}{os:List Own}(uV:os.map Own.row=st){x:AV}{v:Value}(h:Ab F w os x v):Ab F w (os.map (KW st)) (XJ st x) v:=
 MN (λ_ _ h=>jH uV h) _ _ h
theorem Um {F:Nat->Prop}{w:World}{os:List Own}(uV:os.map Own.row=st){xs:List AV}{us:List Value}(h:Br F w os xs us):Br F w (os.map (KW st)) (xs.map (XJ st)) us:=
 Db (by simp[BX h]) λi x u hx hu=>by
  simp only[pB,pH]at hx;obtain⟨y,hy,rfl⟩:=hx;obtain⟨u',vo,hr⟩:=CH h i y hy;rw[vo]at hu;cases hu;exact Xr uV hr
theorem lC {F:Nat->Prop}{w:World}{os:List Own}(uV:os.map Own.row=st){x:AV}{v:Value}(h:Ab F w os x v):Ab F w (os.map (KW st)) (rg st x) v:=by
 cases x with
 |fn f cs=>simp only[rg,Ab]at h⊢;obtain⟨us,e,hl⟩:=h;exact⟨us,e,Um uV hl⟩
 |agg cs=>simp only[rg,Ab]at h⊢;obtain⟨us,e,hl⟩:=h;exact⟨us,e,Um uV hl⟩
 |C8 cs=>simp only[rg,Ab]at h⊢;obtain⟨us,e,hl⟩:=h;exact⟨us,e,Um uV hl⟩
 |_=>exact Xr uV h
def JR (st:List Row):Prop:=∀row∈st,∀x∈row.xs,∀c∈x,c.kept=true
theorem lZ {st:List Row}{c:AV}{el s:Nat}{ys:List (List AV)}(h:XJ st c=.dv el s ys):c=.dv el s ys:=by
 refine Tl (X:=Ya st) (λc h=>?_) h;cases c<;>simp only[Ya]at h<;>first|exact h|cases h|(split at h<;>first|cases h|(split at h<;>cases h))
theorem Wk.mu (hl:JR (st.map (J5 st))):Wk 0 ⟨n,e,st⟩ ⟨n,λt=>rg st (e t),st.map (J5 st)⟩:=λF os a w hr=>by
 have uV:=hr.st;simp only at uV;refine⟨F,os.map (KW st),⟨?_,λt=>lC uV (hr.env t),hr.size,λi o ho=>?_,λi j oi oj b hi hj wJ wK=>?_,hr.Fu,hr.defers⟩,⟨rfl,rfl,rfl,pL _,λ_ h=>h,λ_ _=>rfl,λb _ h1 h2=>⟨rfl,h1,λo ho=>?_⟩,λi o hi=>absurd hi (Nat.not_lt_zero _)⟩⟩
 .simp only[<- uV,rF];congr 1
 .rw[pB,pH]at ho;obtain⟨o0,ho0,rfl⟩:=ho;have tz:=hr.rows i o0 ho0;have hm:J5 st o0.row∈st.map (J5 st):=pQ.2 ⟨o0.row,by rw[<- uV];exact pQ.2 ⟨o0,ov ho0,rfl⟩,rfl⟩;refine⟨tz.pos,λx hx=>⟨?_,hl _ hm x hx⟩,λh=>?_,λb hb=>?_,tz.mo,tz.deep.keep rfl (λ_ h=>h) rfl (λ_ _=>rfl) (λi x j e s ys hx hc=>by
   simp only[KW,J5,pB,pH]at hx;obtain⟨y,hy,rfl⟩:=hx;simp only[pB,pH]at hc;obtain⟨d,hd,hc⟩:=hc;exact⟨y,hy,by rw[hd,lZ hc]⟩)⟩
  .simp only[KW,J5,pQ]at hx;obtain⟨y,hy,rfl⟩:=hx;simpa [KW,J5] using (tz.lens y hy).1
  .obtain⟨h1,h2⟩:=tz.none h;exact⟨by simp[KW,J5,h1],h2⟩
  .obtain⟨h1,cur,h2,h3,h4,h5,h6⟩:=tz.some b hb;refine⟨h1,cur,h2,h3,by simpa [KW,J5] using h4,h5,λi' x hx j c hc=>?_⟩;simp only[KW,J5,pB,pH]at hx;obtain⟨y,hy,rfl⟩:=hx;simp only[pB,pH]at hc;obtain⟨d,hd,rfl⟩:=hc;obtain⟨u,e1,e2⟩:=h6 i' y hy j d hd;exact⟨u,e1,Xr uV e2⟩
 .rw[pB,pH]at hi hj;obtain⟨oi0,hi0,rfl⟩:=hi;obtain⟨oj0,hj0,rfl⟩:=hj;exact hr.inj i j oi0 oj0 b hi0 hj0 wJ wK
 .obtain⟨o0,h0,rfl⟩:=pQ.1 ho;exact h2 o0 h0
inductive RG (st:List Row):List Row->List Row->Prop
 |nil:RG st [] []
 |deep {g size:Nat} {el:TypeId} {xs:List (List AV)} {r r':List Row} (hp:DF xs) (hl:RG st r r'):RG st (⟨g,el,size,xs⟩::r) (⟨0,el,size,xs⟩::r')
 |raw {g size:Nat} {el:TypeId} {cs cs':List AV} {r r':List Row} (hc:cs.map (XJ st)=cs') (hp:cs'.all AV.leaf=true) (hl:RG st r r'):RG st (⟨g,el,size,[cs]⟩::r) (⟨0,el,size,[cs']⟩::r')
theorem RG.pure {g size:Nat}{el:TypeId}{xs:List (List AV)}{r r':List Row}(hp:ET xs)(hl:RG st r r'):RG st (⟨g,el,size,xs⟩::r) (⟨0,el,size,xs⟩::r'):=.deep hp.any hl
theorem ab {c:AV}(h:E6 c=true):XJ st c=c:=by cases c<;>simp[E6,simple,XJ,two,Ya]at h⊢
theorem RG.spec {st0:List Row}(hle :∀row∈st0,∀x∈row.xs,∀c∈x,c.kept=true):∀{l l':List Row},RG st l l'->(∀row∈l,row∈st0)->l.map (J5 st)=l'/\JR l'
 |_,_,.nil,_=>⟨rfl,λ_ h=>by cases h⟩
 |_,_,.deep hp hl,hm=>by
  obtain⟨h1,h2⟩:=RG.spec hle hl (λrow h=>hm row (qT _ h));have vS:=hle _ (hm _ (rI ..));refine⟨?_,?_⟩
  .simp only[pc,h1];congr 1;simp only[J5];congr 1;refine (pf (g:=id) λx hx=>?_).trans (qn _);refine (pf (g:=id) λc hc=>?_).trans (qn _);exact ab (hp x hx c hc)
  .intro row tv;rcases pK.1 tv with rfl|h
   .exact vS
   .exact h2 row h
 |_,_,.raw hc hp hl,hm=>by
  obtain⟨h1,h2⟩:=RG.spec hle hl (λrow h=>hm row (qT _ h));refine⟨?_,?_⟩
  .simp only[pc,h1,J5,qt,hc]
  .intro row tv;rcases pK.1 tv with rfl|h
   .intro x hx c hcx;simp only[pS]at hx;subst hx;exact Dg (pG.1 hp c hcx)
   .exact h2 row h
theorem Da (hg:RG st st st')(h:ME (λt=>Abs.rg st (e t)) L):Wk 0 ⟨n,e,st⟩ ⟨n,AP L,st'⟩:=λF os a w hr=>by
 have hle:∀row∈st,∀x∈row.xs,∀c∈x,c.kept=true:=λrow tv x hx c hc=>by
  have uV:=hr.st;simp only at uV;rw[<- uV]at tv;obtain⟨o,ho,rfl⟩:=pQ.1 tv;obtain⟨i,hi⟩:=pY.1 ho;exact ((hr.rows i o hi).lens x hx).2 c hc
 obtain⟨h1,h2⟩:=hg.spec (st0:=st) hle (λ_ h=>h);have h3:Wk 0 ⟨n,e,st⟩ ⟨n,AP L,st'⟩:=by
  have:=Wk.mu (n:=n) (e:=e) (st:=st) (by rw[h1];exact h2);rw[h1]at this;exact this.trans (Ag h)
 exact h3 F os a w hr
theorem Ai {α:Type}{l:List α}{enc:α->List AV}(h :∀x,(enc x).all simple=true):ET (l.map enc):=λx hx c hc=>by
 obtain⟨y,_,rfl⟩:=pQ.1 hx;exact pG.1 (h y) c hc
theorem Bq {α:Type}{l:List α}{enc:α->List AV}(h :∀x,(enc x).all simple=true):DF (l.map enc):=(Ai h).any
theorem Ao {α:Type}{l:List α}{enc:α->List AV}(h :∀x,(enc x).all E6=true):DF (l.map enc):=λx hx c hc=>by
 obtain⟨y,_,rfl⟩:=pQ.1 hx;exact pG.1 (h y) c hc
theorem Ek {cs:List AV}(h:cs.all simple=true):ET [cs]:=λx hx c hc=>by
 simp only[pS]at hx;subst hx;exact pG.1 h c hc
end Go.Abs
