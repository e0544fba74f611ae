import Derived.Test.YtihdgoiebmfapaaGreatAbsM
set_option linter.all false
namespace Sh
open Go
def w (n:Int):Int:=IntKind.i64.wrap n
def wk (k:IntKind)(n:Int):Int:=k.wrap n
def get {α:Type}(l:List α)(j:Int):Option α:=if 0<=j then l[j.toNat]? else none
def put {α:Type}(l:List α)(j:Int)(x:α):List α:=l.set j.toNat x
def len {α:Type}(l:List α):Int:=l.length
def mk {α:Type}(x:α)(j:Int)(bytes:Nat):Option (List α):=if 0<=j/\j*bytes<=281474976710656/\j<=9223372036854775807 then some (List.replicate j.toNat x) else none
def app {α:Type}(l m:List α)(bytes:Nat):Option (List α):=if (l.length+m.length)*bytes<=140737488355328/\l.length+m.length<=9223372036854775807 then some (l++m) else none
def hi {α:Type}(l:List α)(j:Int):Option (List α):=if 0<=j/\j<=l.length then some (l.take j.toNat) else none
def lo {α:Type}(l:List α)(j:Int):Option (List α):=if 0<=j/\j<=l.length then some (l.drop j.toNat) else none
def sl {α:Type}(l:List α)(i j:Int):Option (List α):=if 0<=i/\i<=j/\j<=l.length then some ((l.take j.toNat).drop i.toNat) else none
def quo (a b:Int):Option Int:=if b=0 then none else some (w (a.tdiv b))
def rem (a b:Int):Option Int:=if b=0 then none else some (a.tmod b)
def xor (a b:Int):Int:=IntKind.i64.wrap (BitVec.ofInt 64 a ^^^ BitVec.ofInt 64 b).toNat
theorem iU {a b c:Int}(h:rem a b=some c):b≠0/\a.tmod b=c:=by
 unfold rem at h;split at h
 .cases h
 .exact⟨by assumption,qg h⟩
theorem iZ {a b c:Int}(h:quo a b=some c):b≠0/\w (a.tdiv b)=c:=by
 unfold quo at h;split at h
 .cases h
 .exact⟨by assumption,qg h⟩
theorem get_some {α:Type}{l:List α}{j:Int}{c:α}(h:get l j=some c):0<=j/\l[j.toNat]?=some c/\j<l.length:=by
 unfold get at h;split at h
 .rename_i h0;have:=(pB.1 h).1;exact⟨h0,h,by omega⟩
 .cases h
theorem bind_some {α β:Type}{x:Option α}{f:α->Option β}{r:β}(h:x.bind f=some r):∃v,x=some v/\f v=some r:=by
 cases x with
 |none=>cases h
 |some v=>exact⟨v,rfl,h⟩
theorem GS {α:Type}{l:List α}{j:Int}{x:α}:(put l j x).length=l.length:=by simp[put]
theorem Bf {α:Type}{a b:α}(h:some a=some b):a=b:=qg h
theorem kQ {α:Type}{b:Bool}{x y r:α}(hb:b=true)(h:(if b=true then x else y)=r):x=r:=by rw[pJ hb]at h;exact h
theorem jJ {α:Type}{b:Bool}{x y r:α}(hb:b=false)(h:(if b=true then x else y)=r):y=r:=by rw[pK (by simp[hb])]at h;exact h
def cont {ρ σ β:Type}(o:Option (ρ⊕σ))(g:ρ->β)(f:σ->Option β):Option β:=
 match o with
 |none=>none
 |some (.inl r)=>some (g r)
 |some (.inr v)=>f v
theorem Bi {ρ σ β:Type}{o:Option (ρ⊕σ)}{g:ρ->β}{f:σ->Option β}{b:β}(h:cont o g f=some b):
  ∃v,o=some v/\(match v with|.inl r=>some (g r)|.inr v=>f v)=some b:=by
 unfold cont at h;split at h
 .cases h
 .exact⟨_,rfl,h⟩
 .exact⟨_,rfl,h⟩
@[simp] theorem nT {ρ σ β:Type}(r:ρ)(g:ρ->β)(f:σ->Option β):cont (some (.inl r)) g f=some (g r):=rfl
@[simp] theorem Ox {ρ σ β:Type}(v:σ)(g:ρ->β)(f:σ->Option β):cont (some (.inr v)) g f=f v:=rfl
theorem Ad {α:Type}{b:Bool}{x y:Option α}{r:α}(h:(if b=true then x else y)=some r):(b=true/\x=some r)∨(b=false/\y=some r):=by
 cases b
 .exact .inr ⟨rfl,h⟩
 .exact .inl ⟨rfl,h⟩
end Sh
namespace Go.Abs
open Go
def AP:List (Nat×AV)->Nat->AV
 | [],_=>.FY
 |(t,v)::r,k=>if k=t then v else AP r k
def le (a b:AV):Prop:=∀F w os u,Ab F w os a u->Ab F w os b u
theorem le.rfl {a:AV}:le a a:=λ_ _ _ _ h=>h
theorem le.of {a b:AV}(h:a=b):le a b:=h▸le.rfl
theorem le.FY {a:AV}:le a .FY:=λ_ _ _ _ _=>by simp[Ab]
theorem le.zc:le .zc (.sl []):=λ_ _ _ _ h=>by
 simp only[Ab]at h⊢;obtain⟨ad,e⟩:=h;exact⟨ad,0,by simpa using e,by simp,by simp⟩
def aQ:List AV->List AV->Prop
 | [],[]=>True
 |a::r,b::r'=>le a b/\aQ r r'
 |_,_=>False
theorem aQ.rep {F:Nat->Prop}{w:World}{os:List Own}:∀{xs ys:List AV} {us:List Value},aQ xs ys->Br F w os xs us->Br F w os ys us
 | [],[],_,_,h=>h
 |a::r,b::r',us,h,h'=>by
  simp only[Br]at h' ⊢;obtain⟨u,xS,e,h1,h2⟩:=h';exact⟨u,xS,e,h.1 _ _ _ _ h1,aQ.rep h.2 h2⟩
 | [],_::_,_,h,_=>h.elim
 |_::_,[],_,h,_=>h.elim
theorem le.agg {xs ys:List AV}(h:aQ xs ys):le (.agg xs) (.agg ys):=λF w os u hu=>by
 simp only[Ab]at hu⊢;obtain⟨us,e,hl⟩:=hu;exact⟨us,e,h.rep hl⟩
def ME (e:Nat->AV):List (Nat×AV)->Prop
 | []=>True
 |(t,v)::r=>le (e t) v/\ME e r
theorem le.len {id g m m':Nat}(h:m=m'):le (.own id g m) (.own id g m'):=h▸le.rfl
theorem ME.le {e:Nat->AV}:∀{L:List (Nat×AV)},ME e L->∀t,le (e t) (AP L t)
 | [],_,_=>le.FY
 |(t',v)::r,h,t=>by
  simp only[AP];split
  .rename_i ht;subst ht;exact h.1
  .exact ME.le h.2 t
variable {k n : Nat} {e : Nat -> AV} {st st' : List Row} {L : List (Nat × AV)}
theorem Wk.nL {e':Nat->AV}(h :∀t,le (e t) (e' t)):Wk k ⟨n,e,st⟩ ⟨n,e',st⟩:=λF os _ w hr=>
 ⟨F,os,⟨hr.st,λt=>h t _ _ _ _ (hr.env t),hr.size,hr.rows,hr.inj,hr.Fp,hr.defers⟩,Ext.refl _ _ _ _⟩
theorem Ag (h:ME e L):Wk k ⟨n,e,st⟩ ⟨n,AP L,st⟩:=Wk.nL h.le
theorem le.BY {α:Type}{id g m:Nat}{l:List α}{enc:α->List AV}(h:m=l.length):le (BY id g (l.map enc) (.own id g m)) (.sl (l.map enc)):=by
 subst h;refine le.of ?_;rw[kN,<- pR (f:=enc) (as:=l),qy,qK]
theorem fL {α:Type}{id g m:Nat}{l:List α}{enc:α->List AV}(h:m=l.length):H9 id g (l.map enc) (.own id g m)=.sl (l.map enc):=by
 subst h;rw[iD,<- pR (f:=enc) (as:=l),qy,qK]
theorem Wk.BY {id g size:Nat}{el:TypeId}{xs:List (List AV)}(tw:st[id]?=some ⟨g,el,size,xs⟩)(xB:k<=id)(hp:ES xs)
  (h:ME (λt=>Abs.BY id g xs (e t)) L) (uW:st.set id ⟨g+1,el,size,[]⟩=st'):Wk k ⟨n,e,st⟩ ⟨n,AP L,st'⟩:=by
 subst uW;exact (Wk.freeze (s:=⟨n,e,st⟩) xB tw hp).trans (Ag h)
def Ua (sel:List Nat):List Row->Prop
 | []=>True
 |row::r=>(∀x∈row.xs,∀c∈x,stays sel c=true)/\Ua sel r
theorem Ua.deep {sel:List Nat}{row:Row}{r:List Row}(h:DG row.xs)(hr:Ua sel r):Ua sel (row::r):=⟨λx hx c hc=>by
 have:=h x hx c hc;cases c<;>simp[E6,simple,stays]at this⊢,hr⟩
theorem Ua.pure {sel:List Nat}{row:Row}{r:List Row}(h:ES row.xs)(hr:Ua sel r):Ua sel (row::r):=.deep h.any hr
theorem Ua.raw {sel:List Nat}{g size:Nat}{el:TypeId}{cs:List AV}{r:List Row}(h:cs.all (stays sel)=true)(hr:Ua sel r):Ua sel (⟨g,el,size,[cs]⟩::r):=
 ⟨λx hx c hc=>by
  simp only[pU]at hx;subst hx;exact pH.1 h c hc,hr⟩
theorem Ua.get {sel:List Nat}:∀{l:List Row},Ua sel l->∀row∈l,∀x∈row.xs,∀c∈x,stays sel c=true
 |row::r,h,yE,hm=>by
  rcases pL.1 hm with rfl|hm
  .exact h.1
  .exact Ua.get h.2 yE hm
theorem D2 (sel:List Nat)(hk:sel.take k=List.range k)(vt:sel.Nodup)(uV:sel.all (·<st.length)=true)(uW:CE st sel=st')(hr:Ua sel st')(h:ME (λt=>Jk sel (e t)) L):
  Wk k ⟨n,e,st⟩ ⟨n,AP L,st'⟩:=by
 subst uW;refine (Wk.select (s:=⟨n,e,st⟩) sel (λi hi=>?_) vt (λi hi=>by simpa using pH.1 uV i hi) (λi hi row tw=>?_)).trans (Ag h)
 .have h1:(sel.take k)[i]?=some i:=by rw[hk];simp[hi]
  rw[po]at h1;simpa [hi] using h1
 .exact hr.get row (qh.2 ⟨i,hi,tw⟩)
def Xi (st:List Row):AV->AV
 |.own id g n=>match st[id]? with
  |some row=>if row.gen=g then .own id 0 n else .FY
  |none=>.FY
 |.ptr id g i off=>match st[id]? with
  |some row=>if row.gen=g then .ptr id 0 i off else .FY
  |none=>.FY
 |.fn ..|.agg _|.DF _=>.FY
 |v=>v
def YV (st:List Row)(x:AV):AV:=two (Xi st) x
def rg (st:List Row):AV->AV
 |.fn f cs=>.fn f (cs.map (YV st))
 |.agg cs=>.agg (cs.map (YV st))
 |.DF cs=>.DF (cs.map (YV st))
 |v=>YV st v
def Js (st:List Row)(row:Row):Row:={ row with gen:=0,xs:=row.xs.map (·.map (YV st)) }
def KN (st:List Row)(o:Own):Own:={ o with row:=Js st o.row }
theorem kB {F:Nat->Prop}{w:World}{os:List Own}(uW:os.map Own.row=st){x:AV}{v:Value}(h:Ab F w os x v):Ab F w (os.map (KN st)) (Xi st x) v:=by
 have hs:∀{id:Nat} {o:Own},os[id]?=some o->st[id]?=some o.row:=λ{id o} ho=>by rw[<- uW,pC,ho];rfl
 cases x with
 |own id g n=>
  simp only[Ab]at h;obtain⟨o,ho,hle,yZ,hv⟩:=h;simp only[Xi,hs ho];split
  .rename_i e;obtain⟨h1,h2⟩:=hv e;simp only[Ab];exact⟨KN st o,by simp[ho],pT _,yZ,λ_=>⟨by simpa [KN,Js] using h1,by simpa [KN,Js] using h2⟩⟩
  .simp[Ab]
 |ptr id g i off=>
  simp only[Ab]at h;obtain⟨o,ho,hle,yZ,hv⟩:=h;simp only[Xi,hs ho];split
  .rename_i e;obtain⟨h1,h2,h3⟩:=hv e;simp only[Ab];exact⟨KN st o,by simp[ho],pT _,yZ,λ_=>⟨by simpa [KN,Js] using h1,h2,h3⟩⟩
  .simp[Ab]
 |fn f vP=>simp[Xi,Ab]
 |agg cs=>simp[Xi,Ab]
 |DF cs=>simp[Xi,Ab]
 |_=>simp only[Xi,Ab]at h⊢<;>exact h
theorem YH {F:Nat->Prop}{w:World}{os:List Own}(uW:os.map Own.row=st){x:AV}{v:Value}(h:Ab F w os x v):Ab F w (os.map (KN st)) (YV st x) v:=
 ML (λ_ _ h=>kB uW h) _ _ h
theorem VJ {F:Nat->Prop}{w:World}{os:List Own}(uW:os.map Own.row=st){xs:List AV}{us:List Value}(h:Br F w os xs us):Br F w (os.map (KN st)) (xs.map (YV st)) us:=
 DZ (by simp[BV h]) λi x u hx hu=>by
  simp only[pC,pI]at hx;obtain⟨y,hy,rfl⟩:=hx;obtain⟨u',vn,hr⟩:=CH h i y hy;rw[vn]at hu;cases hu;exact YH uW hr
theorem lC {F:Nat->Prop}{w:World}{os:List Own}(uW:os.map Own.row=st){x:AV}{v:Value}(h:Ab F w os x v):Ab F w (os.map (KN st)) (rg st x) v:=by
 cases x with
 |fn f cs=>simp only[rg,Ab]at h⊢;obtain⟨us,e,hl⟩:=h;exact⟨us,e,VJ uW hl⟩
 |agg cs=>simp only[rg,Ab]at h⊢;obtain⟨us,e,hl⟩:=h;exact⟨us,e,VJ uW hl⟩
 |DF cs=>simp only[rg,Ab]at h⊢;obtain⟨us,e,hl⟩:=h;exact⟨us,e,VJ uW hl⟩
 |_=>exact YH uW h
def JN (st:List Row):Prop:=∀row∈st,∀x∈row.xs,∀c∈x,c.kept=true
theorem lU {st:List Row}{c:AV}{el s:Nat}{ys:List (List AV)}(h:YV st c=.dv el s ys):c=.dv el s ys:=by
 refine UA (X:=Xi st) (λc h=>?_) h;cases c<;>simp only[Xi]at h<;>first|exact h|cases h|(split at h<;>first|cases h|(split at h<;>cases h))
theorem Wk.nH (hl:JN (st.map (Js st))):Wk 0 ⟨n,e,st⟩ ⟨n,λt=>rg st (e t),st.map (Js st)⟩:=λF os a w hr=>by
 have uW:=hr.st;simp only at uW;refine⟨F,os.map (KN st),⟨?_,λt=>lC uW (hr.env t),hr.size,λi o ho=>?_,λi j oi oj b hi hj wK wL=>?_,hr.Fp,hr.defers⟩,⟨rfl,rfl,rfl,pM _,λ_ h=>h,λ_ _=>rfl,λb _ h1 h2=>⟨rfl,h1,λo ho=>?_⟩,λi o hi=>absurd hi (Nat.not_lt_zero _)⟩⟩
 .simp only[<- uW,rG];congr 1
 .rw[pC,pI]at ho;obtain⟨o0,ho0,rfl⟩:=ho;have uA:=hr.rows i o0 ho0;have hm:Js st o0.row∈st.map (Js st):=pS.2 ⟨o0.row,by rw[<- uW];exact pS.2 ⟨o0,oz ho0,rfl⟩,rfl⟩;refine⟨uA.pos,λx hx=>⟨?_,hl _ hm x hx⟩,λh=>?_,λb hb=>?_,uA.mo,uA.deep.keep rfl (λ_ h=>h) rfl (λ_ _=>rfl) (λi x j e s ys hx hc=>by
   simp only[KN,Js,pC,pI]at hx;obtain⟨y,hy,rfl⟩:=hx;simp only[pC,pI]at hc;obtain⟨d,hd,hc⟩:=hc;exact⟨y,hy,by rw[hd,lU hc]⟩)⟩
  .simp only[KN,Js,pS]at hx;obtain⟨y,hy,rfl⟩:=hx;simpa [KN,Js] using (uA.lens y hy).1
  .obtain⟨h1,h2⟩:=uA.none h;exact⟨by simp[KN,Js,h1],h2⟩
  .obtain⟨h1,cur,h2,h3,h4,h5,h6⟩:=uA.some b hb;refine⟨h1,cur,h2,h3,by simpa [KN,Js] using h4,h5,λi' x hx j c hc=>?_⟩;simp only[KN,Js,pC,pI]at hx;obtain⟨y,hy,rfl⟩:=hx;simp only[pC,pI]at hc;obtain⟨d,hd,rfl⟩:=hc;obtain⟨u,e1,e2⟩:=h6 i' y hy j d hd;exact⟨u,e1,YH uW e2⟩
 .rw[pC,pI]at hi hj;obtain⟨oi0,hi0,rfl⟩:=hi;obtain⟨oj0,hj0,rfl⟩:=hj;exact hr.inj i j oi0 oj0 b hi0 hj0 wK wL
 .obtain⟨o0,h0,rfl⟩:=pS.1 ho;exact h2 o0 h0
inductive RG (st:List Row):List Row->List Row->Prop
 |nil:RG st [] []
 |deep {g size:Nat} {el:TypeId} {xs:List (List AV)} {r r':List Row} (hp:DG xs) (hl:RG st r r'):RG st (⟨g,el,size,xs⟩::r) (⟨0,el,size,xs⟩::r')
 |raw {g size:Nat} {el:TypeId} {cs cs':List AV} {r r':List Row} (hc:cs.map (YV st)=cs') (hp:cs'.all AV.leaf=true) (hl:RG st r r'):RG st (⟨g,el,size,[cs]⟩::r) (⟨0,el,size,[cs']⟩::r')
theorem RG.pure {g size:Nat}{el:TypeId}{xs:List (List AV)}{r r':List Row}(hp:ES xs)(hl:RG st r r'):RG st (⟨g,el,size,xs⟩::r) (⟨0,el,size,xs⟩::r'):=.deep hp.any hl
theorem Z5 {c:AV}(h:E6 c=true):YV st c=c:=by cases c<;>simp[E6,simple,YV,two,Xi]at h⊢
theorem RG.spec {st0:List Row}(hle :∀row∈st0,∀x∈row.xs,∀c∈x,c.kept=true):∀{l l':List Row},RG st l l'->(∀row∈l,row∈st0)->l.map (Js st)=l'/\JN l'
 |_,_,.nil,_=>⟨rfl,λ_ h=>by cases h⟩
 |_,_,.deep hp hl,hm=>by
  obtain⟨h1,h2⟩:=RG.spec hle hl (λrow h=>hm row (qU _ h));have vT:=hle _ (hm _ (rJ ..));refine⟨?_,?_⟩
  .simp only[pd,h1];congr 1;simp only[Js];congr 1;refine (ph (g:=id) λx hx=>?_).trans (qo _);refine (ph (g:=id) λc hc=>?_).trans (qo _);exact Z5 (hp x hx c hc)
  .intro row tw;rcases pL.1 tw with rfl|h
   .exact vT
   .exact h2 row h
 |_,_,.raw hc hp hl,hm=>by
  obtain⟨h1,h2⟩:=RG.spec hle hl (λrow h=>hm row (qU _ h));refine⟨?_,?_⟩
  .simp only[pd,h1,Js,qu,hc]
  .intro row tw;rcases pL.1 tw with rfl|h
   .intro x hx c hcx;simp only[pU]at hx;subst hx;exact Di (pH.1 hp c hcx)
   .exact h2 row h
theorem Da (hg:RG st st st')(h:ME (λt=>Abs.rg st (e t)) L):Wk 0 ⟨n,e,st⟩ ⟨n,AP L,st'⟩:=λF os a w hr=>by
 have hle:∀row∈st,∀x∈row.xs,∀c∈x,c.kept=true:=λrow tw x hx c hc=>by
  have uW:=hr.st;simp only at uW;rw[<- uW]at tw;obtain⟨o,ho,rfl⟩:=pS.1 tw;obtain⟨i,hi⟩:=pZ.1 ho;exact ((hr.rows i o hi).lens x hx).2 c hc
 obtain⟨h1,h2⟩:=hg.spec (st0:=st) hle (λ_ h=>h);have h3:Wk 0 ⟨n,e,st⟩ ⟨n,AP L,st'⟩:=by
  have:=Wk.nH (n:=n) (e:=e) (st:=st) (by rw[h1];exact h2);rw[h1]at this;exact this.trans (Ag h)
 exact h3 F os a w hr
theorem Ah {α:Type}{l:List α}{enc:α->List AV}(h :∀x,(enc x).all simple=true):ES (l.map enc):=λx hx c hc=>by
 obtain⟨y,_,rfl⟩:=pS.1 hx;exact pH.1 (h y) c hc
theorem Bq {α:Type}{l:List α}{enc:α->List AV}(h :∀x,(enc x).all simple=true):DG (l.map enc):=(Ah h).any
theorem Aq {α:Type}{l:List α}{enc:α->List AV}(h :∀x,(enc x).all E6=true):DG (l.map enc):=λx hx c hc=>by
 obtain⟨y,_,rfl⟩:=pS.1 hx;exact pH.1 (h y) c hc
theorem Ei {cs:List AV}(h:cs.all simple=true):ES [cs]:=λx hx c hc=>by
 simp only[pU]at hx;subst hx;exact pH.1 h c hc
end Go.Abs
