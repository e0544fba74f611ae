import Derived.Test.YtihdgoiebmfapaaGreatAbsM
set_option linter.all false
namespace Sh
open Go
def w (n:Int):Int:=IntKind.i64.wrap n
def wk (k:IntKind)(n:Int):Int:=k.wrap n
def get {α:Type}(l:List α)(j:Int):Option α:=if 0<=j then l[j.toNat]? else none
def put {α:Type}(l:List α)(j:Int)(x:α):List α:=l.set j.toNat x
def len {α:Type}(l:List α):Int:=l.length
def mk {α:Type}(x:α)(j:Int)(bytes:Nat):Option (List α):=if 0<=j/\j*bytes<=281474976710656/\j<=9223372036854775807 then some (List.replicate j.toNat x) else none
def app {α:Type}(l m:List α)(bytes:Nat):Option (List α):=if (l.length+m.length)*bytes<=140737488355328/\l.length+m.length<=9223372036854775807 then some (l++m) else none
def hi {α:Type}(l:List α)(j:Int):Option (List α):=if 0<=j/\j<=l.length then some (l.take j.toNat) else none
def lo {α:Type}(l:List α)(j:Int):Option (List α):=if 0<=j/\j<=l.length then some (l.drop j.toNat) else none
def sl {α:Type}(l:List α)(i j:Int):Option (List α):=if 0<=i/\i<=j/\j<=l.length then some ((l.take j.toNat).drop i.toNat) else none
def quo (a b:Int):Option Int:=if b=0 then none else some (w (a.tdiv b))
def rem (a b:Int):Option Int:=if b=0 then none else some (a.tmod b)
def xor (a b:Int):Int:=IntKind.i64.wrap (BitVec.ofInt 64 a ^^^ BitVec.ofInt 64 b).toNat
theorem Zv {a b c:Int}(h:rem a b=some c):b≠0/\a.tmod b=c:=by
 unfold rem at h;split at h
 ·cases h
 ·exact⟨by assumption,ik h⟩
theorem aI {a b c:Int}(h:quo a b=some c):b≠0/\w (a.tdiv b)=c:=by
 unfold quo at h;split at h
 ·cases h
 ·exact⟨by assumption,ik h⟩
theorem get_some {α:Type}{l:List α}{j:Int}{c:α}(h:get l j=some c):0<=j/\l[j.toNat]?=some c/\j<l.length:=by
 unfold get at h;split at h
 ·rename_i h0;have:=(fe.1 h).1;exact⟨h0,h,by omega⟩
 ·cases h
theorem bind_some {α β:Type}{x:Option α}{f:α->Option β}{r:β}(h:x.bind f=some r):∃v,x=some v/\f v=some r:=by
 cases x with
 | none=>cases h
 | some v=>exact⟨v,rfl,h⟩
theorem GP {α:Type}{l:List α}{j:Int}{x:α}:(put l j x).length=l.length:=by simp[put]
theorem AD {α:Type}{a b:α}(h:some a=some b):a=b:=ik h
theorem aL {α:Type}{b:Bool}{x y r:α}(hb:b=true)(h:(if b=true then x else y)=r):x=r:=by rw[fq hb]at h;exact h
theorem ak {α:Type}{b:Bool}{x y r:α}(hb:b=false)(h:(if b=true then x else y)=r):y=r:=by rw[fr (by simp[hb])]at h;exact h
def cont {ρ σ β:Type}(o:Option (ρ ⊕ σ))(g:ρ->β)(f:σ->Option β):Option β:=
 match o with
 | none=>none
 | some (.inl r)=>some (g r)
 | some (.inr v)=>f v
theorem Bl {ρ σ β:Type}{o:Option (ρ ⊕ σ)}{g:ρ->β}{f:σ->Option β}{b:β}(h:cont o g f=some b):
  ∃v,o=some v/\(match v with|.inl r=>some (g r)|.inr v=>f v)=some b:=by
 unfold cont at h;split at h
 ·cases h
 ·exact⟨_,rfl,h⟩
 ·exact⟨_,rfl,h⟩
@[simp] theorem eL {ρ σ β:Type}(r:ρ)(g:ρ->β)(f:σ->Option β):cont (some (.inl r)) g f=some (g r):=rfl
@[simp] theorem Mp {ρ σ β:Type}(v:σ)(g:ρ->β)(f:σ->Option β):cont (some (.inr v)) g f=f v:=rfl
theorem Aj {α:Type}{b:Bool}{x y:Option α}{r:α}(h:(if b=true then x else y)=some r):(b=true/\x=some r)∨(b=false/\y=some r):=by
 cases b
 ·exact .inr ⟨rfl,h⟩
 ·exact .inl ⟨rfl,h⟩
end Sh
namespace Go.Abs
open Go
def Aa:List (Nat×AV)->Nat->AV
 | [],_=>.E2
 | (t,v)::r,k=>if k=t then v else Aa r k
def le (a b:AV):Prop:=∀F w os u,Ae F w os a u->Ae F w os b u
theorem le.rfl {a:AV}:le a a:=λ_ _ _ _ h=>h
theorem le.of {a b:AV}(h:a=b):le a b:=h▸le.rfl
theorem le.E2 {a:AV}:le a .E2:=λ_ _ _ _ _=>by simp[Ae]
theorem le.zc:le .zc (.sl []):=λ_ _ _ _ h=>by
 simp only[Ae]at h⊢;obtain⟨ad,e⟩:=h;exact⟨ad,0,by simpa using e,by simp,by simp⟩
def WV:List AV->List AV->Prop
 | [],[]=>True
 | a::r,b::r'=>le a b/\WV r r'
 | _,_=>False
theorem WV.rep {F:Nat->Prop}{w:World}{os:List Own}:∀{xs ys:List AV} {us:List Value},WV xs ys->Br F w os xs us->Br F w os ys us
 | [],[],_,_,h=>h
 | a::r,b::r',us,h,h'=>by
  simp only[Br]at h' ⊢;obtain⟨u,oN,e,h1,h2⟩:=h';exact⟨u,oN,e,h.1 _ _ _ _ h1,WV.rep h.2 h2⟩
 | [],_::_,_,h,_=>h.elim
 | _::_,[],_,h,_=>h.elim
theorem le.agg {xs ys:List AV}(h:WV xs ys):le (.agg xs) (.agg ys):=λF w os u hu=>by
 simp only[Ae]at hu⊢;obtain⟨us,e,hl⟩:=hu;exact⟨us,e,h.rep hl⟩
def ME (e:Nat->AV):List (Nat×AV)->Prop
 | []=>True
 | (t,v)::r=>le (e t) v/\ME e r
theorem le.len {id g m m':Nat}(h:m=m'):le (.own id g m) (.own id g m'):=h▸le.rfl
theorem ME.le {e:Nat->AV}:∀{L:List (Nat×AV)},ME e L->∀t,le (e t) (Aa L t)
 | [],_,_=>le.E2
 | (t',v)::r,h,t=>by
  simp only[Aa];split
  ·rename_i ht;subst ht;exact h.1
  ·exact ME.le h.2 t
variable {k n : Nat} {e : Nat -> AV} {st st' : List Row} {L : List (Nat × AV)}
theorem Wk.dq {e':Nat->AV}(h :∀t,le (e t) (e' t)):Wk k ⟨n,e,st⟩ ⟨n,e',st⟩:=λF os _ w hr=>
 ⟨F,os,⟨hr.st,λt=>h t _ _ _ _ (hr.env t),hr.size,hr.rows,hr.inj,hr.GG,hr.defers⟩,Ext.refl _ _ _ _⟩
theorem Ag (h:ME e L):Wk k ⟨n,e,st⟩ ⟨n,Aa L,st⟩:=Wk.dq h.le
theorem le.BJ {α:Type}{id g m:Nat}{l:List α}{enc:α->List AV}(h:m=l.length):le (BJ id g (l.map enc) (.own id g m)) (.sl (l.map enc)):=by
 subst h;refine le.of ?_;rw[bY,<- gI (f:=enc) (as:=l),iS,ir]
theorem YQ {α:Type}{id g m:Nat}{l:List α}{enc:α->List AV}(h:m=l.length):G5 id g (l.map enc) (.own id g m)=.sl (l.map enc):=by
 subst h;rw[Z8,<- gI (f:=enc) (as:=l),iS,ir]
theorem Wk.BJ {id g size:Nat}{el:TypeId}{xs:List (List AV)}(lQ:st[id]?=some ⟨g,el,size,xs⟩)(oT:k<=id)(hp:Dz xs)
  (h:ME (λt=>Abs.BJ id g xs (e t)) L) (lp:st.set id ⟨g+1,el,size,[]⟩=st'):Wk k ⟨n,e,st⟩ ⟨n,Aa L,st'⟩:=by
 subst lp;exact (Wk.freeze (s:=⟨n,e,st⟩) oT lQ hp).trans (Ag h)
def Qp (sel:List Nat):List Row->Prop
 | []=>True
 | row::r=>(∀x∈row.xs,∀c∈x,stays sel c=true)/\Qp sel r
theorem Qp.deep {sel:List Nat}{row:Row}{r:List Row}(h:Cp row.xs)(hr:Qp sel r):Qp sel (row::r):=⟨λx hx c hc=>by
 have:=h x hx c hc;cases c<;>simp[EY,simple,stays]at this⊢,hr⟩
theorem Qp.pure {sel:List Nat}{row:Row}{r:List Row}(h:Dz row.xs)(hr:Qp sel r):Qp sel (row::r):=.deep h.any hr
theorem Qp.raw {sel:List Nat}{g size:Nat}{el:TypeId}{cs:List AV}{r:List Row}(h:cs.all (stays sel)=true)(hr:Qp sel r):Qp sel (⟨g,el,size,[cs]⟩::r):=
 ⟨λx hx c hc=>by
  simp only[gB]at hx;subst hx;exact fk.1 h c hc,hr⟩
theorem Qp.get {sel:List Nat}:∀{l:List Row},Qp sel l->∀row∈l,∀x∈row.xs,∀c∈x,stays sel c=true
 | row::r,h,oY,hm=>by
  rcases fu.1 hm with rfl|hm
  ·exact h.1
  ·exact Qp.get h.2 oY hm
theorem Du (sel:List Nat)(hk:sel.take k=List.range k)(mh:sel.Nodup)(lh:sel.all (·<st.length)=true)(lp:CT st sel=st')(hr:Qp sel st')(h:ME (λt=>Je sel (e t)) L):
  Wk k ⟨n,e,st⟩ ⟨n,Aa L,st'⟩:=by
 subst lp;refine (Wk.select (s:=⟨n,e,st⟩) sel (λi hi=>?_) mh (λi hi=>by simpa using fk.1 lh i hi) (λi hi row lQ=>?_)).trans (Ag h)
 ·have h1:(sel.take k)[i]?=some i:=by rw[hk];simp[hi]
  rw[gR]at h1;simpa [hi] using h1
 ·exact hr.get row (hU.2 ⟨i,hi,lQ⟩)
def Tz (st:List Row):AV->AV
 | .own id g n=>match st[id]? with
  | some row=>if row.gen=g then .own id 0 n else .E2
  | none=>.E2
 | .ptr id g i off=>match st[id]? with
  | some row=>if row.gen=g then .ptr id 0 i off else .E2
  | none=>.E2
 | .fn ..|.agg _|.Dm _=>.E2
 | v=>v
def T4 (st:List Row)(x:AV):AV:=two (Tz st) x
def rg (st:List Row):AV->AV
 | .fn f cs=>.fn f (cs.map (T4 st))
 | .agg cs=>.agg (cs.map (T4 st))
 | .Dm cs=>.Dm (cs.map (T4 st))
 | v=>T4 st v
def Ij (st:List Row)(row:Row):Row:={ row with gen:=0,xs:=row.xs.map (·.map (T4 st)) }
def JI (st:List Row)(o:Own):Own:={ o with row:=Ij st o.row }
theorem bH {F:Nat->Prop}{w:World}{os:List Own}(lp:os.map Own.row=st){x:AV}{v:Value}(h:Ae F w os x v):Ae F w (os.map (JI st)) (Tz st x) v:=by
 have hs:∀{id:Nat} {o:Own},os[id]?=some o->st[id]?=some o.row:=λ{id o} ho=>by rw[<- lp,fg,ho];rfl
 cases x with
 | own id g n=>
  simp only[Ae]at h;obtain⟨o,ho,hle,hsh,hv⟩:=h;simp only[Tz,hs ho];split
  ·rename_i e;obtain⟨h1,h2⟩:=hv e;simp only[Ae];exact⟨JI st o,by simp[ho],gK _,hsh,λ_=>⟨by simpa [JI,Ij] using h1,by simpa [JI,Ij] using h2⟩⟩
  ·simp[Ae]
 | ptr id g i off=>
  simp only[Ae]at h;obtain⟨o,ho,hle,hsh,hv⟩:=h;simp only[Tz,hs ho];split
  ·rename_i e;obtain⟨h1,h2,h3⟩:=hv e;simp only[Ae];exact⟨JI st o,by simp[ho],gK _,hsh,λ_=>⟨by simpa [JI,Ij] using h1,h2,h3⟩⟩
  ·simp[Ae]
 | fn f mP=>simp[Tz,Ae]
 | agg cs=>simp[Tz,Ae]
 | Dm cs=>simp[Tz,Ae]
 | _=>simp only[Tz,Ae]at h⊢<;>exact h
theorem Ts {F:Nat->Prop}{w:World}{os:List Own}(lp:os.map Own.row=st){x:AV}{v:Value}(h:Ae F w os x v):Ae F w (os.map (JI st)) (T4 st x) v:=
 Kq (λ_ _ h=>bH lp h) _ _ h
theorem R3 {F:Nat->Prop}{w:World}{os:List Own}(lp:os.map Own.row=st){xs:List AV}{us:List Value}(h:Br F w os xs us):Br F w (os.map (JI st)) (xs.map (T4 st)) us:=
 DV (by simp[BW h]) λi x u hx hu=>by
  simp only[fg,fp]at hx;obtain⟨y,hy,rfl⟩:=hx;obtain⟨u',nC,hr⟩:=CJ h i y hy;rw[nC]at hu;cases hu;exact Ts lp hr
theorem cT {F:Nat->Prop}{w:World}{os:List Own}(lp:os.map Own.row=st){x:AV}{v:Value}(h:Ae F w os x v):Ae F w (os.map (JI st)) (rg st x) v:=by
 cases x with
 | fn f cs=>simp only[rg,Ae]at h⊢;obtain⟨us,e,hl⟩:=h;exact⟨us,e,R3 lp hl⟩
 | agg cs=>simp only[rg,Ae]at h⊢;obtain⟨us,e,hl⟩:=h;exact⟨us,e,R3 lp hl⟩
 | Dm cs=>simp only[rg,Ae]at h⊢;obtain⟨us,e,hl⟩:=h;exact⟨us,e,R3 lp hl⟩
 | _=>exact Ts lp h
def Ho (st:List Row):Prop:=∀row∈st,∀x∈row.xs,∀c∈x,c.kept=true
theorem cB {st:List Row}{c:AV}{el s:Nat}{ys:List (List AV)}(h:T4 st c=.dv el s ys):c=.dv el s ys:=by
 refine Q8 (X:=Tz st) (λc h=>?_) h;cases c<;>simp only[Tz]at h<;>first|exact h|cases h|(split at h<;>first|cases h|(split at h<;>cases h))
theorem Wk.dN (hl:Ho (st.map (Ij st))):Wk 0 ⟨n,e,st⟩ ⟨n,λt=>rg st (e t),st.map (Ij st)⟩:=λF os a w hr=>by
 have lp:=hr.st;simp only at lp;refine⟨F,os.map (JI st),⟨?_,λt=>cT lp (hr.env t),hr.size,λi o ho=>?_,λi j oi oj b hi hj nD nE=>?_,hr.GG,hr.defers⟩,⟨rfl,rfl,rfl,gA _,λ_ h=>h,λ_ _=>rfl,λb _ h1 h2=>⟨rfl,h1,λo ho=>?_⟩,λi o hi=>absurd hi (Nat.not_lt_zero _)⟩⟩
 ·simp only[<- lp,iP];congr 1
 ·rw[fg,fp]at ho;obtain⟨o0,ho0,rfl⟩:=ho;have lU:=hr.rows i o0 ho0;have hm:Ij st o0.row∈st.map (Ij st):=gC.2 ⟨o0.row,by rw[<- lp];exact gC.2 ⟨o0,fc ho0,rfl⟩,rfl⟩;refine⟨lU.pos,λx hx=>⟨?_,hl _ hm x hx⟩,λh=>?_,λb hb=>?_,lU.mo,lU.deep.keep rfl (λ_ h=>h) rfl (λ_ _=>rfl) (λi x j e s ys hx hc=>by
   simp only[JI,Ij,fg,fp]at hx;obtain⟨y,hy,rfl⟩:=hx;simp only[fg,fp]at hc;obtain⟨d,hd,hc⟩:=hc;exact⟨y,hy,by rw[hd,cB hc]⟩)⟩
  ·simp only[JI,Ij,gC]at hx;obtain⟨y,hy,rfl⟩:=hx;simpa [JI,Ij] using (lU.lens y hy).1
  ·obtain⟨h1,h2⟩:=lU.none h;exact⟨by simp[JI,Ij,h1],h2⟩
  ·obtain⟨h1,cur,h2,h3,h4,h5,h6⟩:=lU.some b hb;refine⟨h1,cur,h2,h3,by simpa [JI,Ij] using h4,h5,λi' x hx j c hc=>?_⟩;simp only[JI,Ij,fg,fp]at hx;obtain⟨y,hy,rfl⟩:=hx;simp only[fg,fp]at hc;obtain⟨d,hd,rfl⟩:=hc;obtain⟨u,e1,e2⟩:=h6 i' y hy j d hd;exact⟨u,e1,Ts lp e2⟩
 ·rw[fg,fp]at hi hj;obtain⟨oi0,hi0,rfl⟩:=hi;obtain⟨oj0,wo,rfl⟩:=hj;exact hr.inj i j oi0 oj0 b hi0 wo nD nE
 ·obtain⟨o0,h0,rfl⟩:=gC.1 ho;exact h2 o0 h0
inductive RG (st:List Row):List Row->List Row->Prop
 | nil:RG st [] []
 | deep {g size:Nat} {el:TypeId} {xs:List (List AV)} {r r':List Row} (hp:Cp xs) (hl:RG st r r'):RG st (⟨g,el,size,xs⟩::r) (⟨0,el,size,xs⟩::r')
 | raw {g size:Nat} {el:TypeId} {cs cs':List AV} {r r':List Row} (hc:cs.map (T4 st)=cs') (hp:cs'.all AV.leaf=true) (hl:RG st r r'):RG st (⟨g,el,size,[cs]⟩::r) (⟨0,el,size,[cs']⟩::r')
theorem RG.pure {g size:Nat}{el:TypeId}{xs:List (List AV)}{r r':List Row}(hp:Dz xs)(hl:RG st r r'):RG st (⟨g,el,size,xs⟩::r) (⟨0,el,size,xs⟩::r'):=.deep hp.any hl
theorem Wo {c:AV}(h:EY c=true):T4 st c=c:=by cases c<;>simp[EY,simple,T4,two,Tz]at h⊢
theorem RG.spec {st0:List Row}(hle :∀row∈st0,∀x∈row.xs,∀c∈x,c.kept=true):∀{l l':List Row},RG st l l'->(∀row∈l,row∈st0)->l.map (Ij st)=l'/\Ho l'
 | _,_,.nil,_=>⟨rfl,λ_ h=>by cases h⟩
 | _,_,.deep hp hl,hm=>by
  obtain⟨h1,h2⟩:=RG.spec hle hl (λrow h=>hm row (gw _ h));have mQ:=hle _ (hm _ (iI ..));refine⟨?_,?_⟩
  ·simp only[gP,h1];congr 1;simp only[Ij];congr 1;refine (gO (g:=id) λx hx=>?_).trans (hZ _);refine (gO (g:=id) λc hc=>?_).trans (hZ _);exact Wo (hp x hx c hc)
  ·intro row lQ;rcases fu.1 lQ with rfl|h
   ·exact mQ
   ·exact h2 row h
 | _,_,.raw hc hp hl,hm=>by
  obtain⟨h1,h2⟩:=RG.spec hle hl (λrow h=>hm row (gw _ h));refine⟨?_,?_⟩
  ·simp only[gP,h1,Ij,iQ,hc]
  ·intro row lQ;rcases fu.1 lQ with rfl|h
   ·intro x hx c qq;simp only[gB]at hx;subst hx;exact Dr (fk.1 hp c qq)
   ·exact h2 row h
theorem ER (hg:RG st st st')(h:ME (λt=>Abs.rg st (e t)) L):Wk 0 ⟨n,e,st⟩ ⟨n,Aa L,st'⟩:=λF os a w hr=>by
 have hle:∀row∈st,∀x∈row.xs,∀c∈x,c.kept=true:=λrow lQ x hx c hc=>by
  have lp:=hr.st;simp only at lp;rw[<- lp]at lQ;obtain⟨o,ho,rfl⟩:=gC.1 lQ;obtain⟨i,hi⟩:=gG.1 ho;exact ((hr.rows i o hi).lens x hx).2 c hc
 obtain⟨h1,h2⟩:=hg.spec (st0:=st) hle (λ_ h=>h);have h3:Wk 0 ⟨n,e,st⟩ ⟨n,Aa L,st'⟩:=by
  have:=Wk.dN (n:=n) (e:=e) (st:=st) (by rw[h1];exact h2);rw[h1]at this;exact this.trans (Ag h)
 exact h3 F os a w hr
theorem AB {α:Type}{l:List α}{enc:α->List AV}(h :∀x,(enc x).all simple=true):Dz (l.map enc):=λx hx c hc=>by
 obtain⟨y,_,rfl⟩:=gC.1 hx;exact fk.1 (h y) c hc
theorem By {α:Type}{l:List α}{enc:α->List AV}(h :∀x,(enc x).all simple=true):Cp (l.map enc):=(AB h).any
theorem Ah {α:Type}{l:List α}{enc:α->List AV}(h :∀x,(enc x).all EY=true):Cp (l.map enc):=λx hx c hc=>by
 obtain⟨y,_,rfl⟩:=gC.1 hx;exact fk.1 (h y) c hc
theorem ED {cs:List AV}(h:cs.all simple=true):Dz [cs]:=λx hx c hc=>by
 simp only[gB]at hx;subst hx;exact fk.1 h c hc
end Go.Abs
