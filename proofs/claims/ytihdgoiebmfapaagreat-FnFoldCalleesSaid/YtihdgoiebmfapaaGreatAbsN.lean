import Derived.Test.YtihdgoiebmfapaaGreatAbsM
set_option linter.all false
namespace Sh
open Go
def w (n:Int):Int:=IntKind.i64.wrap n
def wk (k:IntKind)(n:Int):Int:=k.wrap n
def get {α:Type}(l:List α)(j:Int):Option α:=if 0<=j then l[j.toNat]? else none
def put {α:Type}(l:List α)(j:Int)(x:α):List α:=l.set j.toNat x
def len {α:Type}(l:List α):Int:=l.length
def mk {α:Type}(x:α)(j:Int)(bytes:Nat):Option (List α):=if 0<=j/\j*bytes<=281474976710656/\j<=9223372036854775807 then some (List.replicate j.toNat x) else none
def app {α:Type}(l m:List α)(bytes:Nat):Option (List α):=if (l.length+m.length)*bytes<=140737488355328/\l.length+m.length<=9223372036854775807 then some (l++m) else none
def hi {α:Type}(l:List α)(j:Int):Option (List α):=if 0<=j/\j<=l.length then some (l.take j.toNat) else none
def lo {α:Type}(l:List α)(j:Int):Option (List α):=if 0<=j/\j<=l.length then some (l.drop j.toNat) else none
def sl {α:Type}(l:List α)(i j:Int):Option (List α):=if 0<=i/\i<=j/\j<=l.length then some ((l.take j.toNat).drop i.toNat) else none
def quo (a b:Int):Option Int:=if b=0 then none else some (w (a.tdiv b))
def rem (a b:Int):Option Int:=if b=0 then none else some (a.tmod b)
def xor (a b:Int):Int:=IntKind.i64.wrap (BitVec.ofInt 64 a ^^^ BitVec.ofInt 64 b).toNat
theorem df {a b c:Int}(h:rem a b=some c):b≠0/\a.tmod b=c:=by
 unfold rem at h;split at h
 ·cases h
 ·exact⟨by assumption,nT h⟩
theorem db {a b c:Int}(h:quo a b=some c):b≠0/\w (a.tdiv b)=c:=by
 unfold quo at h;split at h
 ·cases h
 ·exact⟨by assumption,nT h⟩
theorem get_some {α:Type}{l:List α}{j:Int}{c:α}(h:get l j=some c):0<=j/\l[j.toNat]?=some c/\j<l.length:=by
 unfold get at h;split at h
 ·rename_i h0;have:=(lV.1 h).1;exact⟨h0,h,by omega⟩
 ·cases h
theorem bind_some {α β:Type}{x:Option α}{f:α->Option β}{r:β}(h:x.bind f=some r):∃v,x=some v/\f v=some r:=by
 cases x with
 | none=>cases h
 | some v=>exact⟨v,rfl,h⟩
theorem GX {α:Type}{l:List α}{j:Int}{x:α}:(put l j x).length=l.length:=by simp[put]
theorem AB {α:Type}{a b:α}(h:some a=some b):a=b:=nT h
theorem fG {α:Type}{b:Bool}{x y r:α}(hb:b=true)(h:(if b=true then x else y)=r):x=r:=by rw[ld hb]at h;exact h
theorem fX {α:Type}{b:Bool}{x y r:α}(hb:b=false)(h:(if b=true then x else y)=r):y=r:=by rw[la (by simp[hb])]at h;exact h
def cont {ρ σ β:Type}(o:Option (ρ ⊕ σ))(g:ρ->β)(f:σ->Option β):Option β:=
 match o with
 | none=>none
 | some (.inl r)=>some (g r)
 | some (.inr v)=>f v
theorem Bg {ρ σ β:Type}{o:Option (ρ ⊕ σ)}{g:ρ->β}{f:σ->Option β}{b:β}(h:cont o g f=some b):
  ∃v,o=some v/\(match v with|.inl r=>some (g r)|.inr v=>f v)=some b:=by
 unfold cont at h;split at h
 ·cases h
 ·exact⟨_,rfl,h⟩
 ·exact⟨_,rfl,h⟩
@[simp] theorem kB {ρ σ β:Type}(r:ρ)(g:ρ->β)(f:σ->Option β):cont (some (.inl r)) g f=some (g r):=rfl
@[simp] theorem N4 {ρ σ β:Type}(v:σ)(g:ρ->β)(f:σ->Option β):cont (some (.inr v)) g f=f v:=rfl
theorem Aj {α:Type}{b:Bool}{x y:Option α}{r:α}(h:(if b=true then x else y)=some r):(b=true/\x=some r)∨(b=false/\y=some r):=by
 cases b
 ·exact .inr ⟨rfl,h⟩
 ·exact .inl ⟨rfl,h⟩
end Sh
namespace Go.Abs
open Go
def Aa:List (Nat×AV)->Nat->AV
 | [],_=>.E7
 | (t,v)::r,k=>if k=t then v else Aa r k
def le (a b:AV):Prop:=∀F w os u,Ae F w os a u->Ae F w os b u
theorem le.rfl {a:AV}:le a a:=λ_ _ _ _ h=>h
theorem le.of {a b:AV}(h:a=b):le a b:=h▸le.rfl
theorem le.E7 {a:AV}:le a .E7:=λ_ _ _ _ _=>by simp[Ae]
theorem le.zc:le .zc (.sl []):=λ_ _ _ _ h=>by
 simp only[Ae]at h⊢;obtain⟨ad,e⟩:=h;exact⟨ad,0,by simpa using e,by simp,by simp⟩
def ZB:List AV->List AV->Prop
 | [],[]=>True
 | a::r,b::r'=>le a b/\ZB r r'
 | _,_=>False
theorem ZB.rep {F:Nat->Prop}{w:World}{os:List Own}:∀{xs ys:List AV} {us:List Value},ZB xs ys->Bs F w os xs us->Bs F w os ys us
 | [],[],_,_,h=>h
 | a::r,b::r',us,h,h'=>by
  simp only[Bs]at h' ⊢;obtain⟨u,tM,e,h1,h2⟩:=h';exact⟨u,tM,e,h.1 _ _ _ _ h1,ZB.rep h.2 h2⟩
 | [],_::_,_,h,_=>h.elim
 | _::_,[],_,h,_=>h.elim
theorem le.agg {xs ys:List AV}(h:ZB xs ys):le (.agg xs) (.agg ys):=λF w os u hu=>by
 simp only[Ae]at hu⊢;obtain⟨us,e,hl⟩:=hu;exact⟨us,e,h.rep hl⟩
def ME (e:Nat->AV):List (Nat×AV)->Prop
 | []=>True
 | (t,v)::r=>le (e t) v/\ME e r
theorem le.len {id g m m':Nat}(h:m=m'):le (.own id g m) (.own id g m'):=h▸le.rfl
theorem ME.le {e:Nat->AV}:∀{L:List (Nat×AV)},ME e L->∀t,le (e t) (Aa L t)
 | [],_,_=>le.E7
 | (t',v)::r,h,t=>by
  simp only[Aa];split
  ·rename_i ht;subst ht;exact h.1
  ·exact ME.le h.2 t
variable {k n : Nat} {e : Nat -> AV} {st st' : List Row} {L : List (Nat × AV)}
theorem Wk.jL {e':Nat->AV}(h :∀t,le (e t) (e' t)):Wk k ⟨n,e,st⟩ ⟨n,e',st⟩:=λF os _ w hr=>
 ⟨F,os,⟨hr.st,λt=>h t _ _ _ _ (hr.env t),hr.size,hr.rows,hr.inj,hr.FR,hr.defers⟩,Ext.refl _ _ _ _⟩
theorem Af (h:ME e L):Wk k ⟨n,e,st⟩ ⟨n,Aa L,st⟩:=Wk.jL h.le
theorem le.BL {α:Type}{id g m:Nat}{l:List α}{enc:α->List AV}(h:m=l.length):le (BL id g (l.map enc) (.own id g m)) (.sl (l.map enc)):=by
 subst h;refine le.of ?_;rw[gB,<- ly (f:=enc) (as:=l),nW,nQ]
theorem bV {α:Type}{id g m:Nat}{l:List α}{enc:α->List AV}(h:m=l.length):HT id g (l.map enc) (.own id g m)=.sl (l.map enc):=by
 subst h;rw[eL,<- ly (f:=enc) (as:=l),nW,nQ]
theorem Wk.BL {id g size:Nat}{el:TypeId}{xs:List (List AV)}(qc:st[id]?=some ⟨g,el,size,xs⟩)(tO:k<=id)(hp:ER xs)
  (h:ME (λt=>Abs.BL id g xs (e t)) L) (qz:st.set id ⟨g+1,el,size,[]⟩=st'):Wk k ⟨n,e,st⟩ ⟨n,Aa L,st'⟩:=by
 subst qz;exact (Wk.freeze (s:=⟨n,e,st⟩) tO qc hp).trans (Af h)
def Sc (sel:List Nat):List Row->Prop
 | []=>True
 | row::r=>(∀x∈row.xs,∀c∈x,stays sel c=true)/\Sc sel r
theorem Sc.deep {sel:List Nat}{row:Row}{r:List Row}(h:DG row.xs)(hr:Sc sel r):Sc sel (row::r):=⟨λx hx c hc=>by
 have:=h x hx c hc;cases c<;>simp[Ee,simple,stays]at this⊢,hr⟩
theorem Sc.pure {sel:List Nat}{row:Row}{r:List Row}(h:ER row.xs)(hr:Sc sel r):Sc sel (row::r):=.deep h.any hr
theorem Sc.raw {sel:List Nat}{g size:Nat}{el:TypeId}{cs:List AV}{r:List Row}(h:cs.all (stays sel)=true)(hr:Sc sel r):Sc sel (⟨g,el,size,[cs]⟩::r):=
 ⟨λx hx c hc=>by
  simp only[lu]at hx;subst hx;exact lh.1 h c hc,hr⟩
theorem Sc.get {sel:List Nat}:∀{l:List Row},Sc sel l->∀row∈l,∀x∈row.xs,∀c∈x,stays sel c=true
 | row::r,h,tq,hm=>by
  rcases lk.1 hm with rfl|hm
  ·exact h.1
  ·exact Sc.get h.2 tq hm
theorem Dg (sel:List Nat)(hk:sel.take k=List.range k)(sC:sel.Nodup)(qw:sel.all (·<st.length)=true)(qz:Cc st sel=st')(hr:Sc sel st')(h:ME (λt=>KT sel (e t)) L):
  Wk k ⟨n,e,st⟩ ⟨n,Aa L,st'⟩:=by
 subst qz;refine (Wk.select (s:=⟨n,e,st⟩) sel (λi hi=>?_) sC (λi hi=>by simpa using lh.1 qw i hi) (λi hi row qc=>?_)).trans (Af h)
 ·have h1:(sel.take k)[i]?=some i:=by rw[hk];simp[hi]
  rw[mJ]at h1;simpa [hi] using h1
 ·exact hr.get row (mu.2 ⟨i,hi,qc⟩)
def VN (st:List Row):AV->AV
 | .own id g n=>match st[id]? with
  | some row=>if row.gen=g then .own id 0 n else .E7
  | none=>.E7
 | .ptr id g i off=>match st[id]? with
  | some row=>if row.gen=g then .ptr id 0 i off else .E7
  | none=>.E7
 | .fn ..|.agg _|.Dd _=>.E7
 | v=>v
def V9 (st:List Row)(x:AV):AV:=two (VN st) x
def rg (st:List Row):AV->AV
 | .fn f cs=>.fn f (cs.map (V9 st))
 | .agg cs=>.agg (cs.map (V9 st))
 | .Dd cs=>.Dd (cs.map (V9 st))
 | v=>V9 st v
def JR (st:List Row)(row:Row):Row:={ row with gen:=0,xs:=row.xs.map (·.map (V9 st)) }
def Jt (st:List Row)(o:Own):Own:={ o with row:=JR st o.row }
theorem fI {F:Nat->Prop}{w:World}{os:List Own}(qz:os.map Own.row=st){x:AV}{v:Value}(h:Ae F w os x v):Ae F w (os.map (Jt st)) (VN st x) v:=by
 have hs:∀{id:Nat} {o:Own},os[id]?=some o->st[id]?=some o.row:=λ{id o} ho=>by rw[<- qz,lW,ho];rfl
 cases x with
 | own id g n=>
  simp only[Ae]at h;obtain⟨o,ho,hle,tk,hv⟩:=h;simp only[VN,hs ho];split
  ·rename_i e;obtain⟨h1,h2⟩:=hv e;simp only[Ae];exact⟨Jt st o,by simp[ho],mB _,tk,λ_=>⟨by simpa [Jt,JR] using h1,by simpa [Jt,JR] using h2⟩⟩
  ·simp[Ae]
 | ptr id g i off=>
  simp only[Ae]at h;obtain⟨o,ho,hle,tk,hv⟩:=h;simp only[VN,hs ho];split
  ·rename_i e;obtain⟨h1,h2,h3⟩:=hv e;simp only[Ae];exact⟨Jt st o,by simp[ho],mB _,tk,λ_=>⟨by simpa [Jt,JR] using h1,h2,h3⟩⟩
  ·simp[Ae]
 | fn f rT=>simp[VN,Ae]
 | agg cs=>simp[VN,Ae]
 | Dd cs=>simp[VN,Ae]
 | _=>simp only[VN,Ae]at h⊢<;>exact h
theorem Wl {F:Nat->Prop}{w:World}{os:List Own}(qz:os.map Own.row=st){x:AV}{v:Value}(h:Ae F w os x v):Ae F w (os.map (Jt st)) (V9 st x) v:=
 Lb (λ_ _ h=>fI qz h) _ _ h
theorem TY {F:Nat->Prop}{w:World}{os:List Own}(qz:os.map Own.row=st){xs:List AV}{us:List Value}(h:Bs F w os xs us):Bs F w (os.map (Jt st)) (xs.map (V9 st)) us:=
 Db (by simp[BZ h]) λi x u hx hu=>by
  simp only[lW,lg]at hx;obtain⟨y,hy,rfl⟩:=hx;obtain⟨u',sK,hr⟩:=CO h i y hy;rw[sK]at hu;cases hu;exact Wl qz hr
theorem gp {F:Nat->Prop}{w:World}{os:List Own}(qz:os.map Own.row=st){x:AV}{v:Value}(h:Ae F w os x v):Ae F w (os.map (Jt st)) (rg st x) v:=by
 cases x with
 | fn f cs=>simp only[rg,Ae]at h⊢;obtain⟨us,e,hl⟩:=h;exact⟨us,e,TY qz hl⟩
 | agg cs=>simp only[rg,Ae]at h⊢;obtain⟨us,e,hl⟩:=h;exact⟨us,e,TY qz hl⟩
 | Dd cs=>simp only[rg,Ae]at h⊢;obtain⟨us,e,hl⟩:=h;exact⟨us,e,TY qz hl⟩
 | _=>exact Wl qz h
def It (st:List Row):Prop:=∀row∈st,∀x∈row.xs,∀c∈x,c.kept=true
theorem iA {st:List Row}{c:AV}{el s:Nat}{ys:List (List AV)}(h:V9 st c=.dv el s ys):c=.dv el s ys:=by
 refine Sg (X:=VN st) (λc h=>?_) h;cases c<;>simp only[VN]at h<;>first|exact h|cases h|(split at h<;>first|cases h|(split at h<;>cases h))
theorem Wk.jm (hl:It (st.map (JR st))):Wk 0 ⟨n,e,st⟩ ⟨n,λt=>rg st (e t),st.map (JR st)⟩:=λF os a w hr=>by
 have qz:=hr.st;simp only at qz;refine⟨F,os.map (Jt st),⟨?_,λt=>gp qz (hr.env t),hr.size,λi o ho=>?_,λi j oi oj b hi hj sM sN=>?_,hr.FR,hr.defers⟩,⟨rfl,rfl,rfl,ll _,λ_ h=>h,λ_ _=>rfl,λb _ h1 h2=>⟨rfl,h1,λo ho=>?_⟩,λi o hi=>absurd hi (Nat.not_lt_zero _)⟩⟩
 ·simp only[<- qz,nU];congr 1
 ·rw[lW,lg]at ho;obtain⟨o0,ho0,rfl⟩:=ho;have qf:=hr.rows i o0 ho0;have hm:JR st o0.row∈st.map (JR st):=mA.2 ⟨o0.row,by rw[<- qz];exact mA.2 ⟨o0,lT ho0,rfl⟩,rfl⟩;refine⟨qf.pos,λx hx=>⟨?_,hl _ hm x hx⟩,λh=>?_,λb hb=>?_,qf.mo,qf.deep.keep rfl (λ_ h=>h) rfl (λ_ _=>rfl) (λi x j e s ys hx hc=>by
   simp only[Jt,JR,lW,lg]at hx;obtain⟨y,hy,rfl⟩:=hx;simp only[lW,lg]at hc;obtain⟨d,hd,hc⟩:=hc;exact⟨y,hy,by rw[hd,iA hc]⟩)⟩
  ·simp only[Jt,JR,mA]at hx;obtain⟨y,hy,rfl⟩:=hx;simpa [Jt,JR] using (qf.lens y hy).1
  ·obtain⟨h1,h2⟩:=qf.none h;exact⟨by simp[Jt,JR,h1],h2⟩
  ·obtain⟨h1,cur,h2,h3,h4,h5,h6⟩:=qf.some b hb;refine⟨h1,cur,h2,h3,by simpa [Jt,JR] using h4,h5,λi' x hx j c hc=>?_⟩;simp only[Jt,JR,lW,lg]at hx;obtain⟨y,hy,rfl⟩:=hx;simp only[lW,lg]at hc;obtain⟨d,hd,rfl⟩:=hc;obtain⟨u,e1,e2⟩:=h6 i' y hy j d hd;exact⟨u,e1,Wl qz e2⟩
 ·rw[lW,lg]at hi hj;obtain⟨oi0,hi0,rfl⟩:=hi;obtain⟨oj0,hj0,rfl⟩:=hj;exact hr.inj i j oi0 oj0 b hi0 hj0 sM sN
 ·obtain⟨o0,h0,rfl⟩:=mA.1 ho;exact h2 o0 h0
inductive RG (st:List Row):List Row->List Row->Prop
 | nil:RG st [] []
 | deep {g size:Nat} {el:TypeId} {xs:List (List AV)} {r r':List Row} (hp:DG xs) (hl:RG st r r'):RG st (⟨g,el,size,xs⟩::r) (⟨0,el,size,xs⟩::r')
 | raw {g size:Nat} {el:TypeId} {cs cs':List AV} {r r':List Row} (hc:cs.map (V9 st)=cs') (hp:cs'.all AV.leaf=true) (hl:RG st r r'):RG st (⟨g,el,size,[cs]⟩::r) (⟨0,el,size,[cs']⟩::r')
theorem RG.pure {g size:Nat}{el:TypeId}{xs:List (List AV)}{r r':List Row}(hp:ER xs)(hl:RG st r r'):RG st (⟨g,el,size,xs⟩::r) (⟨0,el,size,xs⟩::r'):=.deep hp.any hl
theorem Yg {c:AV}(h:Ee c=true):V9 st c=c:=by cases c<;>simp[Ee,simple,V9,two,VN]at h⊢
theorem RG.spec {st0:List Row}(hle :∀row∈st0,∀x∈row.xs,∀c∈x,c.kept=true):∀{l l':List Row},RG st l l'->(∀row∈l,row∈st0)->l.map (JR st)=l'/\It l'
 | _,_,.nil,_=>⟨rfl,λ_ h=>by cases h⟩
 | _,_,.deep hp hl,hm=>by
  obtain⟨h1,h2⟩:=RG.spec hle hl (λrow h=>hm row (mh _ h));have rf:=hle _ (hm _ (nf ..));refine⟨?_,?_⟩
  ·simp only[mF,h1];congr 1;simp only[JR];congr 1;refine (mH (g:=id) λx hx=>?_).trans (nH _);refine (mH (g:=id) λc hc=>?_).trans (nH _);exact Yg (hp x hx c hc)
  ·intro row qc;rcases lk.1 qc with rfl|h
   ·exact rf
   ·exact h2 row h
 | _,_,.raw hc hp hl,hm=>by
  obtain⟨h1,h2⟩:=RG.spec hle hl (λrow h=>hm row (mh _ h));refine⟨?_,?_⟩
  ·simp only[mF,h1,JR,nV,hc]
  ·intro row qc;rcases lk.1 qc with rfl|h
   ·intro x hx c wS;simp only[lu]at hx;subst hx;exact D3 (lh.1 hp c wS)
   ·exact h2 row h
theorem EN (hg:RG st st st')(h:ME (λt=>Abs.rg st (e t)) L):Wk 0 ⟨n,e,st⟩ ⟨n,Aa L,st'⟩:=λF os a w hr=>by
 have hle:∀row∈st,∀x∈row.xs,∀c∈x,c.kept=true:=λrow qc x hx c hc=>by
  have qz:=hr.st;simp only at qz;rw[<- qz]at qc;obtain⟨o,ho,rfl⟩:=mA.1 qc;obtain⟨i,hi⟩:=lv.1 ho;exact ((hr.rows i o hi).lens x hx).2 c hc
 obtain⟨h1,h2⟩:=hg.spec (st0:=st) hle (λ_ h=>h);have h3:Wk 0 ⟨n,e,st⟩ ⟨n,Aa L,st'⟩:=by
  have:=Wk.jm (n:=n) (e:=e) (st:=st) (by rw[h1];exact h2);rw[h1]at this;exact this.trans (Af h)
 exact h3 F os a w hr
theorem AD {α:Type}{l:List α}{enc:α->List AV}(h :∀x,(enc x).all simple=true):ER (l.map enc):=λx hx c hc=>by
 obtain⟨y,_,rfl⟩:=mA.1 hx;exact lh.1 (h y) c hc
theorem CL {α:Type}{l:List α}{enc:α->List AV}(h :∀x,(enc x).all simple=true):DG (l.map enc):=(AD h).any
theorem Ah {α:Type}{l:List α}{enc:α->List AV}(h :∀x,(enc x).all Ee=true):DG (l.map enc):=λx hx c hc=>by
 obtain⟨y,_,rfl⟩:=mA.1 hx;exact lh.1 (h y) c hc
theorem ET {cs:List AV}(h:cs.all simple=true):ER [cs]:=λx hx c hc=>by
 simp only[lu]at hx;subst hx;exact lh.1 h c hc
end Go.Abs
