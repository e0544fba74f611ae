import Derived.Test.YtccficmcdkcpnaaGreatAbsM
set_option linter.all false
namespace Sh
open Go
def w (n:Int):Int:=IntKind.i64.wrap n
def wk (k:IntKind)(n:Int):Int:=k.wrap n
def get {α:Type}(l:List α)(j:Int):Option α:=if 0<=j then l[j.toNat]? else none
def put {α:Type}(l:List α)(j:Int)(x:α):List α:=l.set j.toNat x
def len {α:Type}(l:List α):Int:=l.length
def mk {α:Type}(x:α)(j:Int)(bytes:Nat):Option (List α):=if 0<=j/\j*bytes<=281474976710656/\j<=9223372036854775807 then some (List.replicate j.toNat x) else none
def app {α:Type}(l m:List α)(bytes:Nat):Option (List α):=if (l.length+m.length)*bytes<=140737488355328/\l.length+m.length<=9223372036854775807 then some (l++m) else none
def hi {α:Type}(l:List α)(j:Int):Option (List α):=if 0<=j/\j<=l.length then some (l.take j.toNat) else none
def lo {α:Type}(l:List α)(j:Int):Option (List α):=if 0<=j/\j<=l.length then some (l.drop j.toNat) else none
def sl {α:Type}(l:List α)(i j:Int):Option (List α):=if 0<=i/\i<=j/\j<=l.length then some ((l.take j.toNat).drop i.toNat) else none
def quo (a b:Int):Option Int:=if b=0 then none else some (w (a.tdiv b))
def rem (a b:Int):Option Int:=if b=0 then none else some (a.tmod b)
def xor (a b:Int):Int:=IntKind.i64.wrap (BitVec.ofInt 64 a ^^^ BitVec.ofInt 64 b).toNat
theorem iA {a b c:Int}(h:rem a b=some c):b≠0/\a.tmod b=c:=by
 unfold rem at h;split at h
 ·cases h
 ·exact⟨by assumption,sF h⟩
theorem jX {a b c:Int}(h:quo a b=some c):b≠0/\w (a.tdiv b)=c:=by
 unfold quo at h;split at h
 ·cases h
 ·exact⟨by assumption,sF h⟩
theorem get_some {α:Type}{l:List α}{j:Int}{c:α}(h:get l j=some c):0<=j/\l[j.toNat]?=some c/\j<l.length:=by
 unfold get at h;split at h
 ·rename_i h0;have:=(px.1 h).1;exact⟨h0,h,by omega⟩
 ·cases h
theorem bind_some {α β:Type}{x:Option α}{f:α->Option β}{r:β}(h:x.bind f=some r):∃v,x=some v/\f v=some r:=by
 cases x with
 | none=>cases h
 | some v=>exact⟨v,rfl,h⟩
theorem H0 {α:Type}{l:List α}{j:Int}{x:α}:(put l j x).length=l.length:=by simp[put]
theorem Bt {α:Type}{a b:α}(h:some a=some b):a=b:=sF h
theorem kx {α:Type}{b:Bool}{x y r:α}(hb:b=true)(h:(if b=true then x else y)=r):x=r:=by rw[qF hb]at h;exact h
theorem jx {α:Type}{b:Bool}{x y r:α}(hb:b=false)(h:(if b=true then x else y)=r):y=r:=by rw[qG (by simp[hb])]at h;exact h
def cont {ρ σ β:Type}(o:Option (ρ ⊕ σ))(g:ρ->β)(f:σ->Option β):Option β:=
 match o with
 | none=>none
 | some (.inl r)=>some (g r)
 | some (.inr v)=>f v
theorem BZ {ρ σ β:Type}{o:Option (ρ ⊕ σ)}{g:ρ->β}{f:σ->Option β}{b:β}(h:cont o g f=some b):
  ∃v,o=some v/\(match v with|.inl r=>some (g r)|.inr v=>f v)=some b:=by
 unfold cont at h;split at h
 ·cases h
 ·exact⟨_,rfl,h⟩
 ·exact⟨_,rfl,h⟩
@[simp] theorem oQ {ρ σ β:Type}(r:ρ)(g:ρ->β)(f:σ->Option β):cont (some (.inl r)) g f=some (g r):=rfl
@[simp] theorem JO {ρ σ β:Type}(v:σ)(g:ρ->β)(f:σ->Option β):cont (some (.inr v)) g f=f v:=rfl
theorem Aa {α:Type}{b:Bool}{x y:Option α}{r:α}(h:(if b=true then x else y)=some r):(b=true/\x=some r)∨(b=false/\y=some r):=by
 cases b
 ·exact .inr ⟨rfl,h⟩
 ·exact .inl ⟨rfl,h⟩
end Sh
namespace Go.Abs
open Go
def AL:List (Nat×AV)->Nat->AV
 | [],_=>.FZ
 | (t,v)::r,k=>if k=t then v else AL r k
def le (a b:AV):Prop:=∀F w os u,Ac F w os a u->Ac F w os b u
theorem le.rfl {a:AV}:le a a:=λ_ _ _ _ h=>h
theorem le.of {a b:AV}(h:a=b):le a b:=h▸le.rfl
theorem le.FZ {a:AV}:le a .FZ:=λ_ _ _ _ _=>by simp[Ac]
theorem le.zc:le .zc (.sl []):=λ_ _ _ _ h=>by
 simp only[Ac]at h⊢;obtain⟨ad,e⟩:=h;exact⟨ad,0,by simpa using e,by simp,by simp⟩
def bE:List AV->List AV->Prop
 | [],[]=>True
 | a::r,b::r'=>le a b/\bE r r'
 | _,_=>False
theorem bE.rep {F:Nat->Prop}{w:World}{os:List Own}:∀{xs ys:List AV} {us:List Value},bE xs ys->Bw F w os xs us->Bw F w os ys us
 | [],[],_,_,h=>h
 | a::r,b::r',us,h,h'=>by
  simp only[Bw]at h' ⊢;obtain⟨u,yO,e,h1,h2⟩:=h';exact⟨u,yO,e,h.1 _ _ _ _ h1,bE.rep h.2 h2⟩
 | [],_::_,_,h,_=>h.elim
 | _::_,[],_,h,_=>h.elim
theorem le.agg {xs ys:List AV}(h:bE xs ys):le (.agg xs) (.agg ys):=λF w os u hu=>by
 simp only[Ac]at hu⊢;obtain⟨us,e,hl⟩:=hu;exact⟨us,e,h.rep hl⟩
def ME (e:Nat->AV):List (Nat×AV)->Prop
 | []=>True
 | (t,v)::r=>le (e t) v/\ME e r
theorem le.len {id g m m':Nat}(h:m=m'):le (.own id g m) (.own id g m'):=h▸le.rfl
theorem ME.le {e:Nat->AV}:∀{L:List (Nat×AV)},ME e L->∀t,le (e t) (AL L t)
 | [],_,_=>le.FZ
 | (t',v)::r,h,t=>by
  simp only[AL];split
  ·rename_i ht;subst ht;exact h.1
  ·exact ME.le h.2 t
variable {k n : Nat} {e : Nat -> AV} {st st' : List Row} {L : List (Nat × AV)}
theorem Wk.nT {e':Nat->AV}(h :∀t,le (e t) (e' t)):Wk k ⟨n,e,st⟩ ⟨n,e',st⟩:=λF os _ w hr=>
 ⟨F,os,⟨hr.st,λt=>h t _ _ _ _ (hr.env t),hr.size,hr.rows,hr.inj,hr.HO,hr.defers⟩,Ext.refl _ _ _ _⟩
theorem ET (h:ME e L):Wk k ⟨n,e,st⟩ ⟨n,AL L,st⟩:=Wk.nT h.le
theorem le.Bg {α:Type}{id g m:Nat}{l:List α}{enc:α->List AV}(h:m=l.length):le (Bg id g (l.map enc) (.own id g m)) (.sl (l.map enc)):=by
 subst h;refine le.of ?_;rw[jc,<- qc (f:=enc) (as:=l),sK,rG]
theorem df {α:Type}{id g m:Nat}{l:List α}{enc:α->List AV}(h:m=l.length):Gs id g (l.map enc) (.own id g m)=.sl (l.map enc):=by
 subst h;rw[iK,<- qc (f:=enc) (as:=l),sK,rG]
theorem Wk.Bg {id g size:Nat}{el:TypeId}{xs:List (List AV)}(uj:st[id]?=some ⟨g,el,size,xs⟩)(yV:k<=id)(hp:D0 xs)
  (h:ME (λt=>Abs.Bg id g xs (e t)) L) (vX:st.set id ⟨g+1,el,size,[]⟩=st'):Wk k ⟨n,e,st⟩ ⟨n,AL L,st'⟩:=by
 subst vX;exact (Wk.freeze (s:=⟨n,e,st⟩) yV uj hp).trans (ET h)
def U4 (sel:List Nat):List Row->Prop
 | []=>True
 | row::r=>(∀x∈row.xs,∀c∈x,stays sel c=true)/\U4 sel r
theorem U4.deep {sel:List Nat}{row:Row}{r:List Row}(h:DO row.xs)(hr:U4 sel r):U4 sel (row::r):=⟨λx hx c hc=>by
 have:=h x hx c hc;cases c<;>simp[Ey,simple,stays]at this⊢,hr⟩
theorem U4.pure {sel:List Nat}{row:Row}{r:List Row}(h:D0 row.xs)(hr:U4 sel r):U4 sel (row::r):=.deep h.any hr
theorem U4.raw {sel:List Nat}{g size:Nat}{el:TypeId}{cs:List AV}{r:List Row}(h:cs.all (stays sel)=true)(hr:U4 sel r):U4 sel (⟨g,el,size,[cs]⟩::r):=
 ⟨λx hx c hc=>by
  simp only[qO]at hx;subst hx;exact qC.1 h c hc,hr⟩
theorem U4.get {sel:List Nat}:∀{l:List Row},U4 sel l->∀row∈l,∀x∈row.xs,∀c∈x,stays sel c=true
 | row::r,h,yb,hm=>by
  rcases qH.1 hm with rfl|hm
  ·exact h.1
  ·exact U4.get h.2 yb hm
theorem Fy (sel:List Nat)(hk:sel.take k=List.range k)(wc:sel.Nodup)(vS:sel.all (·<st.length)=true)(vX:CD st sel=st')(hr:U4 sel st')(h:ME (λt=>Jx sel (e t)) L):
  Wk k ⟨n,e,st⟩ ⟨n,AL L,st'⟩:=by
 subst vX;refine (Wk.select (s:=⟨n,e,st⟩) sel (λi hi=>?_) wc (λi hi=>by simpa using qC.1 vS i hi) (λi hi row uj=>?_)).trans (ET h)
 ·have h1:(sel.take k)[i]?=some i:=by rw[hk];simp[hi]
  rw[ql]at h1;simpa [hi] using h1
 ·exact hr.get row (rQ.2 ⟨i,hi,uj⟩)
def Xu (st:List Row):AV->AV
 | .own id g n=>match st[id]? with
  | some row=>if row.gen=g then .own id 0 n else .FZ
  | none=>.FZ
 | .ptr id g i off=>match st[id]? with
  | some row=>if row.gen=g then .ptr id 0 i off else .FZ
  | none=>.FZ
 | .fn ..|.agg _|.Dv _=>.FZ
 | v=>v
def Xc (st:List Row)(x:AV):AV:=two (Xu st) x
def rg (st:List Row):AV->AV
 | .fn f cs=>.fn f (cs.map (Xc st))
 | .agg cs=>.agg (cs.map (Xc st))
 | .Dv cs=>.Dv (cs.map (Xc st))
 | v=>Xc st v
def KT (st:List Row)(row:Row):Row:={ row with gen:=0,xs:=row.xs.map (·.map (Xc st)) }
def LN (st:List Row)(o:Own):Own:={ o with row:=KT st o.row }
theorem ku {F:Nat->Prop}{w:World}{os:List Own}(vX:os.map Own.row=st){x:AV}{v:Value}(h:Ac F w os x v):Ac F w (os.map (LN st)) (Xu st x) v:=by
 have hs:∀{id:Nat} {o:Own},os[id]?=some o->st[id]?=some o.row:=λ{id o} ho=>by rw[<- vX,qA,ho];rfl
 cases x with
 | own id g n=>
  simp only[Ac]at h;obtain⟨o,ho,hle,hsh,hv⟩:=h;simp only[Xu,hs ho];split
  ·rename_i e;obtain⟨h1,h2⟩:=hv e;simp only[Ac];exact⟨LN st o,by simp[ho],qd _,hsh,λ_=>⟨by simpa [LN,KT] using h1,by simpa [LN,KT] using h2⟩⟩
  ·simp[Ac]
 | ptr id g i off=>
  simp only[Ac]at h;obtain⟨o,ho,hle,hsh,hv⟩:=h;simp only[Xu,hs ho];split
  ·rename_i e;obtain⟨h1,h2,h3⟩:=hv e;simp only[Ac];exact⟨LN st o,by simp[ho],qd _,hsh,λ_=>⟨by simpa [LN,KT] using h1,h2,h3⟩⟩
  ·simp[Ac]
 | fn f vp=>simp[Xu,Ac]
 | agg cs=>simp[Xu,Ac]
 | Dv cs=>simp[Xu,Ac]
 | _=>simp only[Xu,Ac]at h⊢<;>exact h
theorem XG {F:Nat->Prop}{w:World}{os:List Own}(vX:os.map Own.row=st){x:AV}{v:Value}(h:Ac F w os x v):Ac F w (os.map (LN st)) (Xc st x) v:=
 Ng (λ_ _ h=>ku vX h) _ _ h
theorem Vg {F:Nat->Prop}{w:World}{os:List Own}(vX:os.map Own.row=st){xs:List AV}{us:List Value}(h:Bw F w os xs us):Bw F w (os.map (LN st)) (xs.map (Xc st)) us:=
 Df (by simp[BW h]) λi x u hx hu=>by
  simp only[qA,qB]at hx;obtain⟨y,hy,rfl⟩:=hx;obtain⟨u',xB,hr⟩:=CJ h i y hy;rw[xB]at hu;cases hu;exact XG vX hr
theorem mf {F:Nat->Prop}{w:World}{os:List Own}(vX:os.map Own.row=st){x:AV}{v:Value}(h:Ac F w os x v):Ac F w (os.map (LN st)) (rg st x) v:=by
 cases x with
 | fn f cs=>simp only[rg,Ac]at h⊢;obtain⟨us,e,hl⟩:=h;exact⟨us,e,Vg vX hl⟩
 | agg cs=>simp only[rg,Ac]at h⊢;obtain⟨us,e,hl⟩:=h;exact⟨us,e,Vg vX hl⟩
 | Dv cs=>simp only[rg,Ac]at h⊢;obtain⟨us,e,hl⟩:=h;exact⟨us,e,Vg vX hl⟩
 | _=>exact XG vX h
def J6 (st:List Row):Prop:=∀row∈st,∀x∈row.xs,∀c∈x,c.kept=true
theorem mD {st:List Row}{c:AV}{el s:Nat}{ys:List (List AV)}(h:Xc st c=.dv el s ys):c=.dv el s ys:=by
 refine T8 (X:=Xu st) (λc h=>?_) h;cases c<;>simp only[Xu]at h<;>first|exact h|cases h|(split at h<;>first|cases h|(split at h<;>cases h))
theorem Wk.ns (hl:J6 (st.map (KT st))):Wk 0 ⟨n,e,st⟩ ⟨n,λt=>rg st (e t),st.map (KT st)⟩:=λF os a w hr=>by
 have vX:=hr.st;simp only at vX;refine⟨F,os.map (LN st),⟨?_,λt=>mf vX (hr.env t),hr.size,λi o ho=>?_,λi j oi oj b hi hj wP xC=>?_,hr.HO,hr.defers⟩,⟨rfl,rfl,rfl,qU _,λ_ h=>h,λ_ _=>rfl,λb _ h1 h2=>⟨rfl,h1,λo ho=>?_⟩,λi o hi=>absurd hi (Nat.not_lt_zero _)⟩⟩
 ·simp only[<- vX,ra];congr 1
 ·rw[qA,qB]at ho;obtain⟨o0,ho0,rfl⟩:=ho;have vF:=hr.rows i o0 ho0;have hm:KT st o0.row∈st.map (KT st):=qT.2 ⟨o0.row,by rw[<- vX];exact qT.2 ⟨o0,pt ho0,rfl⟩,rfl⟩;refine⟨vF.pos,λx hx=>⟨?_,hl _ hm x hx⟩,λh=>?_,λb hb=>?_,vF.mo,vF.deep.keep rfl (λ_ h=>h) rfl (λ_ _=>rfl) (λi x j e s ys hx hc=>by
   simp only[LN,KT,qA,qB]at hx;obtain⟨y,hy,rfl⟩:=hx;simp only[qA,qB]at hc;obtain⟨d,hd,hc⟩:=hc;exact⟨y,hy,by rw[hd,mD hc]⟩)⟩
  ·simp only[LN,KT,qT]at hx;obtain⟨y,hy,rfl⟩:=hx;simpa [LN,KT] using (vF.lens y hy).1
  ·obtain⟨h1,h2⟩:=vF.none h;exact⟨by simp[LN,KT,h1],h2⟩
  ·obtain⟨h1,cur,h2,h3,h4,h5,h6⟩:=vF.some b hb;refine⟨h1,cur,h2,h3,by simpa [LN,KT] using h4,h5,λi' x hx j c hc=>?_⟩;simp only[LN,KT,qA,qB]at hx;obtain⟨y,hy,rfl⟩:=hx;simp only[qA,qB]at hc;obtain⟨d,hd,rfl⟩:=hc;obtain⟨u,e1,e2⟩:=h6 i' y hy j d hd;exact⟨u,e1,XG vX e2⟩
 ·rw[qA,qB]at hi hj;obtain⟨oi0,hi0,rfl⟩:=hi;obtain⟨oj0,hj0,rfl⟩:=hj;exact hr.inj i j oi0 oj0 b hi0 hj0 wP xC
 ·obtain⟨o0,h0,rfl⟩:=qT.1 ho;exact h2 o0 h0
inductive RG (st:List Row):List Row->List Row->Prop
 | nil:RG st [] []
 | deep {g size:Nat} {el:TypeId} {xs:List (List AV)} {r r':List Row} (hp:DO xs) (hl:RG st r r'):RG st (⟨g,el,size,xs⟩::r) (⟨0,el,size,xs⟩::r')
 | raw {g size:Nat} {el:TypeId} {cs cs':List AV} {r r':List Row} (hc:cs.map (Xc st)=cs') (hp:cs'.all AV.leaf=true) (hl:RG st r r'):RG st (⟨g,el,size,[cs]⟩::r) (⟨0,el,size,[cs']⟩::r')
theorem RG.pure {g size:Nat}{el:TypeId}{xs:List (List AV)}{r r':List Row}(hp:D0 xs)(hl:RG st r r'):RG st (⟨g,el,size,xs⟩::r) (⟨0,el,size,xs⟩::r'):=.deep hp.any hl
theorem bQ {c:AV}(h:Ey c=true):Xc st c=c:=by cases c<;>simp[Ey,simple,Xc,two,Xu]at h⊢
theorem RG.spec {st0:List Row}(hle :∀row∈st0,∀x∈row.xs,∀c∈x,c.kept=true):∀{l l':List Row},RG st l l'->(∀row∈l,row∈st0)->l.map (KT st)=l'/\J6 l'
 | _,_,.nil,_=>⟨rfl,λ_ h=>by cases h⟩
 | _,_,.deep hp hl,hm=>by
  obtain⟨h1,h2⟩:=RG.spec hle hl (λrow h=>hm row (qw _ h));have vw:=hle _ (hm _ (rp ..));refine⟨?_,?_⟩
  ·simp only[qj,h1];congr 1;simp only[KT];congr 1;refine (qk (g:=id) λx hx=>?_).trans (rZ _);refine (qk (g:=id) λc hc=>?_).trans (rZ _);exact bQ (hp x hx c hc)
  ·intro row uj;rcases qH.1 uj with rfl|h
   ·exact vw
   ·exact h2 row h
 | _,_,.raw hc hp hl,hm=>by
  obtain⟨h1,h2⟩:=RG.spec hle hl (λrow h=>hm row (qw _ h));refine⟨?_,?_⟩
  ·simp only[qj,h1,KT,rf,hc]
  ·intro row uj;rcases qH.1 uj with rfl|h
   ·intro x hx c hcx;simp only[qO]at hx;subst hx;exact Du (qC.1 hp c hcx)
   ·exact h2 row h
theorem Eh (hg:RG st st st')(h:ME (λt=>Abs.rg st (e t)) L):Wk 0 ⟨n,e,st⟩ ⟨n,AL L,st'⟩:=λF os a w hr=>by
 have hle:∀row∈st,∀x∈row.xs,∀c∈x,c.kept=true:=λrow uj x hx c hc=>by
  have vX:=hr.st;simp only at vX;rw[<- vX]at uj;obtain⟨o,ho,rfl⟩:=qT.1 uj;obtain⟨i,hi⟩:=qf.1 ho;exact ((hr.rows i o hi).lens x hx).2 c hc
 obtain⟨h1,h2⟩:=hg.spec (st0:=st) hle (λ_ h=>h);have h3:Wk 0 ⟨n,e,st⟩ ⟨n,AL L,st'⟩:=by
  have:=Wk.ns (n:=n) (e:=e) (st:=st) (by rw[h1];exact h2);rw[h1]at this;exact this.trans (ET h)
 exact h3 F os a w hr
theorem AM {α:Type}{l:List α}{enc:α->List AV}(h :∀x,(enc x).all simple=true):D0 (l.map enc):=λx hx c hc=>by
 obtain⟨y,_,rfl⟩:=qT.1 hx;exact qC.1 (h y) c hc
theorem Bj {α:Type}{l:List α}{enc:α->List AV}(h :∀x,(enc x).all simple=true):DO (l.map enc):=(AM h).any
theorem Tm {α:Type}{l:List α}{enc:α->List AV}(h :∀x,(enc x).all Ey=true):DO (l.map enc):=λx hx c hc=>by
 obtain⟨y,_,rfl⟩:=qT.1 hx;exact qC.1 (h y) c hc
theorem Di {cs:List AV}(h:cs.all simple=true):D0 [cs]:=λx hx c hc=>by
 simp only[qO]at hx;subst hx;exact qC.1 h c hc
end Go.Abs
