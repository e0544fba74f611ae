import Derived.Test.YtccficmcdkcpnaaGreatAbsM
set_option linter.all false
namespace Sh
open Go
def w (n:Int):Int:=IntKind.i64.wrap n
def wk (k:IntKind)(n:Int):Int:=k.wrap n
def get {α:Type}(l:List α)(j:Int):Option α:=if 0<=j then l[j.toNat]? else none
def put {α:Type}(l:List α)(j:Int)(x:α):List α:=l.set j.toNat x
def len {α:Type}(l:List α):Int:=l.length
def mk {α:Type}(x:α)(j:Int)(bytes:Nat):Option (List α):=if 0<=j/\j*bytes<=281474976710656/\j<=9223372036854775807 then some (List.replicate j.toNat x) else none
def app {α:Type}(l m:List α)(bytes:Nat):Option (List α):=if (l.length+m.length)*bytes<=140737488355328/\l.length+m.length<=9223372036854775807 then some (l++m) else none
def hi {α:Type}(l:List α)(j:Int):Option (List α):=if 0<=j/\j<=l.length then some (l.take j.toNat) else none
def lo {α:Type}(l:List α)(j:Int):Option (List α):=if 0<=j/\j<=l.length then some (l.drop j.toNat) else none
def sl {α:Type}(l:List α)(i j:Int):Option (List α):=if 0<=i/\i<=j/\j<=l.length then some ((l.take j.toNat).drop i.toNat) else none
def quo (a b:Int):Option Int:=if b=0 then none else some (w (a.tdiv b))
def rem (a b:Int):Option Int:=if b=0 then none else some (a.tmod b)
def xor (a b:Int):Int:=IntKind.i64.wrap (BitVec.ofInt 64 a ^^^ BitVec.ofInt 64 b).toNat
theorem get_some {α:Type}{l:List α}{j:Int}{c:α}(h:get l j=some c):0<=j/\l[j.toNat]?=some c/\j<l.length:=by
 unfold get at h;split at h
 ·rename_i h0;have:=(uK.1 h).1;exact⟨h0,h,by omega⟩
 ·cases h
theorem bind_some {α β:Type}{x:Option α}{f:α->Option β}{r:β}(h:x.bind f=some r):∃v,x=some v/\f v=some r:=by
 cases x with
 | none=>cases h
 | some v=>exact⟨v,rfl,h⟩
theorem BE {α:Type}{l:List α}{j:Int}{x:α}:(put l j x).length=l.length:=by simp[put]
theorem Av {α:Type}{a b:α}(h:some a=some b):a=b:=xS h
theorem pI {α:Type}{b:Bool}{x y r:α}(hb:b=true)(h:(if b=true then x else y)=r):x=r:=by rw[uX hb]at h;exact h
theorem oK {α:Type}{b:Bool}{x y r:α}(hb:b=false)(h:(if b=true then x else y)=r):y=r:=by rw[uY (by simp[hb])]at h;exact h
def cont {ρ σ β:Type}(o:Option (ρ ⊕ σ))(g:ρ->β)(f:σ->Option β):Option β:=
 match o with
 | none=>none
 | some (.inl r)=>some (g r)
 | some (.inr v)=>f v
theorem BG {ρ σ β:Type}{o:Option (ρ ⊕ σ)}{g:ρ->β}{f:σ->Option β}{b:β}(h:cont o g f=some b):
  ∃v,o=some v/\(match v with|.inl r=>some (g r)|.inr v=>f v)=some b:=by
 unfold cont at h;split at h
 ·cases h
 ·exact⟨_,rfl,h⟩
 ·exact⟨_,rfl,h⟩
@[simp] theorem sy {ρ σ β:Type}(r:ρ)(g:ρ->β)(f:σ->Option β):cont (some (.inl r)) g f=some (g r):=rfl
@[simp] theorem Kd {ρ σ β:Type}(v:σ)(g:ρ->β)(f:σ->Option β):cont (some (.inr v)) g f=f v:=rfl
theorem Aa {α:Type}{b:Bool}{x y:Option α}{r:α}(h:(if b=true then x else y)=some r):(b=true/\x=some r)∨(b=false/\y=some r):=by
 cases b
 ·exact .inr ⟨rfl,h⟩
 ·exact .inl ⟨rfl,h⟩
end Sh
namespace Go.Abs
open Go
def AJ:List (Nat×AV)->Nat->AV
 | [],_=>.F6
 | (t,v)::r,k=>if k=t then v else AJ r k
def le (a b:AV):Prop:=∀F w os u,Ae F w os a u->Ae F w os b u
theorem le.rfl {a:AV}:le a a:=λ_ _ _ _ h=>h
theorem le.of {a b:AV}(h:a=b):le a b:=h▸le.rfl
theorem le.F6 {a:AV}:le a .F6:=λ_ _ _ _ _=>by simp[Ae]
theorem le.zc:le .zc (.sl []):=λ_ _ _ _ h=>by
 simp only[Ae]at h⊢;obtain⟨ad,e⟩:=h;exact⟨ad,0,by simpa using e,by simp,by simp⟩
def dJ:List AV->List AV->Prop
 | [],[]=>True
 | a::r,b::r'=>le a b/\dJ r r'
 | _,_=>False
theorem dJ.rep {F:Nat->Prop}{w:World}{os:List Own}:∀{xs ys:List AV} {us:List Value},dJ xs ys->Bc F w os xs us->Bc F w os ys us
 | [],[],_,_,h=>h
 | a::r,b::r',us,h,h'=>by
  simp only[Bc]at h' ⊢;obtain⟨u,us',e,h1,h2⟩:=h';exact⟨u,us',e,h.1 _ _ _ _ h1,dJ.rep h.2 h2⟩
 | [],_::_,_,h,_=>h.elim
 | _::_,[],_,h,_=>h.elim
theorem le.agg {xs ys:List AV}(h:dJ xs ys):le (.agg xs) (.agg ys):=λF w os u hu=>by
 simp only[Ae]at hu⊢;obtain⟨us,e,hl⟩:=hu;exact⟨us,e,h.rep hl⟩
def ME (e:Nat->AV):List (Nat×AV)->Prop
 | []=>True
 | (t,v)::r=>le (e t) v/\ME e r
theorem le.len {id g m m':Nat}(h:m=m'):le (.own id g m) (.own id g m'):=h▸le.rfl
theorem ME.le {e:Nat->AV}:∀{L:List (Nat×AV)},ME e L->∀t,le (e t) (AJ L t)
 | [],_,_=>le.F6
 | (t',v)::r,h,t=>by
  simp only[AJ];split
  ·rename_i ht;subst ht;exact h.1
  ·exact ME.le h.2 t
variable {k n : Nat} {e : Nat -> AV} {st st' : List Row} {L : List (Nat × AV)}
theorem Wk.ri {e':Nat->AV}(h :∀t,le (e t) (e' t)):Wk k ⟨n,e,st⟩ ⟨n,e',st⟩:=λF os _ w hr=>
 ⟨F,os,⟨hr.st,λt=>h t _ _ _ _ (hr.env t),hr.size,hr.rows,hr.inj,hr.GK,hr.defers⟩,Ext.refl _ _ _ _⟩
theorem FJ (h:ME e L):Wk k ⟨n,e,st⟩ ⟨n,AJ L,st⟩:=Wk.ri h.le
theorem le.Db {α:Type}{id g m:Nat}{l:List α}{enc:α->List AV}(h:m=l.length):le (Db id g (l.map enc) (.own id g m)) (.sl (l.map enc)):=by
 subst h;refine le.of ?_;rw[pM,<- uZ (f:=enc) (as:=l),wX,vG]
theorem jW {α:Type}{id g m:Nat}{l:List α}{enc:α->List AV}(h:m=l.length):Km id g (l.map enc) (.own id g m)=.sl (l.map enc):=by
 subst h;rw[lF,<- uZ (f:=enc) (as:=l),wX,vG]
theorem Wk.Db {id g size:Nat}{el:TypeId}{xs:List (List AV)}(zh:st[id]?=some ⟨g,el,size,xs⟩)(hid:k<=id)(hp:Gm xs)
  (h:ME (λt=>Abs.Db id g xs (e t)) L) (hst:st.set id ⟨g+1,el,size,[]⟩=st'):Wk k ⟨n,e,st⟩ ⟨n,AJ L,st'⟩:=by
 subst hst;exact (Wk.freeze (s:=⟨n,e,st⟩) hid zh hp).trans (FJ h)
def Vq (sel:List Nat):List Row->Prop
 | []=>True
 | row::r=>(∀x∈row.xs,∀c∈x,stays sel c=true)/\Vq sel r
theorem Vq.deep {sel:List Nat}{row:Row}{r:List Row}(h:DG row.xs)(hr:Vq sel r):Vq sel (row::r):=⟨λx hx c hc=>by
 have:=h x hx c hc;cases c<;>simp[FI,simple,stays]at this⊢,hr⟩
theorem Vq.pure {sel:List Nat}{row:Row}{r:List Row}(h:Gm row.xs)(hr:Vq sel r):Vq sel (row::r):=.deep h.any hr
theorem Vq.raw {sel:List Nat}{g size:Nat}{el:TypeId}{cs:List AV}{r:List Row}(h:cs.all (stays sel)=true)(hr:Vq sel r):Vq sel (⟨g,el,size,[cs]⟩::r):=
 ⟨λx hx c hc=>by
  simp only[vQ]at hx;subst hx;exact uS.1 h c hc,hr⟩
theorem Vq.get {sel:List Nat}:∀{l:List Row},Vq sel l->∀row∈l,∀x∈row.xs,∀c∈x,stays sel c=true
 | row::r,h,row',hm=>by
  rcases uz.1 hm with rfl|hm
  ·exact h.1
  ·exact Vq.get h.2 row' hm
theorem Gy (sel:List Nat)(hk:sel.take k=List.range k)(hnd:sel.Nodup)(hlt:sel.all (·<st.length)=true)(hst:Ca st sel=st')(hr:Vq sel st')(h:ME (λt=>L0 sel (e t)) L):
  Wk k ⟨n,e,st⟩ ⟨n,AJ L,st'⟩:=by
 subst hst;refine (Wk.select (s:=⟨n,e,st⟩) sel (λi hi=>?_) hnd (λi hi=>by simpa using uS.1 hlt i hi) (λi hi row zh=>?_)).trans (FJ h)
 ·have h1:(sel.take k)[i]?=some i:=by rw[hk];simp[hi]
  rw[vN]at h1;simpa [hi] using h1
 ·exact hr.get row (wT.2 ⟨i,hi,zh⟩)
def Zp (st:List Row):AV->AV
 | .own id g n=>match st[id]? with
  | some row=>if row.gen=g then .own id 0 n else .F6
  | none=>.F6
 | .ptr id g i off=>match st[id]? with
  | some row=>if row.gen=g then .ptr id 0 i off else .F6
  | none=>.F6
 | .fn ..|.agg _|.CW _=>.F6
 | v=>v
def Y0 (st:List Row)(x:AV):AV:=two (Zp st) x
def rg (st:List Row):AV->AV
 | .fn f cs=>.fn f (cs.map (Y0 st))
 | .agg cs=>.agg (cs.map (Y0 st))
 | .CW cs=>.CW (cs.map (Y0 st))
 | v=>Y0 st v
def LM (st:List Row)(row:Row):Row:={ row with gen:=0,xs:=row.xs.map (·.map (Y0 st)) }
def Lo (st:List Row)(o:Own):Own:={ o with row:=LM st o.row }
theorem oh {F:Nat->Prop}{w:World}{os:List Own}(hst:os.map Own.row=st){x:AV}{v:Value}(h:Ae F w os x v):Ae F w (os.map (Lo st)) (Zp st x) v:=by
 have hs:∀{id:Nat} {o:Own},os[id]?=some o->st[id]?=some o.row:=λ{id o} ho=>by rw[<- hst,uP,ho];rfl
 cases x with
 | own id g n=>
  simp only[Ae]at h;obtain⟨o,ho,hle,hsh,hv⟩:=h;simp only[Zp,hs ho];split
  ·rename_i e;obtain⟨h1,h2⟩:=hv e;simp only[Ae];exact⟨Lo st o,by simp[ho],ue _,hsh,λ_=>⟨by simpa [Lo,LM] using h1,by simpa [Lo,LM] using h2⟩⟩
  ·simp[Ae]
 | ptr id g i off=>
  simp only[Ae]at h;obtain⟨o,ho,hle,hsh,hv⟩:=h;simp only[Zp,hs ho];split
  ·rename_i e;obtain⟨h1,h2,h3⟩:=hv e;simp only[Ae];exact⟨Lo st o,by simp[ho],ue _,hsh,λ_=>⟨by simpa [Lo,LM] using h1,h2,h3⟩⟩
  ·simp[Ae]
 | fn f caps=>simp[Zp,Ae]
 | agg cs=>simp[Zp,Ae]
 | CW cs=>simp[Zp,Ae]
 | _=>simp only[Zp,Ae]at h⊢<;>exact h
theorem ak {F:Nat->Prop}{w:World}{os:List Own}(hst:os.map Own.row=st){x:AV}{v:Value}(h:Ae F w os x v):Ae F w (os.map (Lo st)) (Y0 st x) v:=
 PQ (λ_ _ h=>oh hst h) _ _ h
theorem XK {F:Nat->Prop}{w:World}{os:List Own}(hst:os.map Own.row=st){xs:List AV}{us:List Value}(h:Bc F w os xs us):Bc F w (os.map (Lo st)) (xs.map (Y0 st)) us:=
 DZ (by simp[BR h]) λi x u hx hu=>by
  simp only[uP,uR]at hx;obtain⟨y,hy,rfl⟩:=hx;obtain⟨u',hu',hr⟩:=Bo h i y hy;rw[hu']at hu;cases hu;exact ak hst hr
theorem qT {F:Nat->Prop}{w:World}{os:List Own}(hst:os.map Own.row=st){x:AV}{v:Value}(h:Ae F w os x v):Ae F w (os.map (Lo st)) (rg st x) v:=by
 cases x with
 | fn f cs=>simp only[rg,Ae]at h⊢;obtain⟨us,e,hl⟩:=h;exact⟨us,e,XK hst hl⟩
 | agg cs=>simp only[rg,Ae]at h⊢;obtain⟨us,e,hl⟩:=h;exact⟨us,e,XK hst hl⟩
 | CW cs=>simp only[rg,Ae]at h⊢;obtain⟨us,e,hl⟩:=h;exact⟨us,e,XK hst hl⟩
 | _=>exact ak hst h
def Md (st:List Row):Prop:=∀row∈st,∀x∈row.xs,∀c∈x,c.kept=true
theorem qj {st:List Row}{c:AV}{el s:Nat}{ys:List (List AV)}(h:Y0 st c=.dv el s ys):c=.dv el s ys:=by
 refine Yh (X:=Zp st) (λc h=>?_) h;cases c<;>simp only[Zp]at h<;>first|exact h|cases h|(split at h<;>first|cases h|(split at h<;>cases h))
theorem Wk.sT (hl:Md (st.map (LM st))):Wk 0 ⟨n,e,st⟩ ⟨n,λt=>rg st (e t),st.map (LM st)⟩:=λF os a w hr=>by
 have hst:=hr.st;simp only at hst;refine⟨F,os.map (Lo st),⟨?_,λt=>qT hst (hr.env t),hr.size,λi o ho=>?_,λi j oi oj b hi hj hbi hbj=>?_,hr.GK,hr.defers⟩,⟨rfl,rfl,rfl,uq _,λ_ h=>h,λ_ _=>rfl,λb _ h1 h2=>⟨rfl,h1,λo ho=>?_⟩,λi o hi=>absurd hi (yk _)⟩⟩
 ·simp only[<- hst,wa];congr 1
 ·rw[uP,uR]at ho;obtain⟨o0,ho0,rfl⟩:=ho;have zp:=hr.rows i o0 ho0;have hm:LM st o0.row∈st.map (LM st):=uw.2 ⟨o0.row,by rw[<- hst];exact uw.2 ⟨o0,uL ho0,rfl⟩,rfl⟩;refine⟨zp.pos,λx hx=>⟨?_,hl _ hm x hx⟩,λh=>?_,λb hb=>?_,zp.mo,zp.deep.keep rfl (λ_ h=>h) rfl (λ_ _=>rfl) (λi x j e s ys hx hc=>by
   simp only[Lo,LM,uP,uR]at hx;obtain⟨y,hy,rfl⟩:=hx;simp only[uP,uR]at hc;obtain⟨d,hd,hc⟩:=hc;exact⟨y,hy,by rw[hd,qj hc]⟩)⟩
  ·simp only[Lo,LM,uw]at hx;obtain⟨y,hy,rfl⟩:=hx;simpa [Lo,LM] using (zp.lens y hy).1
  ·obtain⟨h1,h2⟩:=zp.none h;exact⟨by simp[Lo,LM,h1],h2⟩
  ·obtain⟨h1,cur,h2,h3,h4,h5,h6⟩:=zp.some b hb;refine⟨h1,cur,h2,h3,by simpa [Lo,LM] using h4,h5,λi' x hx j c hc=>?_⟩;simp only[Lo,LM,uP,uR]at hx;obtain⟨y,hy,rfl⟩:=hx;simp only[uP,uR]at hc;obtain⟨d,hd,rfl⟩:=hc;obtain⟨u,e1,e2⟩:=h6 i' y hy j d hd;exact⟨u,e1,ak hst e2⟩
 ·rw[uP,uR]at hi hj;obtain⟨oi0,hi0,rfl⟩:=hi;obtain⟨oj0,hj0,rfl⟩:=hj;exact hr.inj i j oi0 oj0 b hi0 hj0 hbi hbj
 ·obtain⟨o0,h0,rfl⟩:=uw.1 ho;exact h2 o0 h0
inductive RG (st:List Row):List Row->List Row->Prop
 | nil:RG st [] []
 | deep {g size:Nat} {el:TypeId} {xs:List (List AV)} {r r':List Row} (hp:DG xs) (hl:RG st r r'):RG st (⟨g,el,size,xs⟩::r) (⟨0,el,size,xs⟩::r')
 | raw {g size:Nat} {el:TypeId} {cs cs':List AV} {r r':List Row} (hc:cs.map (Y0 st)=cs') (hp:cs'.all AV.leaf=true) (hl:RG st r r'):RG st (⟨g,el,size,[cs]⟩::r) (⟨0,el,size,[cs']⟩::r')
theorem RG.pure {g size:Nat}{el:TypeId}{xs:List (List AV)}{r r':List Row}(hp:Gm xs)(hl:RG st r r'):RG st (⟨g,el,size,xs⟩::r) (⟨0,el,size,xs⟩::r'):=.deep hp.any hl
theorem dU {c:AV}(h:FI c=true):Y0 st c=c:=by cases c<;>simp[FI,simple,Y0,two,Zp]at h⊢
theorem RG.spec {st0:List Row}(hle :∀row∈st0,∀x∈row.xs,∀c∈x,c.kept=true):∀{l l':List Row},RG st l l'->(∀row∈l,row∈st0)->l.map (LM st)=l'/\Md l'
 | _,_,.nil,_=>⟨rfl,λ_ h=>by cases h⟩
 | _,_,.deep hp hl,hm=>by
  obtain⟨h1,h2⟩:=RG.spec hle hl (λrow h=>hm row (vz _ h));have hlf:=hle _ (hm _ (wo ..));refine⟨?_,?_⟩
  ·simp only[vK,h1];congr 1;simp only[LM];congr 1;refine (vL (g:=id) λx hx=>?_).trans (wJ _);refine (vL (g:=id) λc hc=>?_).trans (wJ _);exact dU (hp x hx c hc)
  ·intro row zh;rcases uz.1 zh with rfl|h
   ·exact hlf
   ·exact h2 row h
 | _,_,.raw hc hp hl,hm=>by
  obtain⟨h1,h2⟩:=RG.spec hle hl (λrow h=>hm row (vz _ h));refine⟨?_,?_⟩
  ·simp only[vK,h1,LM,wW,hc]
  ·intro row zh;rcases uz.1 zh with rfl|h
   ·intro x hx c hcx;simp only[vQ]at hx;subst hx;exact DL (uS.1 hp c hcx)
   ·exact h2 row h
theorem CH (hg:RG st st st')(h:ME (λt=>Abs.rg st (e t)) L):Wk 0 ⟨n,e,st⟩ ⟨n,AJ L,st'⟩:=λF os a w hr=>by
 have hle:∀row∈st,∀x∈row.xs,∀c∈x,c.kept=true:=λrow zh x hx c hc=>by
  have hst:=hr.st;simp only at hst;rw[<- hst]at zh;obtain⟨o,ho,rfl⟩:=uw.1 zh;obtain⟨i,hi⟩:=vF.1 ho;exact ((hr.rows i o hi).lens x hx).2 c hc
 obtain⟨h1,h2⟩:=hg.spec (st0:=st) hle (λ_ h=>h);have h3:Wk 0 ⟨n,e,st⟩ ⟨n,AJ L,st'⟩:=by
  have:=Wk.sT (n:=n) (e:=e) (st:=st) (by rw[h1];exact h2);rw[h1]at this;exact this.trans (FJ h)
 exact h3 F os a w hr
theorem BM {α:Type}{l:List α}{enc:α->List AV}(h :∀x,(enc x).all simple=true):Gm (l.map enc):=λx hx c hc=>by
 obtain⟨y,_,rfl⟩:=uw.1 hx;exact uS.1 (h y) c hc
theorem Ar {α:Type}{l:List α}{enc:α->List AV}(h :∀x,(enc x).all simple=true):DG (l.map enc):=(BM h).any
theorem AT {α:Type}{l:List α}{enc:α->List AV}(h :∀x,(enc x).all FI=true):DG (l.map enc):=λx hx c hc=>by
 obtain⟨y,_,rfl⟩:=uw.1 hx;exact uS.1 (h y) c hc
theorem HL {cs:List AV}(h:cs.all simple=true):Gm [cs]:=λx hx c hc=>by
 simp only[vQ]at hx;subst hx;exact uS.1 h c hc
end Go.Abs
