import Derived.Test.YtgiajkaabnbieaaGreatAbsM
set_option linter.all false
namespace Sh
open Go
def w (n:Int):Int:=IntKind.i64.wrap n
def wk (k:IntKind)(n:Int):Int:=k.wrap n
def get {α:Type}(l:List α)(j:Int):Option α:=if 0<=j then l[j.toNat]? else none
def put {α:Type}(l:List α)(j:Int)(x:α):List α:=l.set j.toNat x
def len {α:Type}(l:List α):Int:=l.length
def mk {α:Type}(x:α)(j:Int)(bytes:Nat):Option (List α):=if 0<=j/\j*bytes<=281474976710656/\j<=9223372036854775807 then some (List.replicate j.toNat x) else none
def app {α:Type}(l m:List α)(bytes:Nat):Option (List α):=if (l.length+m.length)*bytes<=140737488355328/\l.length+m.length<=9223372036854775807 then some (l++m) else none
def hi {α:Type}(l:List α)(j:Int):Option (List α):=if 0<=j/\j<=l.length then some (l.take j.toNat) else none
def lo {α:Type}(l:List α)(j:Int):Option (List α):=if 0<=j/\j<=l.length then some (l.drop j.toNat) else none
def sl {α:Type}(l:List α)(i j:Int):Option (List α):=if 0<=i/\i<=j/\j<=l.length then some ((l.take j.toNat).drop i.toNat) else none
def quo (a b:Int):Option Int:=if b=0 then none else some (w (a.tdiv b))
def rem (a b:Int):Option Int:=if b=0 then none else some (a.tmod b)
def xor (a b:Int):Int:=IntKind.i64.wrap (BitVec.ofInt 64 a ^^^ BitVec.ofInt 64 b).toNat
theorem get_some {α:Type}{l:List α}{j:Int}{c:α}(h:get l j=some c):0<=j/\l[j.toNat]?=some c/\j<l.length:=by
 unfold get at h;split at h
 ·rename_i h0;have:=(mC.1 h).1;exact⟨h0,h,by omega⟩
 ·cases h
theorem bind_some {α β:Type}{x:Option α}{f:α->Option β}{r:β}(h:x.bind f=some r):∃v,x=some v/\f v=some r:=by
 cases x with
 | none=>cases h
 | some v=>exact⟨v,rfl,h⟩
theorem Au {α:Type}{l:List α}{j:Int}{x:α}:(put l j x).length=l.length:=by simp[put]
theorem AB {α:Type}{a b:α}(h:some a=some b):a=b:=qC h
theorem gD {α:Type}{b:Bool}{x y r:α}(hb:b=true)(h:(if b=true then x else y)=r):x=r:=by rw[mI hb]at h;exact h
theorem fG {α:Type}{b:Bool}{x y r:α}(hb:b=false)(h:(if b=true then x else y)=r):y=r:=by rw[mJ (by simp[hb])]at h;exact h
def cont {ρ σ β:Type}(o:Option (ρ ⊕ σ))(g:ρ->β)(f:σ->Option β):Option β:=
 match o with
 | none=>none
 | some (.inl r)=>some (g r)
 | some (.inr v)=>f v
theorem Av {ρ σ β:Type}{o:Option (ρ ⊕ σ)}{g:ρ->β}{f:σ->Option β}{b:β}(h:cont o g f=some b):
  ∃v,o=some v/\(match v with|.inl r=>some (g r)|.inr v=>f v)=some b:=by
 unfold cont at h;split at h
 ·cases h
 ·exact⟨_,rfl,h⟩
 ·exact⟨_,rfl,h⟩
@[simp] theorem kz {ρ σ β:Type}(r:ρ)(g:ρ->β)(f:σ->Option β):cont (some (.inl r)) g f=some (g r):=rfl
@[simp] theorem I3 {ρ σ β:Type}(v:σ)(g:ρ->β)(f:σ->Option β):cont (some (.inr v)) g f=f v:=rfl
theorem AU {α:Type}{b:Bool}{x y:Option α}{r:α}(h:(if b=true then x else y)=some r):(b=true/\x=some r)∨(b=false/\y=some r):=by
 cases b
 ·exact .inr ⟨rfl,h⟩
 ·exact .inl ⟨rfl,h⟩
end Sh
namespace Go.Abs
open Go
def AN:List (Nat×AV)->Nat->AV
 | [],_=>.FN
 | (t,v)::r,k=>if k=t then v else AN r k
def le (a b:AV):Prop:=∀F w os u,Ae F w os a u->Ae F w os b u
theorem le.rfl {a:AV}:le a a:=λ_ _ _ _ h=>h
theorem le.of {a b:AV}(h:a=b):le a b:=h▸le.rfl
theorem le.FN {a:AV}:le a .FN:=λ_ _ _ _ _=>by simp[Ae]
theorem le.zc:le .zc (.sl []):=λ_ _ _ _ h=>by
 simp only[Ae]at h⊢;obtain⟨ad,e⟩:=h;exact⟨ad,0,by simpa using e,by simp,by simp⟩
def Y4:List AV->List AV->Prop
 | [],[]=>True
 | a::r,b::r'=>le a b/\Y4 r r'
 | _,_=>False
theorem Y4.rep {F:Nat->Prop}{w:World}{os:List Own}:∀{xs ys:List AV} {us:List Value},Y4 xs ys->Ba F w os xs us->Ba F w os ys us
 | [],[],_,_,h=>h
 | a::r,b::r',us,h,h'=>by
  simp only[Ba]at h' ⊢;obtain⟨u,tq,e,h1,h2⟩:=h';exact⟨u,tq,e,h.1 _ _ _ _ h1,Y4.rep h.2 h2⟩
 | [],_::_,_,h,_=>h.elim
 | _::_,[],_,h,_=>h.elim
theorem le.agg {xs ys:List AV}(h:Y4 xs ys):le (.agg xs) (.agg ys):=λF w os u hu=>by
 simp only[Ae]at hu⊢;obtain⟨us,e,hl⟩:=hu;exact⟨us,e,h.rep hl⟩
def ME (e:Nat->AV):List (Nat×AV)->Prop
 | []=>True
 | (t,v)::r=>le (e t) v/\ME e r
theorem le.len {id g m m':Nat}(h:m=m'):le (.own id g m) (.own id g m'):=h▸le.rfl
theorem ME.le {e:Nat->AV}:∀{L:List (Nat×AV)},ME e L->∀t,le (e t) (AN L t)
 | [],_,_=>le.FN
 | (t',v)::r,h,t=>by
  simp only[AN];split
  ·rename_i ht;subst ht;exact h.1
  ·exact ME.le h.2 t
variable {k n : Nat} {e : Nat -> AV} {st st' : List Row} {L : List (Nat × AV)}
theorem Wk.js {e':Nat->AV}(h :∀t,le (e t) (e' t)):Wk k ⟨n,e,st⟩ ⟨n,e',st⟩:=λF os _ w hr=>
 ⟨F,os,⟨hr.st,λt=>h t _ _ _ _ (hr.env t),hr.size,hr.rows,hr.inj,hr.F6,hr.defers⟩,Ext.refl _ _ _ _⟩
theorem Ao (h:ME e L):Wk k ⟨n,e,st⟩ ⟨n,AN L,st⟩:=Wk.js h.le
theorem le.CQ {α:Type}{id g m:Nat}{l:List α}{enc:α->List AV}(h:m=l.length):le (CQ id g (l.map enc) (.own id g m)) (.sl (l.map enc)):=by
 subst h;refine le.of ?_;rw[eh,<- mO (f:=enc) (as:=l),oP,nO]
theorem bT {α:Type}{id g m:Nat}{l:List α}{enc:α->List AV}(h:m=l.length):Hr id g (l.map enc) (.own id g m)=.sl (l.map enc):=by
 subst h;rw[eP,<- mO (f:=enc) (as:=l),oP,nO]
theorem Wk.CQ {id g size:Nat}{el:TypeId}{xs:List (List AV)}(qo:st[id]?=some ⟨g,el,size,xs⟩)(tv:k<=id)(hp:G1 xs)
  (h:ME (λt=>Abs.CQ id g xs (e t)) L) (rH:st.set id ⟨g+1,el,size,[]⟩=st'):Wk k ⟨n,e,st⟩ ⟨n,AN L,st'⟩:=by
 subst rH;exact (Wk.freeze (s:=⟨n,e,st⟩) tv qo hp).trans (Ao h)
def S8 (sel:List Nat):List Row->Prop
 | []=>True
 | row::r=>(∀x∈row.xs,∀c∈x,stays sel c=true)/\S8 sel r
theorem S8.deep {sel:List Nat}{row:Row}{r:List Row}(h:DF row.xs)(hr:S8 sel r):S8 sel (row::r):=⟨λx hx c hc=>by
 have:=h x hx c hc;cases c<;>simp[Em,simple,stays]at this⊢,hr⟩
theorem S8.pure {sel:List Nat}{row:Row}{r:List Row}(h:G1 row.xs)(hr:S8 sel r):S8 sel (row::r):=.deep h.any hr
theorem S8.raw {sel:List Nat}{g size:Nat}{el:TypeId}{cs:List AV}{r:List Row}(h:cs.all (stays sel)=true)(hr:S8 sel r):S8 sel (⟨g,el,size,[cs]⟩::r):=
 ⟨λx hx c hc=>by
  simp only[mv]at hx;subst hx;exact mL.1 h c hc,hr⟩
theorem S8.get {sel:List Nat}:∀{l:List Row},S8 sel l->∀row∈l,∀x∈row.xs,∀c∈x,stays sel c=true
 | row::r,h,row',hm=>by
  rcases mc.1 hm with rfl|hm
  ·exact h.1
  ·exact S8.get h.2 row' hm
theorem GA (sel:List Nat)(hk:sel.take k=List.range k)(sy:sel.Nodup)(rJ:sel.all (·<st.length)=true)(rH:Cr st sel=st')(hr:S8 sel st')(h:ME (λt=>Ke sel (e t)) L):
  Wk k ⟨n,e,st⟩ ⟨n,AN L,st'⟩:=by
 subst rH;refine (Wk.select (s:=⟨n,e,st⟩) sel (λi hi=>?_) sy (λi hi=>by simpa using mL.1 rJ i hi) (λi hi row qo=>?_)).trans (Ao h)
 ·have h1:(sel.take k)[i]?=some i:=by rw[hk];simp[hi]
  rw[mi]at h1;simpa [hi] using h1
 ·exact hr.get row (nr.2 ⟨i,hi,qo⟩)
def VQ (st:List Row):AV->AV
 | .own id g n=>match st[id]? with
  | some row=>if row.gen=g then .own id 0 n else .FN
  | none=>.FN
 | .ptr id g i off=>match st[id]? with
  | some row=>if row.gen=g then .ptr id 0 i off else .FN
  | none=>.FN
 | .fn ..|.agg _|.DX _=>.FN
 | v=>v
def VO (st:List Row)(x:AV):AV:=two (VQ st) x
def rg (st:List Row):AV->AV
 | .fn f cs=>.fn f (cs.map (VO st))
 | .agg cs=>.agg (cs.map (VO st))
 | .DX cs=>.DX (cs.map (VO st))
 | v=>VO st v
def JU (st:List Row)(row:Row):Row:={ row with gen:=0,xs:=row.xs.map (·.map (VO st)) }
def Jw (st:List Row)(o:Own):Own:={ o with row:=JU st o.row }
theorem gR {F:Nat->Prop}{w:World}{os:List Own}(rH:os.map Own.row=st){x:AV}{v:Value}(h:Ae F w os x v):Ae F w (os.map (Jw st)) (VQ st x) v:=by
 have hs:∀{id:Nat} {o:Own},os[id]?=some o->st[id]?=some o.row:=λ{id o} ho=>by rw[<- rH,mG,ho];rfl
 cases x with
 | own id g n=>
  simp only[Ae]at h;obtain⟨o,ho,hle,hsh,hv⟩:=h;simp only[VQ,hs ho];split
  ·rename_i e;obtain⟨h1,h2⟩:=hv e;simp only[Ae];exact⟨Jw st o,by simp[ho],mV _,hsh,λ_=>⟨by simpa [Jw,JU] using h1,by simpa [Jw,JU] using h2⟩⟩
  ·simp[Ae]
 | ptr id g i off=>
  simp only[Ae]at h;obtain⟨o,ho,hle,hsh,hv⟩:=h;simp only[VQ,hs ho];split
  ·rename_i e;obtain⟨h1,h2,h3⟩:=hv e;simp only[Ae];exact⟨Jw st o,by simp[ho],mV _,hsh,λ_=>⟨by simpa [Jw,JU] using h1,h2,h3⟩⟩
  ·simp[Ae]
 | fn f rp=>simp[VQ,Ae]
 | agg cs=>simp[VQ,Ae]
 | DX cs=>simp[VQ,Ae]
 | _=>simp only[VQ,Ae]at h⊢<;>exact h
theorem Vo {F:Nat->Prop}{w:World}{os:List Own}(rH:os.map Own.row=st){x:AV}{v:Value}(h:Ae F w os x v):Ae F w (os.map (Jw st)) (VO st x) v:=
 NN (λ_ _ h=>gR rH h) _ _ h
theorem TS {F:Nat->Prop}{w:World}{os:List Own}(rH:os.map Own.row=st){xs:List AV}{us:List Value}(h:Ba F w os xs us):Ba F w (os.map (Jw st)) (xs.map (VO st)) us:=
 Ds (by simp[BJ h]) λi x u hx hu=>by
  simp only[mG,mK]at hx;obtain⟨y,hy,rfl⟩:=hx;obtain⟨u',sa,hr⟩:=CD h i y hy;rw[sa]at hu;cases hu;exact Vo rH hr
theorem iu {F:Nat->Prop}{w:World}{os:List Own}(rH:os.map Own.row=st){x:AV}{v:Value}(h:Ae F w os x v):Ae F w (os.map (Jw st)) (rg st x) v:=by
 cases x with
 | fn f cs=>simp only[rg,Ae]at h⊢;obtain⟨us,e,hl⟩:=h;exact⟨us,e,TS rH hl⟩
 | agg cs=>simp only[rg,Ae]at h⊢;obtain⟨us,e,hl⟩:=h;exact⟨us,e,TS rH hl⟩
 | DX cs=>simp only[rg,Ae]at h⊢;obtain⟨us,e,hl⟩:=h;exact⟨us,e,TS rH hl⟩
 | _=>exact Vo rH h
def KQ (st:List Row):Prop:=∀row∈st,∀x∈row.xs,∀c∈x,c.kept=true
theorem ij {st:List Row}{c:AV}{el s:Nat}{ys:List (List AV)}(h:VO st c=.dv el s ys):c=.dv el s ys:=by
 refine VK (X:=VQ st) (λc h=>?_) h;cases c<;>simp only[VQ]at h<;>first|exact h|cases h|(split at h<;>first|cases h|(split at h<;>cases h))
theorem Wk.jw (hl:KQ (st.map (JU st))):Wk 0 ⟨n,e,st⟩ ⟨n,λt=>rg st (e t),st.map (JU st)⟩:=λF os a w hr=>by
 have rH:=hr.st;simp only at rH;refine⟨F,os.map (Jw st),⟨?_,λt=>iu rH (hr.env t),hr.size,λi o ho=>?_,λi j oi oj b hi hj sS sj=>?_,hr.F6,hr.defers⟩,⟨rfl,rfl,rfl,mS _,λ_ h=>h,λ_ _=>rfl,λb _ h1 h2=>⟨rfl,h1,λo ho=>?_⟩,λi o hi=>absurd hi (qA _)⟩⟩
 ·simp only[<- rH,ny];congr 1
 ·rw[mG,mK]at ho;obtain⟨o0,ho0,rfl⟩:=ho;have qu:=hr.rows i o0 ho0;have hm:JU st o0.row∈st.map (JU st):=mU.2 ⟨o0.row,by rw[<- rH];exact mU.2 ⟨o0,mB ho0,rfl⟩,rfl⟩;refine⟨qu.pos,λx hx=>⟨?_,hl _ hm x hx⟩,λh=>?_,λb hb=>?_,qu.mo,qu.deep.keep rfl (λ_ h=>h) rfl (λ_ _=>rfl) (λi x j e s ys hx hc=>by
   simp only[Jw,JU,mG,mK]at hx;obtain⟨y,hy,rfl⟩:=hx;simp only[mG,mK]at hc;obtain⟨d,hd,hc⟩:=hc;exact⟨y,hy,by rw[hd,ij hc]⟩)⟩
  ·simp only[Jw,JU,mU]at hx;obtain⟨y,hy,rfl⟩:=hx;simpa [Jw,JU] using (qu.lens y hy).1
  ·obtain⟨h1,h2⟩:=qu.none h;exact⟨by simp[Jw,JU,h1],h2⟩
  ·obtain⟨h1,cur,h2,h3,h4,h5,h6⟩:=qu.some b hb;refine⟨h1,cur,h2,h3,by simpa [Jw,JU] using h4,h5,λi' x hx j c hc=>?_⟩;simp only[Jw,JU,mG,mK]at hx;obtain⟨y,hy,rfl⟩:=hx;simp only[mG,mK]at hc;obtain⟨d,hd,rfl⟩:=hc;obtain⟨u,e1,e2⟩:=h6 i' y hy j d hd;exact⟨u,e1,Vo rH e2⟩
 ·rw[mG,mK]at hi hj;obtain⟨oi0,hi0,rfl⟩:=hi;obtain⟨oj0,hj0,rfl⟩:=hj;exact hr.inj i j oi0 oj0 b hi0 hj0 sS sj
 ·obtain⟨o0,h0,rfl⟩:=mU.1 ho;exact h2 o0 h0
inductive RG (st:List Row):List Row->List Row->Prop
 | nil:RG st [] []
 | deep {g size:Nat} {el:TypeId} {xs:List (List AV)} {r r':List Row} (hp:DF xs) (hl:RG st r r'):RG st (⟨g,el,size,xs⟩::r) (⟨0,el,size,xs⟩::r')
 | raw {g size:Nat} {el:TypeId} {cs cs':List AV} {r r':List Row} (hc:cs.map (VO st)=cs') (hp:cs'.all AV.leaf=true) (hl:RG st r r'):RG st (⟨g,el,size,[cs]⟩::r) (⟨0,el,size,[cs']⟩::r')
theorem RG.pure {g size:Nat}{el:TypeId}{xs:List (List AV)}{r r':List Row}(hp:G1 xs)(hl:RG st r r'):RG st (⟨g,el,size,xs⟩::r) (⟨0,el,size,xs⟩::r'):=.deep hp.any hl
theorem Yy {c:AV}(h:Em c=true):VO st c=c:=by cases c<;>simp[Em,simple,VO,two,VQ]at h⊢
theorem RG.spec {st0:List Row}(hle :∀row∈st0,∀x∈row.xs,∀c∈x,c.kept=true):∀{l l':List Row},RG st l l'->(∀row∈l,row∈st0)->l.map (JU st)=l'/\KQ l'
 | _,_,.nil,_=>⟨rfl,λ_ h=>by cases h⟩
 | _,_,.deep hp hl,hm=>by
  obtain⟨h1,h2⟩:=RG.spec hle hl (λrow h=>hm row (nf _ h));have td:=hle _ (hm _ (oJ ..));refine⟨?_,?_⟩
  ·simp only[mg,h1];congr 1;simp only[JU];congr 1;refine (mj (g:=id) λx hx=>?_).trans (nq _);refine (mj (g:=id) λc hc=>?_).trans (nq _);exact Yy (hp x hx c hc)
  ·intro row qo;rcases mc.1 qo with rfl|h
   ·exact td
   ·exact h2 row h
 | _,_,.raw hc hp hl,hm=>by
  obtain⟨h1,h2⟩:=RG.spec hle hl (λrow h=>hm row (nf _ h));refine⟨?_,?_⟩
  ·simp only[mg,h1,JU,oI,hc]
  ·intro row qo;rcases mc.1 qo with rfl|h
   ·intro x hx c xP;simp only[mv]at hx;subst hx;exact Dr (mL.1 hp c xP)
   ·exact h2 row h
theorem CJ (hg:RG st st st')(h:ME (λt=>Abs.rg st (e t)) L):Wk 0 ⟨n,e,st⟩ ⟨n,AN L,st'⟩:=λF os a w hr=>by
 have hle:∀row∈st,∀x∈row.xs,∀c∈x,c.kept=true:=λrow qo x hx c hc=>by
  have rH:=hr.st;simp only at rH;rw[<- rH]at qo;obtain⟨o,ho,rfl⟩:=mU.1 qo;obtain⟨i,hi⟩:=ma.1 ho;exact ((hr.rows i o hi).lens x hx).2 c hc
 obtain⟨h1,h2⟩:=hg.spec (st0:=st) hle (λ_ h=>h);have h3:Wk 0 ⟨n,e,st⟩ ⟨n,AN L,st'⟩:=by
  have:=Wk.jw (n:=n) (e:=e) (st:=st) (by rw[h1];exact h2);rw[h1]at this;exact this.trans (Ao h)
 exact h3 F os a w hr
theorem AK {α:Type}{l:List α}{enc:α->List AV}(h :∀x,(enc x).all simple=true):G1 (l.map enc):=λx hx c hc=>by
 obtain⟨y,_,rfl⟩:=mU.1 hx;exact mL.1 (h y) c hc
theorem Ay {α:Type}{l:List α}{enc:α->List AV}(h :∀x,(enc x).all simple=true):DF (l.map enc):=(AK h).any
theorem AP {α:Type}{l:List α}{enc:α->List AV}(h :∀x,(enc x).all Em=true):DF (l.map enc):=λx hx c hc=>by
 obtain⟨y,_,rfl⟩:=mU.1 hx;exact mL.1 (h y) c hc
theorem IC {cs:List AV}(h:cs.all simple=true):G1 [cs]:=λx hx c hc=>by
 simp only[mv]at hx;subst hx;exact mL.1 h c hc
end Go.Abs
